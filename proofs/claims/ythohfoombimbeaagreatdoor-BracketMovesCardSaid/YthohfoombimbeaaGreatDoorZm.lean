/- Layer 8: inRange. -/
import Derived.Test.YthohfoombimbeaaGreatDoorZf
namespace Go.Proofs.YthohfoombimbeaaGreatDoor
open Go Go.RowKit
set_option maxRecDepth 99999
set_option maxHeartbeats 8000000
set_option linter.unusedVariables false
set_option linter.unusedSimpArgs false
theorem w7(g c:Int):(g==c)=decide (g=c):=by
 cases h:(g==c)<;>simp_all
theorem y75(n:Nat)(x y g:Int)(ov:Bool)(hn:n<=64):Fn Tryz.prog 14 [I n,ei 1 x y g ov] (.bool (decide (-1<=x)&&(decide (x<4*n)&&(decide (y=0)&&(decide (g=1)||decide (g= -1)))))):=by
 refine Fn.intro [.tmp 4] Tryz.func14 rfl rfl (by decide) (by simp[Tryz.ntmps14]) ?_;rw[Tryz.ntmps14]
 repeat' (first|omega|(try apply ah);simp only[go_sem]|apply ag<;>(intro h_;(try simp only[h_]);revert h_)|apply zO|with_reducible intro h_|trivial)
 all_goals first|rfl|(simp_all;done)|(simp_all;omega)|(rw[w7];simp_all;done)|(rw[w7];simp_all;omega)|(rw[w7];simp_all;rw[zL (by omega)];done)|(rw[w7];simp_all;rw[zL (by omega)];simp_all;done)|(rw[w7,zL (by omega),zL (by omega)];first|(rw[zM (by omega)];simp_all;done)|(rw[zL (by omega)];simp_all;done))|trace_state
theorem y76(n:Nat)(x y g:Int)(ov:Bool)(hn:n<=64):Fn Tryz.prog 14 [I n,ei 2 x y g ov] (.bool (decide (0<=x)&&(decide (x<n)&&(decide (y=0)&&(decide (g=0)&& !ov))))):=by
 refine Fn.intro [.tmp 4] Tryz.func14 rfl rfl (by decide) (by simp[Tryz.ntmps14]) ?_;rw[Tryz.ntmps14]
 repeat' (first|omega|(try apply ah);simp only[go_sem]|apply ag<;>(intro h_;(try simp only[h_]);revert h_)|apply zO|with_reducible intro h_|trivial)
 all_goals first|rfl|(simp_all;done)|(simp_all;omega)|trace_state
theorem y77(n:Nat)(x y g:Int)(ov:Bool)(hn:n<=64):Fn Tryz.prog 14 [I n,ei 4 x y g ov] (.bool (decide (0<=x)&&(decide (x<y)&&(decide (y<n)&&(decide (g=0)&& !ov))))):=by
 refine Fn.intro [.tmp 4] Tryz.func14 rfl rfl (by decide) (by simp[Tryz.ntmps14]) ?_;rw[Tryz.ntmps14]
 repeat' (first|omega|(try apply ah);simp only[go_sem]|apply ag<;>(intro h_;(try simp only[h_]);revert h_)|apply zO|with_reducible intro h_|trivial)
 all_goals first|rfl|(simp_all;done)|(simp_all;omega)|trace_state
theorem y78(n:Nat)(x y g:Int)(ov:Bool)(hn:n<=64):Fn Tryz.prog 14 [I n,ei 5 x y g ov] (.bool (decide (0<=x)&&(decide (x<4*n)&&(decide (y=0)&&(decide (g=0)&& !ov))))):=by
 refine Fn.intro [.tmp 4] Tryz.func14 rfl rfl (by decide) (by simp[Tryz.ntmps14]) ?_;rw[Tryz.ntmps14]
 repeat' (first|omega|(try apply ah);simp only[go_sem]|apply ag<;>(intro h_;(try simp only[h_]);revert h_)|apply zO|with_reducible intro h_|trivial)
 all_goals first|rfl|(simp_all;done)|(simp_all;omega)|trace_state
theorem y79(n:Nat)(x y g:Int)(ov:Bool)(hn:n<=64):Fn Tryz.prog 14 [I n,ei 3 x y g ov] (.bool (if x< -2\/4*(n:Int)<=x\/y< -2\/4*(n:Int)<=y then false else if x≠y then decide (g=0) else if x<0 then decide (g=0)||decide (g=1) else decide (g=1)||decide (g= -1))):=by
 refine Fn.intro [.tmp 4] Tryz.func14 rfl rfl (by decide) (by simp[Tryz.ntmps14]) ?_;rw[Tryz.ntmps14]
 repeat' (first|omega|(try apply ah);simp only[go_sem]|apply ag<;>(intro h_;(try simp only[h_]);revert h_)|apply zO|with_reducible intro h_|trivial)
 all_goals first|rfl|(simp_all;done)|(simp_all;omega)|(rw[w7];simp_all;done)|(rw[w7];simp_all;omega)|(rw[w7];simp_all;rw[zL (by omega)];done)|(rw[w7];simp_all;rw[zL (by omega)];simp_all;done)|(rw[w7,zL (by omega),zL (by omega)];first|(rw[zM (by omega)];simp_all;done)|(rw[zL (by omega)];simp_all;done))|trace_state
def Qt(n:Nat)(k x y g:Int):Prop:=(k=1-> -1<=x/\x<4*n/\(g=1\/g= -1))/\(k=2->0<=x/\x<n/\g=0)/\(k=4->0<=x/\x<y/\y<n/\g=0)/\(k=5->0<=x/\x<4*n/\g=0)/\(k=3-> -2<=x/\x<4*n/\ -2<=y/\y<4*n/\(x≠y->g=0)/\(x=y->x<0->g=0\/g=1)/\(x=y->0<=x->g=1\/g= -1))
theorem X2(n:Nat)(k x y g:Int)(ov:Bool)(hn:n<=64)(h1:1<=k)(h5:k<=5):∃b:Bool,Fn Tryz.prog 14 [I n,ei k x y g ov] (.bool b)/\(b=true->Qt n k x y g):=by
 rcases (show k=1\/k=2\/k=3\/k=4\/k=5 by omega) with rfl|rfl|rfl|rfl|rfl
 ·refine⟨_,y75 n x y g ov hn,fun h=>?_⟩;simp only[zV,Bool.or_eq_true,decide_eq_true_eq]at h;exact⟨fun _=>⟨h.1,h.2.1,h.2.2.2⟩,fun h=>by omega,fun h=>by omega,fun h=>by omega,fun h=>by omega⟩
 ·refine⟨_,y76 n x y g ov hn,fun h=>?_⟩;simp only[zV,Bool.or_eq_true,decide_eq_true_eq]at h;exact⟨fun h=>by omega,fun _=>⟨h.1,h.2.1,h.2.2.2.1⟩,fun h=>by omega,fun h=>by omega,fun h=>by omega⟩
 ·refine⟨_,y79 n x y g ov hn,fun h=>?_⟩;refine⟨fun h=>by omega,fun h=>by omega,fun h=>by omega,fun h=>by omega,fun _=>?_⟩
  split at h
  ·cases h
  ·refine⟨by omega,by omega,by omega,by omega,fun e=>?_,fun e e0=>?_,fun e e0=>?_⟩
   ·rw[zM e]at h;exact of_decide_eq_true h
   ·rw[zL (by simpa using e),zM e0]at h;simpa using h
   ·rw[zL (by simpa using e),zL (by omega)]at h;simpa using h
 ·refine⟨_,y77 n x y g ov hn,fun h=>?_⟩;simp only[zV,Bool.or_eq_true,decide_eq_true_eq]at h;exact⟨fun h=>by omega,fun h=>by omega,fun _=>⟨h.1,h.2.1,h.2.2.1,h.2.2.2.1⟩,fun h=>by omega,fun h=>by omega⟩
 ·refine⟨_,y78 n x y g ov hn,fun h=>?_⟩;simp only[zV,Bool.or_eq_true,decide_eq_true_eq]at h;exact⟨fun h=>by omega,fun h=>by omega,fun h=>by omega,fun _=>⟨h.1,h.2.1,h.2.2.2.1⟩,fun h=>by omega⟩
def eY(part:List Int):Nat->Nat->List Int
 |0,_=>[]
 |c+1,p=>if part.getD c 0=(p:Int) then eY part c p++[(c:Int)] else eY part c p
theorem LW(part:List Int):∀c p,(eY part c p).length<=c
 |0,_=>by simp[eY]
 |c+1,p=>by
  have:=LW part c p
  simp only[eY]
  split
  ·rw[zG];simp;omega
  ·omega
def pj(g:Nat->List Int)(p:Nat):AV:=if (g p).length=0 then .nils else .sl 1 (10+p) 0 (g p).length
def jZ(g:Nat->List Int)(k:Nat):List AV:=(List.range k).map (pj g)
def rD(g:Nat->List Int):Nat->Hp
 |0=>[]
 |k+1=>if (g k).length=0 then rD g k else (10+k,.cells 3 (.ints (g k)))::rD g k
theorem Ip(g:Nat->List Int)(k:Nat):(jZ g k).length=k:=by simp[jZ]
theorem ZU(g:Nat->List Int){k p:Nat}(h:p<k):(jZ g k).getD p .any=pj g p:=by simp[jZ,zB,h]
theorem Io(g:Nat->List Int):∀k i,hget (rD g k) i=if 10<=i/\i<10+k/\(g (i-10)).length≠0 then some (.cells 3 (.ints (g (i-10)))) else none
 |0,i=>by simp only[rD,hget];rw[zL (by omega)]
 |k+1,i=>by
  have ih:=Io g k i;simp only[rD];by_cases h0:(g k).length=0
  ·rw[zM h0,ih];by_cases e:i=10+k
   ·subst e;rw[zL (by omega),zL];rintro⟨_,_,h⟩;rw[show 10+k-10=k by omega]at h;exact h h0
   ·by_cases h:10<=i/\i<10+k/\(g (i-10)).length≠0
    ·rw[zM h,zM ⟨h.1,by omega,h.2.2⟩]
    ·rw[zL h,zL fun h'=>h ⟨h'.1,by omega,h'.2.2⟩]
  ·rw[zL h0];simp only[hget];by_cases e:10+k=i
   ·subst e;rw[zM rfl,zM ⟨by omega,by omega,by rw[show 10+k-10=k by omega];exact h0⟩,show 10+k-10=k by omega]
   ·rw[zL e,ih];by_cases h:10<=i/\i<10+k/\(g (i-10)).length≠0
    ·rw[zM h,zM ⟨h.1,by omega,h.2.2⟩]
    ·rw[zL h,zL fun h'=>h ⟨h'.1,by omega,h'.2.2⟩]
theorem iu{g:Nat->List Int}{k p:Nat}(h:p<k)(h0:(g p).length≠0):hget (rD g k) (10+p)=some (.cells 3 (.ints (g p))):=by
 rw[Io,show 10+p-10=p by omega,zM ⟨by omega,by omega,h0⟩]
theorem Ra(g:Nat->List Int):∀k,hnew (rD g k)<=10+k
 |0=>by simp[rD,hnew]
 |k+1=>by
  have:=Ra g k
  simp only[rD]
  split
  ·omega
  ·simp only[hnew];omega
abbrev G1(g:Nat->List Int)(k:Nat):Hp:=(1000000,.cells 22 (.lst (jZ g k)))::rD g k
def Ku:Hp:=[(1000000,.gone)]
theorem Sg{k:Nat}(h:k≠1000000):(hget Ku k).isSome=false:=by
 simp only[Ku,hget];rw[zL fun e=>h e.symm];rfl
theorem Nx(g:Nat->List Int)(k:Nat):∀i o,hget (G1 g k) i=some o->sO (G1 g k) o=true:=by
 intro i o h;simp only[hget]at h
 split at h
 ·cases h;refine zZ.2 fun x hx=>?_;obtain⟨p,hp,rfl⟩:=zzE.1 hx;have qL:=zK.1 hp;unfold pj
  split
  ·rfl
  ·rename_i h0
   have h1:=iu qL h0;simp only[s3,s2,s1,hget]
   split
   ·rfl
   ·rw[h1];rfl
 ·rw[Io]at h
  split at h
  ·cases h;rfl
  ·cases h
theorem UT{F A:Fr}{X:Hp}{g:Nat->List Int}{k:Nat}(aP r:Nat){xs:List AV}(hn:1000001<=aP)(hr:10<=r/\r<1000000)(hk:k<=900000)(h0:hget X 1000000=some (.cells 22 (.lst xs)))(hx:xs.map (swV aP r 4)=jZ g k)
  (OM:∀p,p<k->(g p).length≠0->hget X (swI aP r (10+p))=some (.cells 3 (.ints (g p)))) (hA:subF F Ku A):Wk F X A (G1 g k):=by
 have on:=Sg (k:=aP) (by omega);have or':=Sg (k:=r) (by omega);refine(Wk.swap aP r F X).trans (Wk.NL (fun t=>?_) fun i o h=>⟨?_,Nx g k i o h⟩)
 ·rw[Mm];rcases I8 hA t with e|⟨e,e2⟩
  ·exact .inl e
  ·right;rw[<-e];refine⟨(y7j on or' 1 _ e2).symm,y7i (fun j hj=>?_) _ e2⟩;simp only[Ku,hget]at hj
   split at hj
   ·rename_i e3;subst e3;rfl
   ·cases hj
 ·rw[Tw];simp only[hget]at h
  split at h
  ·rename_i e
   subst e;cases h;rw[show swI aP r 1000000=1000000 by unfold swI;rw[zL (by omega),zL (by omega)],h0];simp only[Option.map_some,swO,hx]
  ·rw[Io]at h
   split at h
   ·rename_i hi
    cases h
    have:=OM (i-10) (by omega) hi.2.2
    rw[show 10+(i-10)=i by omega]at this;rw[this];rfl
   ·cases h
theorem RC{g:Nat->List Int}{aP r p:Nat}(h1:10+p≠aP)(h2:10+p≠r):swV aP r 4 (pj g p)=pj g p:=by
 unfold pj
 split
 ·rfl
 ·simp only[swV,swI];rw[zL h1,zL h2]
theorem ZT{g g':Nat->List Int}{k p aP:Nat}(hp:p<k)(hn:10+k<=aP)(h1:(g' p).length=1)(h2:∀q,q≠p->g' q=g q):((jZ g k).set p (.sl 1 aP 0 1)).map (swV aP (10+p) 4)=jZ g' k:=by
 apply List.ext_getElem?;intro i;rw[zR,List.getElem?_set,Ip];by_cases e:p=i
 ·subst e;rw[zM rfl,zM hp];simp only[jZ,zR,List.getElem?_range hp,Option.map_some,swV,swI,if_true];unfold pj;rw[zL (by omega),h1]
 ·rw[zL e];by_cases hi:i<k
  ·simp only[jZ,zR,List.getElem?_range hi,Option.map_some];rw[RC (by omega) (by omega)];unfold pj;rw[h2 i (Ne.symm e)]
  ·simp[jZ,hi]
theorem ZS{g g':Nat->List Int}{k p r aP:Nat}(hp:p<k)(hn:10+k<=aP)(hr:10+k<=r)(h1:(g' p).length=(g p).length+1)(h2:∀q,q≠p->g' q=g q):((jZ g k).set p (.sl 1 (10+p) 0 ((g p).length+1))).map (swV aP r 4)=jZ g' k:=by
 apply List.ext_getElem?;intro i;rw[zR,List.getElem?_set,Ip];by_cases e:p=i
 ·subst e;rw[zM rfl,zM hp];simp only[jZ,zR,List.getElem?_range hp,Option.map_some,swV,swI];rw[zL (by omega),zL (by omega)];unfold pj;rw[zL (by omega),h1]
 ·rw[zL e];by_cases hi:i<k
  ·simp only[jZ,zR,List.getElem?_range hi,Option.map_some];rw[RC (by omega) (by omega)];unfold pj;rw[h2 i (Ne.symm e)]
  ·simp[jZ,hi]
theorem G0(part:List Int)(k:Nat):G1 (eY part 0) k=[(1000000,.cells 22 (.lst (List.replicate k .nils)))]:=by
 have h1:jZ (eY part 0) k=List.replicate k .nils:=by
  apply List.ext_getElem?;intro i;by_cases hi:i<k<;>simp[jZ,hi,pj,eY]
 have h2:∀j,rD (eY part 0) j=[]:=fun j=>by
  induction j with
  |zero=>rfl
  |succ j ih=>simp only[rD];rw[zM (by simp[eY]),ih]
 show (1000000,AObj.cells 22 (.lst (jZ (eY part 0) k)))::rD (eY part 0) k=_;rw[h1,h2]
theorem LV{g:Nat->List Int}{f:Nat×AObj->Bool}(h:∀i l,f (i,.cells 3 (.ints l))=true):∀k,(rD g k).all f=true
 |0=>rfl
 |k+1=>by
  simp only[rD]
  split
  ·exact LV h k
  ·rw[List.all_cons,h,LV h k];rfl
theorem ZR{g:Nat->List Int}{p q:Nat}(h:q≠p):cutV (10+p) (pj g q)=pj g q:=by
 unfold pj
 split
 ·rfl
 ·have e:(10+q !=10+p)=true:=by rw[bne_iff_ne];omega
  simp[cutV,n3,n2,n1,e];omega
theorem ZQ{g g':Nat->List Int}{k p r aP:Nat}(hp:p<k)(hn:10+k<=aP)(hr:10+k<=r)(h1:(g' p).length=(g p).length+1)(h2:∀q,q≠p->g' q=g q):(((jZ g k).map (cutV (10+p))).set p (.sl 1 (10+p) 0 ((g p).length+1))).map (swV aP r 4)=jZ g' k:=by
 rw[<-ZS hp hn hr h1 h2];congr 1;apply List.ext_getElem?;intro i;rw[List.getElem?_set,List.getElem?_set,List.length_map];by_cases e:p=i
 ·rw[zM e,zM e]
 ·rw[zL e,zL e];by_cases hi:i<k
  ·simp only[jZ,zR,List.getElem?_range hi,Option.map_some];rw[ZR (Ne.symm e)]
  ·simp[jZ,hi]
theorem Lx(part:List Int){p:Nat}(a:Nat)(e:part.getD a 0=(p:Int)):∀c,a<c->(a:Int)∈eY part c p
 |0,h=>by omega
 |c+1,h=>by
  simp only[eY];by_cases h1:a=c
  ·subst h1;rw[zM e];simp
  ·have:=Lx part a e c (by omega)
   split
   ·exact List.mem_append_left _ this
   ·exact this
theorem HT(part:List Int){p:Nat}:∀c x,x∈eY part c p->∃a:Nat,x=a/\a<c/\part.getD a 0=(p:Int)
 |0,x,h=>by cases h
 |c+1,x,h=>by
  simp only[eY]at h
  split at h
  ·rename_i e
   rcases List.mem_append.1 h with h|h
   ·obtain⟨a,h1,h2,h3⟩:=HT part c x h;exact⟨a,h1,by omega,h3⟩
   ·rw[zP]at h;exact⟨c,h,by omega,e⟩
  ·obtain⟨a,h1,h2,h3⟩:=HT part c x h;exact⟨a,h1,by omega,h3⟩
theorem y09(s m:List Int)(L:Int)(hv:bG s m L=true):∃k:Nat,(dY m s.length).2=k/\k<=s.length/\Fn Tryz.prog 53 [dgA s m L] (.ro 1 k (.lst ((List.range k).map fun p=>roI (eY (dY m s.length).1 s.length p)))):=by
 have v1:=gP hv;have fM:=v1.s64;have hm:=v1.prd.ok;obtain⟨p1,p2,p3,p4⟩:=EU hm;obtain⟨k,hk⟩:∃k:Nat,(dY m s.length).2=k:=⟨(dY m s.length).2.toNat,by omega⟩;have hV:=C4 s m L;rw[hv]at hV;have Wz:=SL s m L (by omega) hm;rw[hk]at Wz p4 p3;refine⟨k,hk,by omega,?_⟩;have O7:∀p,p<k->(eY (dY m s.length).1 s.length p).length≠0:=fun p hp=>by
  obtain⟨a,ha,e⟩:=T8 v1.prd (p:=p) (by rw[hk];omega)
  have:=Lx (dY m s.length).1 (p:=p) a e s.length ha
  intro h0;rw[zT h0]at this;cases this
 generalize o8:(dY m s.length).1=part at*;have aJ:∀p,p<k->(eY part part.length p).length≠0:=fun p hp=>by rw[p1];exact O7 p hp
 rw[<-p1];rw[<-p1]at p4 p3;have h64':part.length<=64:=by omega
 have pr:∀c,c<part.length->∃p:Nat,part.getD c 0=p/\p<k:=fun c hc=>⟨(part.getD c 0).toNat,by have:=p4 c hc;omega,by have:=p4 c hc;omega⟩;clear p1 hk hm v1 fM p4 p2;refine Fn.av [.tmp 2] Tryz.func53 rfl rfl (by decide) (by simp[Tryz.ntmps53]) ?_;rw[Tryz.ntmps53]
 repeat' (first|omega|(try apply ah);simp only[go_sem]|apply ag<;>(intro h_;(try simp only[h_]);revert h_)|apply zO|with_reducible intro h_|trivial)
 refine⟨aL.fn rfl hV ?_⟩
 repeat' (first|omega|(try apply ah);simp only[go_sem]|apply ag<;>(intro h_;(try simp only[h_]);revert h_)|apply zO|with_reducible intro h_|trivial)
 refine⟨aL.fn rfl Wz ?_⟩
 repeat' (first|omega|(try apply ah);simp only[go_sem]|apply ag<;>(intro h_;(try simp only[h_]);revert h_)|apply zO|with_reducible intro h_|trivial)
 refine dr.intro (fun n' fr H=>∃c:Nat,c<=part.length/\n'=part.length-c/\fr=[(20,I c),(19,I part.length),(18,roI part),(5,.sl 1 1000000 0 k)]/\H=G1 (eY part c) k) ?_ ?_
 ·refine⟨_,_,_,?_,0,by omega,rfl,rfl,rfl⟩;rw[G0];refine Wk.Bi 1 1000000 (fr1:=[(20,I 0),(19,I part.length),(18,roI part),(5,.sl 1 1 0 k)]) (H1:=[(1,.cells 22 (.lst (List.replicate k .nils)))]) rfl (by simp only[swH,swO,swI,List.map_replicate,swV];rfl) rfl (by simp only[swH,swO,swI,List.map_replicate,swV];rfl) ?_ ?_
  ·simp only[go_sem]
  ·simp only[go_sem];refine⟨?_,zZ.2 fun x hx=>?_⟩
   ·have:∀j,(List.replicate j [AV.nils]).flatten=List.replicate j AV.nils:=fun j=>by
     induction j with
     |zero=>rfl
     |succ j ih=>simp only[List.replicate_succ,List.flatten_cons,ih,List.cons_append,List.nil_append]
    exact this k
   ·rw[(List.mem_replicate.1 hx).2];rfl
 rintro n' fr H ⟨c,hc,rfl,rfl,rfl⟩;by_cases GL:c<part.length
 ·have bc:decide ((c:Int)<part.length)=true:=by simp;omega
  obtain⟨p,hp,qL⟩:=pr c GL;have g0:=ZU (eY part c) qL;have gl:=Ip (eY part c) k;have Wt:max 1000001 (hnew (rD (eY part c) k))=1000001:=by have:=Ra (eY part c) k;omega
  have gs:eY part (c+1) p=eY part c p++[(c:Int)]:=by simp only[eY];rw[zM hp]
  have gn:∀q,q≠p->eY part (c+1) q=eY part c q:=fun q hq=>by simp only[eY];rw[zL (by omega)]
  have gb:=LW part c p;by_cases h0:(eY part c p).length=0
  ·have g1:(jZ (eY part c) k).getD p .any= .nils:=by rw[g0];unfold pj;rw[zM h0]
   repeat' (first|omega|(try apply ah);simp only[go_sem,bc,hp,g1,gl,Wt]|apply ag<;>(intro h_;(try simp only[h_]);revert h_)|apply zO|with_reducible intro h_|trivial)
   refine⟨_,_,_,?_,UT (g:=eY part (c+1)) 1000002 (10+p) (by omega) (by omega) (by omega) rfl ?_ (fun q hq mD=>?_) ?_,c+1,by omega,rfl,rfl,rfl⟩
   ·omega
   ·exact ZT qL (by omega) (by rw[gs,zG,h0];rfl) gn
   ·simp only[swI];by_cases e:q=p
    ·subst e;rw[zL (by omega),zM rfl,gs,zT h0];rfl
    ·rw[zL (by omega),zL (by omega),gn q e];rw[gn q e]at mD;simp only[hget];rw[zL (by omega),zL (by omega),zL (by omega)];exact iu hq mD
   ·simp only[go_sem]
    all_goals rfl
  ·have g1:(jZ (eY part c) k).getD p .any= .sl 1 (10+p) 0 (eY part c p).length:=by rw[g0];unfold pj;rw[zL h0]
   have gr:=iu qL h0;have e0:(1000000=10+p)=False:=zN (by omega);have e1:(1000001=10+p)=False:=zN (by omega);have ga:=fun (f:Nat×AObj->Bool) (h:∀i l,f (i,.cells 3 (.ints l))=true)=>LV (g:=eY part c) h k;have e2:(10+p=1000000)=False:=zN (by omega);have e3:(10+p=1000001)=False:=zN (by omega)
   repeat' (first|omega|(try apply ah);simp only[go_sem,bc,hp,g1,gl,Wt,gr,e0,e1,e2,e3,ga,zzF,List.length_map]|apply ag<;>(intro h_;(try simp only[h_]);revert h_)|apply zO|with_reducible intro h_|trivial)
   refine⟨_,_,_,?_,UT (g:=eY part (c+1)) 1000001 (10+k) (by omega) (by omega) (by omega) (by simp only[hget,e2,if_false];rfl) (ZQ qL (by omega) (by omega) (by rw[gs,zG];rfl) gn) (fun q hq mD=>?_) ?_,c+1,by omega,rfl,rfl,rfl⟩
   ·omega
   ·simp only[swI];rw[zL (by omega),zL (by omega)];by_cases e:q=p
    ·subst e;rw[gs];simp only[hget];rw[zM trivial]
    ·rw[gn q e];rw[gn q e]at mD;simp only[hget];rw[zL (by omega),zL (by omega),zL (by omega),CX,zL (by omega),iu hq mD];rfl
   ·simp only[go_sem]
    all_goals rfl
 ·obtain rfl:c=part.length:=by omega
  have bc:decide ((part.length:Int)<part.length)=false:=by simp
  have uN:∀p,p<k->pj (eY part part.length) p= .sl 1 (10+p) 0 (eY part part.length p).length:=fun p hp=>by
   unfold pj;rw[zL (aJ p hp)]
  repeat' (first|omega|(try apply ah);simp only[go_sem,bc,Ip]|apply ag<;>(intro h_;(try simp only[h_]);revert h_)|apply zO|with_reducible intro h_|trivial)
  ·have hx:=‹_∈jZ (eY part part.length) k›;obtain⟨p,hp,rfl⟩:=zzE.1 hx;have qL:=zK.1 hp;rw[uN p qL];simp only[dO];have hr:=iu (g:=eY part part.length) qL (aJ p qL);have e0:(1000000=10+p)=False:=zN (by omega);simp only[hget,e0,if_false,hr];exact⟨by omega,by simp[Cs.len]⟩
  ·refine aT.of ?_;rw[zU (by simp[jZ])];congr 2;unfold jZ;rw[List.map_map];refine List.map_congr_left fun p hp=>?_;have qL:=zK.1 hp;have hr:=iu (g:=eY part part.length) qL (aJ p qL);have e0:(1000000=10+p)=False:=zN (by omega);show snap _ 5 (pj (eY part part.length) p)=_;rw[uN p qL];simp only[snap,hget,e0,if_false,hr];simp only[Cs.rN]
   show AV.ro 1 _ (Cs.ints (((eY part part.length p).drop 0).take _))=_;rw[List.drop_zero];simp
end Go.Proofs.YthohfoombimbeaaGreatDoor
set_option linter.unusedSimpArgs false
set_option linter.unusedVariables false
namespace Go.Proofs.YthohfoombimbeaaGreatDoor
open Go Go.RowKit
set_option maxRecDepth 99999
set_option maxHeartbeats 4000000
theorem y4h(g:Nat)(c:Cs)(nx:Int->Int)(x:Int)(k:Nat)(hk:xE nx x k)(hb:k<=100000)(hf:∀j,j<k->Fn Tryz.prog g [I (it nx j x),.rp c 0] (I (it nx (j+1) x))):
  Fn Tryz.prog 97 [I x,.fn g [.rp c 0]] (roI (its nx x k)):=by
 have k0:=hk.pos;refine Fn.intro [.tmp 4] Tryz.func97 rfl rfl (by decide) (by simp[Tryz.ntmps97]) ?_;rw[Tryz.ntmps97]
 repeat' (first|omega|(try apply ah);simp only[go_sem]|apply ag<;>(intro h_;(try simp only[h_]);revert h_)|apply zO|with_reducible intro h_|trivial)
 refine⟨aL.fn rfl (hf 0 k0) ?_⟩
 repeat' (first|omega|(try apply ah);simp only[go_sem]|apply ag<;>(intro h_;(try simp only[h_]);revert h_)|apply zO|with_reducible intro h_|trivial)
 refine dr.intro (fun n fr H=>∃j:Nat,0<j/\j<=k/\n=k-j/\fr=[(6,I (it nx j x)),(5,.sl 1 0 0 j),(1,.fn g [.rp c 0]),(0,I x)]/\H=[(0,.cells 3 (.ints (its nx x j)))]) ?_ ?_
 ·refine⟨_,_,_,?_,1,by omega,by omega,rfl,rfl,rfl⟩;refine Wk.sub ?_ ?_<;>simp only[go_sem];rfl
 rintro n fr H ⟨j,hj,AA,rfl,rfl,rfl⟩;have e1:=LQ nx x j;have e2:=LQ nx x k;by_cases dH:j<k
 ·have aJ:=hk.first j hj dH
  repeat' (first|omega|(try apply ah);simp only[go_sem]|apply ag<;>(intro h_;(try simp only[h_]);revert h_)|apply zO|with_reducible intro h_|trivial)
  refine⟨aL.fn rfl (hf j dH) ?_⟩
  repeat' (first|omega|(try apply ah);simp only[go_sem]|apply ag<;>(intro h_;(try simp only[h_]);revert h_)|apply zO|with_reducible intro h_|trivial)
  refine⟨_,_,_,?_,?_,⟨j+1,by omega,by omega,rfl,rfl,rfl⟩⟩
  ·omega
  ·refine Wk.sub ?_ ?_<;>simp only[go_sem];exact(Tj nx x j).symm
 ·obtain rfl:j=k:=by omega
  have aJ:=hk.back
  repeat' (first|omega|(try apply ah);simp only[go_sem]|apply ag<;>(intro h_;(try simp only[h_]);revert h_)|apply zO|with_reducible intro h_|trivial)
  exact zU (by omega)
theorem X1(N:Nat)(w g:Nat)(c:Cs)(want:Int->Bool)(b8:Int->List Int)(hN:N<=10000)(hw:∀h:Nat,h<N->Fn Tryz.prog w [I h] (.bool (want h)))
  (ho:∀h:Nat,h<N->want h=true->(b8 h).length<=N/\(∀x∈b8 h,0<=x/\x<N)/\Fn Tryz.prog 97 [I h,.fn g [.rp c 0]] (roI (b8 h))):
  Fn Tryz.prog 82 [I N,.fn w [],.fn g [.rp c 0]] (oN (bt N want b8 N).1):=by
 refine Fn.av [.tmp 6] Tryz.func82 rfl rfl (by decide) (by simp[Tryz.ntmps82]) ?_;rw[Tryz.ntmps82]
 repeat' (first|omega|(try apply ah);simp only[go_sem]|apply ag<;>(intro h_;(try simp only[h_]);revert h_)|apply zO|with_reducible intro h_|trivial)
 refine dr.intro (fun n fr H=>∃h:Nat,h<=N/\n=N-h/\(((bt N want b8 h).1=[]/\fr=[(16,I h),(15,I N),(8,.sl 1 0 0 N),(7,.nils),(1,.fn w []),(2,.fn g [.rp c 0])]/\H=[(0,.cells 4 (.bools (bt N want b8 h).2))])\/
  (fr=[(16,I h),(15,I N),(8,.sl 1 0 0 N),(7,.sl 1 2 0 (bt N want b8 h).1.length),(1,.fn w []),(2,.fn g [.rp c 0])]/\H=[(2,.cells 22 (.lst ((bt N want b8 h).1.map sP))),(0,.cells 4 (.bools (bt N want b8 h).2))]))) ?_ ?_
 ·refine⟨_,_,_,?_,0,by omega,rfl,.inl ⟨rfl,rfl,rfl⟩⟩;refine Wk.sub ?_ ?_<;>simp only[go_sem];rfl
 rintro n fr H ⟨h,hh,rfl,iS⟩;obtain⟨e1,e2⟩:=I7 N want b8 h;rcases iS with ⟨iG,rfl,rfl⟩|⟨rfl,rfl⟩
 ·by_cases aC:h<N
  ·have Oz:=hw h aC
   repeat' (first|omega|(try apply ah);simp only[go_sem]|apply ag<;>(intro h_;(try simp only[h_]);revert h_)|apply zO|with_reducible intro h_|trivial)
   ·refine⟨aL.fn rfl Oz ?_⟩
    repeat' (first|omega|(try apply ah);simp only[go_sem]|apply ag<;>(intro h_;(try simp only[h_]);revert h_)|apply zO|with_reducible intro h_|trivial)
    ·have hwt:want h=false:=by assumption
     have eS:bt N want b8 (h+1)=bt N want b8 h:=by simp only[bt,nR];rw[zM (by rw[hwt];simp)]
     refine⟨_,_,_,?_,?_,⟨h+1,by omega,rfl,.inl ⟨by rw[eS];exact iG,rfl,rfl⟩⟩⟩
     ·omega
     ·refine Wk.sub ?_ ?_<;>(simp only[go_sem];try rw[eS];try simp only[yem,and_self])
    ·have hwt:want h=true:=by assumption
     have Dx:(bt N want b8 h).2.getD h false=false:=by assumption
     have eS:bt N want b8 (h+1)=((bt N want b8 h).1++[b8 h],lH (bt N want b8 h).2 (b8 h)):=by simp only[bt,nR];rw[zL (by rw[hwt,Dx];simp)]
     obtain⟨o1,o2,o3⟩:=ho h aC hwt;refine⟨aL.fn rfl o3 ?_⟩
     repeat' (first|omega|(try apply ah);simp only[go_sem]|apply ag<;>(intro h_;(try simp only[h_]);revert h_)|apply zO|with_reducible intro h_|trivial)
     generalize (bt N want b8 h).2=jC at*
     refine dr.intro (fun n fr H=>∃k:Nat,k<=(b8 h).length/\n=(b8 h).length-k/\fr=[(34,I k),(33,I (b8 h).length),(32,roI (b8 h)),(10,roI (b8 h)),(16,I h),(15,I N),(8,.sl 1 0 0 N),(7,.nils),(1,.fn w []),(2,.fn g [.rp c 0])]/\
      H=[(0,.cells 4 (.bools (lH jC ((b8 h).take k))))]) ?_ ?_
     ·refine⟨_,_,_,?_,0,by omega,rfl,rfl,rfl⟩;refine Wk.sub ?_ ?_<;>simp only[go_sem]
      all_goals simp[lH]
     rintro n fr H ⟨k,hk,rfl,rfl,rfl⟩;have ml:=MU ((b8 h).take k) jC;by_cases cX:k<(b8 h).length
     ·have hr:=o2 ((b8 h).getD k 0) (by simp[cX])
      repeat' (first|omega|(try apply ah);simp only[go_sem]|apply ag<;>(intro h_;(try simp only[h_]);revert h_)|apply zO|with_reducible intro h_|trivial)
      refine⟨_,_,_,?_,?_,⟨k+1,by omega,rfl,rfl,rfl⟩⟩
      ·omega
      ·refine Wk.sub ?_ ?_<;>simp only[go_sem];rw[List.take_succ_eq_append_getElem cX,Nq];simp[lH,cX]
     ·obtain rfl:k=(b8 h).length:=by omega
      rw[zU (zA _)]
      repeat' (first|omega|(try apply ah);simp only[go_sem]|apply ag<;>(intro h_;(try simp only[h_]);revert h_)|apply zO|with_reducible intro h_|trivial)
      refine⟨_,_,_,?_,?_,⟨h+1,by omega,rfl,.inr ⟨rfl,rfl⟩⟩⟩
      ·omega
      ·refine Wk.sub ?_ ?_<;>(simp only[go_sem];rw[eS];simp only[go_sem])
       all_goals simp_all[sP]
   ·have bT:(bt N want b8 h).2.getD h false=true:=by assumption
    have eS:bt N want b8 (h+1)=bt N want b8 h:=by simp only[bt,nR];rw[zM (by rw[bT];simp)]
    refine⟨_,_,_,?_,?_,⟨h+1,by omega,rfl,.inl ⟨by rw[eS];exact iG,rfl,rfl⟩⟩⟩
    ·omega
    ·refine Wk.sub ?_ ?_<;>(simp only[go_sem];try rw[eS];try simp only[yem,and_self])
  ·obtain rfl:h=N:=by omega
   repeat' (first|omega|(try apply ah);simp only[go_sem]|apply ag<;>(intro h_;(try simp only[h_]);revert h_)|apply zO|with_reducible intro h_|trivial)
   all_goals first|(rw[iG];exact aT.nils (by omega) rfl)|(exact Tx _ _ _ _ ‹_›)|exact aT.of (by rw[zU (by simp)])
 ·by_cases aC:h<N
  ·have Oz:=hw h aC
   repeat' (first|omega|(try apply ah);simp only[go_sem]|apply ag<;>(intro h_;(try simp only[h_]);revert h_)|apply zO|with_reducible intro h_|trivial)
   ·refine⟨aL.fn rfl Oz ?_⟩
    repeat' (first|omega|(try apply ah);simp only[go_sem]|apply ag<;>(intro h_;(try simp only[h_]);revert h_)|apply zO|with_reducible intro h_|trivial)
    ·have hwt:want h=false:=by assumption
     have eS:bt N want b8 (h+1)=bt N want b8 h:=by simp only[bt,nR];rw[zM (by rw[hwt];simp)]
     refine⟨_,_,_,?_,?_,⟨h+1,by omega,rfl,.inr ⟨rfl,rfl⟩⟩⟩
     ·omega
     ·refine Wk.sub ?_ ?_<;>(simp only[go_sem];try rw[eS];try simp only[yem,and_self])
    ·have hwt:want h=true:=by assumption
     have Dx:(bt N want b8 h).2.getD h false=false:=by assumption
     have eS:bt N want b8 (h+1)=((bt N want b8 h).1++[b8 h],lH (bt N want b8 h).2 (b8 h)):=by simp only[bt,nR];rw[zL (by rw[hwt,Dx];simp)]
     obtain⟨o1,o2,o3⟩:=ho h aC hwt;refine⟨aL.fn rfl o3 ?_⟩
     repeat' (first|omega|(try apply ah);simp only[go_sem]|apply ag<;>(intro h_;(try simp only[h_]);revert h_)|apply zO|with_reducible intro h_|trivial)
     generalize (bt N want b8 h).2=jC at*
     refine dr.intro (fun n fr H=>∃k:Nat,k<=(b8 h).length/\n=(b8 h).length-k/\fr=[(34,I k),(33,I (b8 h).length),(32,roI (b8 h)),(10,roI (b8 h)),(16,I h),(15,I N),(8,.sl 1 0 0 N),(7,.sl 1 2 0 (bt N want b8 h).1.length),(1,.fn w []),(2,.fn g [.rp c 0])]/\
      H=[(2,.cells 22 (.lst ((bt N want b8 h).1.map sP))),(0,.cells 4 (.bools (lH jC ((b8 h).take k))))]) ?_ ?_
     ·refine⟨_,_,_,?_,0,by omega,rfl,rfl,rfl⟩;refine Wk.sub ?_ ?_<;>simp only[go_sem]
      all_goals simp[lH]
     rintro n fr H ⟨k,hk,rfl,rfl,rfl⟩;have ml:=MU ((b8 h).take k) jC;by_cases cX:k<(b8 h).length
     ·have hr:=o2 ((b8 h).getD k 0) (by simp[cX])
      repeat' (first|omega|(try apply ah);simp only[go_sem]|apply ag<;>(intro h_;(try simp only[h_]);revert h_)|apply zO|with_reducible intro h_|trivial)
      refine⟨_,_,_,?_,?_,⟨k+1,by omega,rfl,rfl,rfl⟩⟩
      ·omega
      ·refine Wk.sub ?_ ?_<;>simp only[go_sem];rw[List.take_succ_eq_append_getElem cX,Nq];simp[lH,cX]
     ·obtain rfl:k=(b8 h).length:=by omega
      rw[zU (zA _)]
      repeat' (first|omega|(try apply ah);simp only[go_sem]|apply ag<;>(intro h_;(try simp only[h_]);revert h_)|apply zO|with_reducible intro h_|trivial)
      refine⟨_,_,_,?_,?_,⟨h+1,by omega,rfl,.inr ⟨rfl,rfl⟩⟩⟩
      ·omega
      ·refine Wk.sub ?_ ?_<;>(simp only[go_sem];rw[eS];simp only[go_sem])
       all_goals simp_all[sP]
   ·have bT:(bt N want b8 h).2.getD h false=true:=by assumption
    have eS:bt N want b8 (h+1)=bt N want b8 h:=by simp only[bt,nR];rw[zM (by rw[bT];simp)]
    refine⟨_,_,_,?_,?_,⟨h+1,by omega,rfl,.inr ⟨rfl,rfl⟩⟩⟩
    ·omega
    ·refine Wk.sub ?_ ?_<;>(simp only[go_sem];try rw[eS];try simp only[yem,and_self])
  ·obtain rfl:h=N:=by omega
   repeat' (first|omega|(try apply ah);simp only[go_sem]|apply ag<;>(intro h_;(try simp only[h_]);revert h_)|apply zO|with_reducible intro h_|trivial)
   all_goals first|(rw[iG];exact aT.nils (by omega) rfl)|(exact Tx _ _ _ _ ‹_›)|exact aT.of (by rw[zU (by simp)])
def HS(s m:List Int)(L:Int):List (List Int):=if bG s m L then pM m else []
theorem YR(h:Int):Fn Tryz.prog 81 [I h] (.bool true):=by
 refine Fn.intro [.tmp 2] Tryz.func81 rfl rfl (by decide) (by simp[Tryz.ntmps81]) ?_;rw[Tryz.ntmps81]
 repeat' (first|omega|(try apply ah);simp only[go_sem]|apply ag<;>(intro h_;(try simp only[h_]);revert h_)|apply zO|with_reducible intro h_|trivial)
theorem YQ(s m:List Int)(L h:Int)(h0:0<=h)(h1:h<m.length)(g0:0<=m.getD h.toNat 0)(g1:m.getD h.toNat 0<=100000):Fn Tryz.prog 83 [I h,.rp (dgC s m L) 0] (I (kH (m.getD h.toNat 0) (-1))):=by
 refine Fn.intro [.tmp 3] Tryz.func83 rfl rfl (by decide) (by simp[Tryz.ntmps83]) ?_;rw[Tryz.ntmps83]
 repeat' (first|omega|(try apply ah);simp only[go_sem]|apply ag<;>(intro h_;(try simp only[h_]);revert h_)|apply zO|with_reducible intro h_|trivial)
 refine⟨aL.fn rfl (Iy _ (-1) g0 g1) ?_⟩
 repeat' (first|omega|(try apply ah);simp only[go_sem]|apply ag<;>(intro h_;(try simp only[h_]);revert h_)|apply zO|with_reducible intro h_|trivial)
theorem ZP(s m:List Int)(L:Int)(hv:Ed s m L)(h:Nat)(hh:h<4*s.length):(c9 (iB m) m.length h).length<=m.length/\(∀x∈c9 (iB m) m.length h,0<=x/\x<m.length)/\
  Fn Tryz.prog 97 [I h,.fn 83 [.rp (dgC s m L) 0]] (roI (c9 (iB m) m.length h)):=by
 have hR:cE s.length (h:Int):=by unfold cE;omega
 have hl:=hv.len;have fM:=hv.s64;have BI:=C6 (zq hv.prd) hR;rw[<-hl]at BI;obtain⟨_,o2,_,_,_,o6,_,k,hk,tT,e⟩:=BI;refine⟨o6,fun x hx=>by have:=o2 x hx;unfold cE at this;omega,?_⟩;rw[e];refine y4h _ _ (iB m) h k tT (by omega) fun j hj=>?_;have hr:=(zq hv.prd).it hR j;have sW:=hv.prd.fP hr;unfold cE at hr sW;exact YQ s m L _ hr.1 (by omega) sW.1 (by omega)
theorem y4i(s m:List Int)(L:Int):Fn Tryz.prog 52 [dgA s m L] (oN (HS s m L)):=by
 refine Fn.av [.tmp 2] Tryz.func52 rfl rfl (by decide) (by simp[Tryz.ntmps52]) ?_;rw[Tryz.ntmps52]
 repeat' (first|omega|(try apply ah);simp only[go_sem]|apply ag<;>(intro h_;(try simp only[h_]);revert h_)|apply zO|with_reducible intro h_|trivial)
 refine⟨aL.fn rfl (C4 s m L) ?_⟩;cases hv:bG s m L with
 |false=>
  repeat' (first|omega|(try apply ah);simp only[go_sem]|apply ag<;>(intro h_;(try simp only[h_]);revert h_)|apply zO|with_reducible intro h_|trivial)
  unfold HS;rw[hv];exact aT.nils (by omega) rfl
 |true=>
  have v1:=gP hv;have fM:=v1.s64;have hl:=v1.len
  repeat' (first|omega|(try apply ah);simp only[go_sem]|apply ag<;>(intro h_;(try simp only[h_]);revert h_)|apply zO|with_reducible intro h_|trivial)
  refine⟨aL.wO [0] rfl (by simp only[go_sem]) (by simp only[go_sem]) (by simp only[go_sem]) (by simp only[go_sem]) rfl rfl rfl (aL.fn rfl (X1 m.length _ _ (dgC s m L) (fun _=>true) (c9 (iB m) m.length) (by omega) (fun h hh=>YR h) (fun h hh _=>ZP s m L v1 h (by omega))) ?_)⟩
  repeat' (first|omega|(try apply ah);simp only[go_sem]|apply ag<;>(intro h_;(try simp only[h_]);revert h_)|apply zO|with_reducible intro h_|trivial)
  unfold HS pM;rw[hv];exact aT.refl _
set_option maxHeartbeats 8000000
def Nw:fc:=[(1,[[13,14,15,16,17,18,19,20,3],[12,17,18,19,20,3],[12,17,18,19,20,3],[12,17,18,19,20,3],[12,17,18,19,20,3],[12,13,14,15,16,3],[12,13,14,15,16,3],[12,13,14,15,16,3],[12,13,14,15,16,3],[3],[12,13,14,15,16,17,18,19,20,21],[]],[[],[0],[0],[0],[0],[0,1,2,3,4],[0,1,2,3,4],[0,1,2,3,4],[0,1,2,3,4],[],[0,1,2,3,4,5,6,7,8,9],[]])]
def wM(m:List Int)(n k:Nat):List (List Int):=(List.range k).map fun p=>eY (dY m n).1 n p
theorem y1a(s m:List Int)(L:Int)(hv:bG s m L=true):
  ∃lf pt:List Int,lf.length=m.length/\pt.length=s.length/\Fn Tryz.prog 18 [dgA s m L] (.agg [roI s,roI m,I L,roI lf,roI pt])/\(∀x y,x<4*s.length->y<4*s.length->lf.getD x 0=lf.getD y 0->Sp.SC (Sp.aM Sp.ai (Sp.ae m) (4*s.length)) x y)/\(∀a b,a<s.length->b<s.length->pt.getD a 0≠pt.getD b 0->¬bN m a b):=by
 have v1:=gP hv;have fM:=v1.s64;have hl:=v1.len;have hD:=(Sp.aE hv).1;have hF:=y4i s m L;unfold HS at hF;rw[hv,zM rfl]at hF;have hr:=Tu hD;have qT:(pM m).length<=m.length:=(I7 m.length (fun _=>true) (c9 (iB m) m.length) m.length).2;obtain⟨kk,Kc,Pg,Xi⟩:=y09 s m L hv;obtain⟨p1,p2,p3,p4⟩:=EU hD.prd.ok;have WM:(wM m s.length kk).length=kk:=by simp[wM]
 have Pr:∀p,p<kk->(wM m s.length kk).getD p []=eY (dY m s.length).1 s.length p:=fun p hp=>by simp[wM,zB,hp]
 have WK:∀f∈wM m s.length kk,f.length<=s.length/\ ∀x∈f,0<=x/\x<s.length:=fun f hf=>by
  obtain⟨p,hp,rfl⟩:=zzE.1 hf;refine⟨LW _ _ _,fun x hx=>?_⟩;obtain⟨a,rfl,ha,_⟩:=HT _ _ _ hx;omega
 have hGr2:Fn Tryz.prog 53 [dgA s m L] (oN (wM m s.length kk)):=by
  have e:AV.ro 1 kk (.lst ((List.range kk).map fun p=>roI (eY (dY m s.length).1 s.length p)))=oN (wM m s.length kk):=by
   unfold oN;rw[WM];congr 2;unfold wM;rw[List.map_map];rfl
  rw[<-e];exact Xi
 have o8:∀a,a<s.length->(jt (wM m s.length kk) s.length kk).getD a 0=(dY m s.length).1.getD a 0:=fun a ha=>by
  have h4:=p4 a ha;obtain⟨p,hp⟩:∃p:Nat,(dY m s.length).1.getD a 0=p:=⟨((dY m s.length).1.getD a 0).toNat,by omega⟩;have qL:p<kk:=by omega
  obtain⟨j,j1,j2,j3⟩:=H5 (fun f hf=>(WK f hf).2) ha kk (by omega) ⟨p,qL,by rw[Pr p qL];exact Lx _ a hp _ ha⟩;rw[Pr j j1]at j3;obtain⟨b,e1,_,e2⟩:=HT _ _ _ j3;obtain rfl:a=b:=by omega
  rw[j2,e2]
 refine⟨jt (pM m) m.length (pM m).length,jt (wM m s.length kk) s.length kk,CM _ _ _,CM _ _ _,?_,fun x y hx hy e=>Zz hD hx hy e,fun a b ha hb aJ hc=>?_⟩
 rotate_left 1
 ·rw[o8 a ha,o8 b hb]at aJ;exact aJ ((Nd hD.prd ha hb).2 hc)
 clear o8 Pr Xi p4 Kc;generalize DL:pM m=fs at*;generalize WJ:wM m s.length kk=gs at*;rw[<-WM];refine Fn.av [.cell 2 46] Tryz.func18 rfl rfl (by decide) (by simp[Tryz.ntmps18]) ?_;rw[Tryz.ntmps18]
 repeat' (first|omega|(first|apply ah|refine aw Nw ?_|skip);simp only[go_sem,zA]|refine az ?_|refine aA ?_|apply ag<;>(intro h_;(try simp only[h_]);revert h_)|apply zO|with_reducible intro h_|trivial)
 refine dr.intro (fun n' fr H=>∃i:Nat,i<=fs.length/\n'=fs.length-i/\fr=[(25,I i),(24,I fs.length),(23,oN fs),(3,.ptr 12 0),(2,.ptr 1 0),(1,.ptr 0 0)]/\H=[(12,.cells 46 (.lst [roI s,roI m,I L,.sl 1 6 0 m.length,.sl 1 10 0 s.length])),(10,.cells 3 (.ints (List.replicate s.length 0))),(6,.cells 3 (.ints (jt fs m.length i))),(1,.cells 46 (.lst [.nils,.nils,I 0,.nils,.nils])),(0,.cells 24 (.lst [roI s,roI m,I L]))]) ?_ ?_
 ·refine⟨_,_,_,?_,0,by omega,rfl,rfl,rfl⟩;refine Wk.sub ?_ ?_<;>simp only[go_sem]
  all_goals rfl
 rintro n' fr H ⟨i,hi,rfl,rfl,rfl⟩;have l1:=CM fs m.length;by_cases iN:i<fs.length
 ·have bi:decide ((i:Int)<fs.length)=true:=by simp;omega
  have hg:=SM fs i iN;obtain⟨f,hf⟩:∃f,fs.getD i []=f:=⟨_,rfl⟩;have Pu:f∈fs:=by rw[<-hf,zB,zJ iN];exact List.getElem_mem _
  obtain⟨r1,r2⟩:=hr f Pu;have eL:jt fs m.length (i+1)=fZ (jt fs m.length i) i f:=by simp only[jt];rw[hf]
  rw[hf]at hg
  repeat' (first|omega|(try apply ah);simp only[go_sem,bi,hg]|apply ag<;>(intro h_;(try simp only[h_]);revert h_)|apply zO|with_reducible intro h_|trivial)
  refine dr.intro (fun n' fr H=>∃j:Nat,j<=f.length/\n'=f.length-j/\fr=[(32,I j),(31,I f.length),(30,roI f),(4,I i),(25,I i),(24,I fs.length),(23,oN fs),(3,.ptr 12 0),(2,.ptr 1 0),(1,.ptr 0 0)]/\H=[(12,.cells 46 (.lst [roI s,roI m,I L,.sl 1 6 0 m.length,.sl 1 10 0 s.length])),(10,.cells 3 (.ints (List.replicate s.length 0))),(6,.cells 3 (.ints (fZ (jt fs m.length i) i (f.take j)))),(1,.cells 46 (.lst [.nils,.nils,I 0,.nils,.nils])),(0,.cells 24 (.lst [roI s,roI m,I L]))]) ?_ ?_
  ·refine⟨_,_,_,?_,0,by omega,rfl,rfl,rfl⟩;refine Wk.sub ?_ ?_<;>simp only[go_sem]
   all_goals rfl
  rintro n' fr H ⟨j,hj,rfl,rfl,rfl⟩;have l2:=I3 (i:Int) (f.take j) (jt fs m.length i);rw[l1]at l2;by_cases dH:j<f.length
  ·have bj:decide ((j:Int)<f.length)=true:=by simp;omega
   have hx:=r2 (f.getD j 0) (by rw[zB,zJ dH];exact List.getElem_mem _);have et:f.take (j+1)=f.take j++[f.getD j 0]:=by rw[List.take_succ_eq_append_getElem dH];simp[dH]
   have es:fZ (jt fs m.length i) i (f.take (j+1))=(fZ (jt fs m.length i) i (f.take j)).set (f.getD j 0).toNat i:=by rw[et,Mi];rfl
   obtain⟨x,FX⟩:∃x,f.getD j 0=x:=⟨_,rfl⟩;rw[FX]at hx es
   repeat' (first|omega|(try apply ah);simp only[go_sem,bj,l2,FX]|apply ag<;>(intro h_;(try simp only[h_]);revert h_)|apply zO|with_reducible intro h_|trivial)
   refine⟨_,_,_,?_,Wk.sub ?_ ?_,j+1,by omega,rfl,rfl,rfl⟩
   ·omega
   ·simp only[go_sem]
   ·simp only[go_sem,es]
  ·obtain rfl:j=f.length:=by omega
   have bj:decide ((f.length:Int)<f.length)=false:=by simp
   rw[List.take_length,<-eL]
   repeat' (first|omega|(try apply ah);simp only[go_sem,bj]|apply ag<;>(intro h_;(try simp only[h_]);revert h_)|apply zO|with_reducible intro h_|trivial)
   refine⟨_,_,_,?_,Wk.sub ?_ ?_,i+1,by omega,rfl,rfl,rfl⟩
   ·omega
   ·simp only[go_sem]
   ·simp only[go_sem]
 ·obtain rfl:i=fs.length:=by omega
  have bi:decide ((fs.length:Int)<fs.length)=false:=by simp
  have lt1:=zU (Nat.le_of_eq (l1 fs.length));have VZ:=l1 fs.length
  repeat' (first|omega|(try apply ah);simp only[go_sem,bi,VZ]|refine az ?_|refine aA ?_|apply ag<;>(intro h_;(try simp only[h_]);revert h_)|apply zO|with_reducible intro h_|trivial)
  refine dr.intro (fun n' fr H=>∃i:Nat,i<=gs.length/\n'=gs.length-i/\fr=[(46,I i),(45,I gs.length),(44,oN gs),(3,.ptr 12 0),(2,.ptr 1 0),(1,.ptr 0 0)]/\H=[(12,.cells 46 (.lst [roI s,roI m,I L,.sl 1 6 0 m.length,.sl 1 10 0 s.length])),(10,.cells 3 (.ints (jt gs s.length i))),(6,.cells 3 (.ints (jt fs m.length fs.length))),(1,.cells 46 (.lst [.nils,.nils,I 0,.nils,.nils])),(0,.cells 24 (.lst [roI s,roI m,I L]))]) ?_ ?_
  ·refine⟨_,_,_,?_,0,by omega,rfl,rfl,rfl⟩;refine Wk.sub ?_ ?_<;>simp only[go_sem]
   all_goals rfl
  rintro n' fr H ⟨i,hi,rfl,rfl,rfl⟩;have l1:=CM gs s.length;by_cases iN:i<gs.length
  ·have bi:decide ((i:Int)<gs.length)=true:=by simp;omega
   have hg:=SM gs i iN;obtain⟨f,hf⟩:∃f,gs.getD i []=f:=⟨_,rfl⟩;have Pu:f∈gs:=by rw[<-hf,zB,zJ iN];exact List.getElem_mem _
   obtain⟨r1,r2⟩:=WK f Pu;have eL:jt gs s.length (i+1)=fZ (jt gs s.length i) i f:=by simp only[jt];rw[hf]
   rw[hf]at hg
   repeat' (first|omega|(try apply ah);simp only[go_sem,bi,hg]|apply ag<;>(intro h_;(try simp only[h_]);revert h_)|apply zO|with_reducible intro h_|trivial)
   refine dr.intro (fun n' fr H=>∃j:Nat,j<=f.length/\n'=f.length-j/\fr=[(53,I j),(52,I f.length),(51,roI f),(8,I i),(46,I i),(45,I gs.length),(44,oN gs),(3,.ptr 12 0),(2,.ptr 1 0),(1,.ptr 0 0)]/\H=[(12,.cells 46 (.lst [roI s,roI m,I L,.sl 1 6 0 m.length,.sl 1 10 0 s.length])),(10,.cells 3 (.ints (fZ (jt gs s.length i) i (f.take j)))),(6,.cells 3 (.ints (jt fs m.length fs.length))),(1,.cells 46 (.lst [.nils,.nils,I 0,.nils,.nils])),(0,.cells 24 (.lst [roI s,roI m,I L]))]) ?_ ?_
   ·refine⟨_,_,_,?_,0,by omega,rfl,rfl,rfl⟩;refine Wk.sub ?_ ?_<;>simp only[go_sem]
    all_goals rfl
   rintro n' fr H ⟨j,hj,rfl,rfl,rfl⟩;have l2:=I3 (i:Int) (f.take j) (jt gs s.length i);rw[l1]at l2;by_cases dH:j<f.length
   ·have bj:decide ((j:Int)<f.length)=true:=by simp;omega
    have hx:=r2 (f.getD j 0) (by rw[zB,zJ dH];exact List.getElem_mem _);have et:f.take (j+1)=f.take j++[f.getD j 0]:=by rw[List.take_succ_eq_append_getElem dH];simp[dH]
    have es:fZ (jt gs s.length i) i (f.take (j+1))=(fZ (jt gs s.length i) i (f.take j)).set (f.getD j 0).toNat i:=by rw[et,Mi];rfl
    obtain⟨x,FX⟩:∃x,f.getD j 0=x:=⟨_,rfl⟩;rw[FX]at hx es
    repeat' (first|omega|(try apply ah);simp only[go_sem,bj,l2,FX]|apply ag<;>(intro h_;(try simp only[h_]);revert h_)|apply zO|with_reducible intro h_|trivial)
    refine⟨_,_,_,?_,Wk.sub ?_ ?_,j+1,by omega,rfl,rfl,rfl⟩
    ·omega
    ·simp only[go_sem]
    ·simp only[go_sem,es]
   ·obtain rfl:j=f.length:=by omega
    have bj:decide ((f.length:Int)<f.length)=false:=by simp
    rw[List.take_length,<-eL]
    repeat' (first|omega|(try apply ah);simp only[go_sem,bj]|apply ag<;>(intro h_;(try simp only[h_]);revert h_)|apply zO|with_reducible intro h_|trivial)
    refine⟨_,_,_,?_,Wk.sub ?_ ?_,i+1,by omega,rfl,rfl,rfl⟩
    ·omega
    ·simp only[go_sem]
    ·simp only[go_sem]
  ·obtain rfl:i=gs.length:=by omega
   have bi:decide ((gs.length:Int)<gs.length)=false:=by simp
   have l3:=l1 gs.length;have lt2:=zU (Nat.le_of_eq l3)
   repeat' (first|omega|(try apply ah);simp only[go_sem,bi,VZ,l3]|apply ag<;>(intro h_;(try simp only[h_]);revert h_)|apply zO|with_reducible intro h_|trivial)
   all_goals first|exact aT.of (by rw[lt1,lt2])|trace_state
end Go.Proofs.YthohfoombimbeaaGreatDoor
