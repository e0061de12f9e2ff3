/- Plain: on the sphere, an orientation of the strands comes of a potential on the faces. -/
import Derived.Test.YtmdjdekgakidhaaGreatDoorSq
import Derived.Test.YtmdjdekgakidhaaGreatDoorZc
import Derived.Test.YtmdjdekgakidhaaGreatDoorZe
import Derived.Test.YtmdjdekgakidhaaGreatDoorZo
import Derived.Test.YtmdjdekgakidhaaGreatDoorKb4
import Derived.Test.YtmdjdekgakidhaaGreatDoorZu
namespace Go.Proofs.YtmdjdekgakidhaaGreatDoor
set_option linter.unusedSimpArgs false
set_option linter.unusedVariables false
namespace Sp
open Classical
section
variable {N n:Nat} {si al:Nat->Nat} {w g:Nat->Int}
structure xH (N:Nat) (si al:Nat->Nat) (w g:Nat->Int):Prop where
 jI: ∀x,x<N->g (si (al x))=g x
 edge: ∀x,x<N->g x-g (al x)=w x
theorem VC {f:Nat->Nat} (hf:aG N f) (h: ∀x,x<N->g (f x)=g x) {x y:Nat} (hx:x<N) (hs:SC f x y):g y=g x:=by
 obtain ⟨k,rfl⟩:=hs
 induction k with
 |zero=>rfl
 |succ k ih=>simp only [itn];rw [h _ (hf.cr hx k),ih]
theorem su.pg (h:su N si al) {p q:Nat} (hp:p<N) (hq:q<N) (jQ:p≠q) (jq:SC si p q) (hg:xH N (swp si p q) al w g): ∃g',xH N si al w g':=by
 have hs:=h.perm;have ha:=h.jO;have bo:=cO hs hp hq;have hE:=tj hs ha;have gR:=tj bo ha;have fT:=ha.lt p hp;have kz:=ha.lt q hq;have j9:=sJ hs ha N (zzA _);have js:=sJ bo ha N (zzA _);have Fp:al p≠al q:=fun e=>jQ (by rw [←ha.inv p hp,←ha.inv q hq,e]);have yW: ∀x,x<N->swp (cS si al N) (al p) (al q) x=cS (swp si p q) al N x:=fun x hx=>by
  rw [iP ha hx];unfold swp;have i1:=ha.inv x hx;by_cases h1:x=al p
  ·subst h1;rw [if_pos rfl,ha.inv p hp,if_pos rfl,iP ha kz,ha.inv q hq]
  ·rw [if_neg h1];have n1:al x≠p:=fun e=>h1 (by rw [←e,i1]);by_cases h2:x=al q
   ·subst h2;rw [if_pos rfl,ha.inv q hq,if_neg (Ne.symm jQ),if_pos rfl,iP ha fT,ha.inv p hp]
   ·rw [if_neg h2];have n2:al x≠q:=fun e=>h2 (by rw [←e,i1]);rw [if_neg n1,if_neg n2,iP ha hx]
 have iR:=cO j9 fT kz;have fin: ∀g',xH N (swp si p q) al w g'->g' (al p)=g' (al q)->xH N si al w g':=fun g' s9 he=>by
  refine ⟨fun x hx=>?_,s9.edge⟩;by_cases h1:al x=p
  ·have e:=s9.jI (al q) kz;rw [ha.inv q hq] at e
   have:swp si p q q=si p:=by unfold swp;rw [if_neg (Ne.symm jQ),if_pos rfl]
   rw [this] at e;rw [h1,e,←he,←h1,ha.inv x hx]
  ·by_cases h2:al x=q
   ·have e:=s9.jI (al p) fT;rw [ha.inv p hp] at e
    have:swp si p q p=si q:=by unfold swp;rw [if_pos rfl]
    rw [this] at e;rw [h2,e,he,←h2,ha.inv x hx]
   ·have e:=s9.jI x hx;rwa [show swp si p q (al x)=si (al x) by unfold swp;rw [if_neg h1,if_neg h2]] at e
 have kd: ∀g',xH N (swp si p q) al w g'-> ∀x y,x<N->SC (cS (swp si p q) al N) x y->g' y=g' x:=fun g' s9 x y hx nA=>VC js (fun z hz=>by rw [iP ha hz];exact s9.jI z hz) hx nA;by_cases hF:SC (cS si al N) (al p) (al q)
 ·--the parts are different components
  have cK: ¬SC (cS (swp si p q) al N) (al p) (al q):=fun e=>cP j9 fT Fp hF ((bV iR yW fT).2 e);have iU:KK si al N p q:=pP hs ha hp jq;have YB: ¬KK (swp si p q) al N p q:=fun cV=>by
   have Bw:=cP hs hp jQ jq;have Bx:=bu bo hp hq Bw;rw [dz] at Bx;obtain ⟨lV,hV⟩:=Tr.exists (SC.eqv hs) (KK si al N p);obtain ⟨lF,S6⟩:=Tr.exists (SC.eqv j9) (KK si al N p);have heq:=h.eq p hp lV lF hV S6;obtain ⟨KQ,zf⟩:=Tr.exists (SC.eqv bo) (KK si al N p);obtain ⟨Bf,zi⟩:=Tr.exists (SC.eqv js) (KK si al N p);have Mg:KK si al N p p:=hE.rfl' _ hp
   have nX:KQ.length=lV.length+1:=zf.join (SC.eqv bo) hp hq Mg iU Bw (hV.congr Bx);have sa:KK si al N p (al p):=gL hs ha hp;have rZ:KK si al N p (al q):=hE.trans _ _ _ hp hq kz iU (gL hs ha hq);have tb:Tr N (KK si al N p) (SC (swp (cS si al N) (al p) (al q))) Bf:=zi.congr fun x y hx _=>(bV iR yW hx).symm;have rB:=cP j9 fT Fp hF
   have hj:=bu iR fT kz rB;rw [dz] at hj;have Tg:=tb.join (SC.eqv iR) fT kz sa rZ rB (S6.congr hj);have dX: ∀x y,x<N->y<N->KK (swp si p q) al N x y->KK si al N x y:=fun x y hx hy hk=>by
    refine zI bo ha hE (fun x hx=>?_) (fun x hx=>gL hs ha hx) hx hy hk;unfold swp;by_cases h1:x=p
    ·rw [if_pos h1,h1];exact hE.trans _ _ _ hp hq (hs.lt _ hq) iU (gK hs ha hq)
    ·by_cases h2:x=q
     ·rw [if_neg h1,if_pos h2,h2];exact hE.trans _ _ _ hq hp (hs.lt _ hp) (hE.symm _ _ hp hq iU) (gK hs ha hp)
     ·rw [if_neg h1,if_neg h2];exact gK hs ha hx
   have mM: ∀x y,x<N->y<N->KK si al N x y->KK (swp si p q) al N x y:=fun x y hx hy hk=>by
    refine zI hs ha gR (fun x hx=>?_) (fun x hx=>gL bo ha hx) hx hy hk;by_cases h1:x=p
    ·have:=gK bo ha hq
     rw [show swp si p q q=si p by unfold swp;rw [if_neg (Ne.symm jQ),if_pos rfl]] at this;rw [h1];exact gR.trans _ _ _ hp hq (hs.lt _ hp) cV this
    ·by_cases h2:x=q
     ·have:=gK bo ha hp
      rw [show swp si p q p=si q by unfold swp;rw [if_pos rfl]] at this;rw [h2];exact gR.trans _ _ _ hq hp (hs.lt _ hq) (gR.symm _ _ hp hq cV) this
     ·have:=gK bo ha hx
      rwa [show swp si p q x=si x by unfold swp;rw [if_neg h1,if_neg h2]] at this
   have b5: ∀x,x<N->(KK si al N p x↔KK (swp si p q) al N p x):=fun x hx=>⟨mM p x hp hx,dX p x hp hx⟩;have e1:=zf.c8 b5 (E':=SC (swp si p q)) (fun _ _ _ _ _ _=>Iff.rfl);have e2:=zi.c8 b5 (E':=SC (cS (swp si p q) al N)) (fun _ _ _ _ _ _=>Iff.rfl);have e3:eU al (KK si al N p) N=eU al (KK (swp si p q) al N p) N:=ym fun x hx=>by rw [b5 x hx]
   have e4:=C9 bo ha hp e1 e2;omega
  refine ⟨fun z=>if KK (swp si p q) al N q z then g z+(g (al p)-g (al q)) else g z,fin _ ⟨fun x hx=>?_,fun x hx=>?_⟩ ?_⟩
  ·have pJ:=ha.lt x hx;have b5:=lB bo ha hq;have e:KK (swp si p q) al N q (swp si p q (al x))↔KK (swp si p q) al N q x:=by rw [←b5.1 _ pJ,←b5.2 _ hx]
   by_cases hk:KK (swp si p q) al N q x
   ·rw [if_pos hk,if_pos (e.2 hk),hg.jI x hx]
   ·rw [if_neg hk,if_neg fun e'=>hk (e.1 e'),hg.jI x hx]
  ·have e:=(lB bo ha hq).2 x hx
   have:=hg.edge x hx
   by_cases hk:KK (swp si p q) al N q x
   ·rw [if_pos hk,if_pos (e.1 hk)];omega
   ·rw [if_neg hk,if_neg fun e'=>hk (e.2 e')];exact this
  ·have e1: ¬KK (swp si p q) al N q (al p):=fun e=>YB (gR.symm _ _ hq hp (gR.trans _ _ _ hq fT hp e (gR.symm _ _ hp fT (gL bo ha hp))));rw [if_neg e1,if_pos (gL bo ha hq)];omega
 ·--one jI behind the parting
  refine ⟨g,fin g hg ?_⟩;have hj:=bu j9 fT kz hF
  have:SC (cS (swp si p q) al N) (al p) (al q):=(bV iR yW fT).1 ((hj _ _ fT kz).2 (.inr (.inl ⟨.refl _ _, .refl _ _⟩)))
  exact (kd g hg _ _ fT this).symm
def kW (b:Bool):Nat:=if b then 1 else 0
def tT (b:Bool) (x:Nat):Nat:=if b then x-x % 4+(3-x % 4) else if x % 2=0 then x+1 else x-1
def qm (b:Nat->Bool) (k x:Nat):Nat:=if x/4<k then tT (b (x/4)) x else dA x
theorem OB (b:Nat->Bool):qm b 0=dA:=funext fun x=>by unfold qm;rw [if_neg (by omega)]
theorem OA (b:Nat->Bool) (k:Nat):qm b (k+1)=swp (qm b k) (4*k+kW (b k)) (4*k+kW (b k)+2):=funext fun x=>by
 unfold qm swp;by_cases h:x/4=k
 ·have e:x=4*k\/x=4*k+1\/x=4*k+2\/x=4*k+3:=by omega
  rw [if_pos (by omega),h];cases hb:b k with
  |false=>
   simp only [kW,tT,dA,Bool.false_eq_true,if_false];rcases e with rfl|rfl|rfl|rfl
   ·rw [if_pos (by omega),if_pos (by omega),if_neg (by omega)];omega
   ·rw [if_neg (by omega),if_neg (by omega),if_neg (by omega),if_neg (by omega)];omega
   ·rw [if_pos (by omega),if_neg (by omega),if_pos (by omega),if_neg (by omega)];omega
   ·rw [if_neg (by omega),if_neg (by omega),if_neg (by omega),if_neg (by omega)];omega
  |true=>
   simp only [kW,tT,dA,if_true];rcases e with rfl|rfl|rfl|rfl
   ·rw [if_neg (by omega),if_neg (by omega),if_neg (by omega)];omega
   ·rw [if_pos (by omega),if_neg (by omega)];omega
   ·rw [if_neg (by omega),if_neg (by omega),if_neg (by omega)];omega
   ·rw [if_neg (by omega),if_pos (by omega),if_neg (by omega)];omega
 ·have h1:x≠4*k+kW (b k)/\x≠4*k+kW (b k)+2:=by unfold kW;split<;>omega
  rw [if_neg h1.1,if_neg h1.2];show (if x/4<k+1 then tT (b (x/4)) x else dA x)=if x/4<k then tT (b (x/4)) x else dA x;by_cases h2:x/4<k
  ·rw [if_pos (by omega),if_pos h2]
  ·rw [if_neg (by omega),if_neg h2]
theorem Rn (b:Nat->Bool) (k:Nat):SC (qm b k) (4*k+kW (b k)) (4*k+kW (b k)+2):=by
 have key: ∀x,x/4=k->qm b k x=dA x:=fun x hx=>by unfold qm;rw [if_neg (by omega)]
 have h1:(4*k+kW (b k))/4=k:=by unfold kW;split<;>omega
 refine ⟨2,?_⟩;simp only [itn];rw [key _ h1,key _ (by rw [GG];exact h1)];unfold dA kW
 split<;>omega
theorem su.Sx (h:su (4*n) dA al) (b:Nat->Bool): ∀k,k<=n->su (4*n) (qm b k) al
 |0,_=>by rw [OB];exact h
 |k+1,hk=>by
  rw [OA]
  have:kW (b k)<=1:=by unfold kW;split<;>omega
  exact (h.Sx b k (by omega)).split (by omega) (by omega) (by omega) (Rn b k)
theorem su.XT (h:su (4*n) dA al) (o:Nat->Int) (h1: ∀x,x<4*n->o x=1\/o x= -1) (h2: ∀x,x<4*n->o (al x)= -o x) (h3: ∀c,c<n->o (4*c+2)= -o (4*c)/\o (4*c+3)= -o (4*c+1)): ∃g,xH (4*n) dA al o g:=by
 obtain ⟨b,hb⟩: ∃b:Nat->Bool,b=fun c=>decide (o (4*c+1)=o (4*c)):=⟨_,rfl⟩;have nG: ∀x,x<4*n->o (tT (b (x/4)) x)= -o x:=fun x hx=>by
  have e:x=4*(x/4)\/x=4*(x/4)+1\/x=4*(x/4)+2\/x=4*(x/4)+3:=by omega
  have hc:x/4<n:=by omega
  generalize x/4=c at*;obtain ⟨k1,k2⟩:=h3 c hc;have o0:=h1 (4*c) (by omega);have o1:=h1 (4*c+1) (by omega);by_cases L7:o (4*c+1)=o (4*c)
  ·rw [show b c=true by rw [hb];exact decide_eq_true L7];simp only [tT,if_true];rcases e with rfl|rfl|rfl|rfl
   ·rw [show 4*c-4*c % 4+(3-4*c % 4)=4*c+3 by omega];omega
   ·rw [show 4*c+1-(4*c+1)% 4+(3-(4*c+1)% 4)=4*c+2 by omega];omega
   ·rw [show 4*c+2-(4*c+2)% 4+(3-(4*c+2)% 4)=4*c+1 by omega];omega
   ·rw [show 4*c+3-(4*c+3)% 4+(3-(4*c+3)% 4)=4*c by omega];omega
  ·rw [show b c=false by rw [hb];exact decide_eq_false L7];simp only [tT,Bool.false_eq_true,if_false];rcases e with rfl|rfl|rfl|rfl
   ·rw [if_pos (by omega)];omega
   ·rw [if_neg (by omega),show 4*c+1-1=4*c by omega];omega
   ·rw [if_pos (by omega),show 4*c+2+1=4*c+3 by omega];omega
   ·rw [if_neg (by omega),show 4*c+3-1=4*c+2 by omega];omega
 have key: ∀d,d<=n-> ∃g,xH (4*n) (qm b (n-d)) al o g:=fun d=>by
  induction d with
  |zero=>
   intro _;refine ⟨fun x=>if o x=1 then 1 else 0,fun x hx=>?_,fun x hx=>?_⟩
   ·have pJ:=h.jO.lt x hx;have e1:qm b (n-0) (al x)=tT (b (al x/4)) (al x):=by unfold qm;rw [if_pos (by omega)]
    have e2:=nG _ pJ;have e3:=h2 x hx;rw [e1,e2,e3];rcases h1 x hx with e|e<;>rw [e]<;>decide
   ·have e3:=h2 x hx;show (if o x=1 then (1:Int) else 0)-(if o (al x)=1 then 1 else 0)=o x;rw [e3];rcases h1 x hx with e|e<;>rw [e]<;>decide
  |succ d ih=>
   intro hd;obtain ⟨g,hg⟩:=ih (by omega);rw [show n-d=(n-(d+1))+1 by omega,OA] at hg
   have:kW (b (n-(d+1)))<=1:=by unfold kW;split<;>omega
   exact (h.Sx b (n-(d+1)) (by omega)).pg (by omega) (by omega) (by omega) (Rn b _) hg
 have:=key n (zzA _)
 rwa [Nat.sub_self,OB] at this
end
end Sp
end Go.Proofs.YtmdjdekgakidhaaGreatDoor
set_option linter.unusedSimpArgs false
set_option linter.unusedVariables false
namespace Go.Proofs.YtmdjdekgakidhaaGreatDoor
namespace Sp
section
variable {s m:List Int} {L:Int} {n c:Nat} {b:Bool}
theorem xu (hv:cX s m L=true):ma m s.length/\nU m s.length=true:=by
 have v:=jb hv;refine ⟨⟨v.prd,fun x hx=>(v.mt x hx).2.2.1⟩,?_⟩;rw [HH] at hv;unfold zt at hv;exact (Bool.and_eq_true _ _▸hv).2
theorem tU {x:Int} (hs:s.getD c 0=1\/s.getD c 0= -1) (hx:x/4=c):aB s (bO (s.getD c 0== -1) x)= !aB s x:=by
 have e:x=4*c\/x=4*c+1\/x=4*c+2\/x=4*c+3:=by omega
 have d0:(4*(c:Int))/4=c/\(4*(c:Int)+1)/4=c/\(4*(c:Int)+2)/4=c/\(4*(c:Int)+3)/4=c:=by omega
 have r0:(4*(c:Int))% 4=0/\(4*(c:Int)+1)% 4=1/\(4*(c:Int)+2)% 4=2/\(4*(c:Int)+3)% 4=3:=by omega
 obtain ⟨d1,d2,d3,d4⟩:=d0;obtain ⟨r1,r2,r3,r4⟩:=r0;rcases hs with hs|hs
 ·have hb:(s.getD c 0== -1)=false:=by rw [hs];decide
  rw [hb];obtain ⟨j1,j2,j3,j4⟩:=ij c;rcases e with rfl|rfl|rfl|rfl
  ·rw [j1];simp only [aB,d1,d2,r1,r2,zzC,hs];decide
  ·rw [j2];simp only [aB,d1,d2,r1,r2,zzC,hs];decide
  ·rw [j3];simp only [aB,d3,d4,r3,r4,zzC,hs];decide
  ·rw [j4];simp only [aB,d3,d4,r3,r4,zzC,hs];decide
 ·have hb:(s.getD c 0== -1)=true:=by rw [hs];decide
  rw [hb];obtain ⟨j1,j2,j3,j4⟩:=X1 c;rcases e with rfl|rfl|rfl|rfl
  ·rw [j1];simp only [aB,d1,d4,r1,r4,zzC,hs];decide
  ·rw [j2];simp only [aB,d2,d3,r2,r3,zzC,hs];decide
  ·rw [j3];simp only [aB,d2,d3,r2,r3,zzC,hs];decide
  ·rw [j4];simp only [aB,d1,d4,r1,r4,zzC,hs];decide
end
end Sp
namespace Sp
section
variable {s m:List Int} {L:Int} {n c k:Nat}
end
end Sp
namespace Sp
section
variable {s m:List Int} {L:Int} {n c k:Nat}
end
end Sp
namespace Sp
end Sp
namespace Sp
section
variable {s m:List Int} {L:Int} {n c k:Nat}
def bcN (v:List Bool):List Int->Nat
 |[]=>0
 |h::t=>(if v.getD (h/4).toNat false=false/\h % 2=0 then 1 else 0)+bcN (v.set (h/4).toNat true) t
def bc (s m:List Int):Nat:=bcN (List.replicate s.length false) (ff s m).flatten
end
end Sp
namespace Sp
section
variable {s m:List Int} {L:Int} {n c k:Nat}
end
end Sp
set_option linter.unusedSectionVars false
namespace Sp
open Classical
section
variable {N:Nat} {si al XQ:Nat->Nat}
end
end Sp
section
variable {n:Nat} {f g:Nat->Nat} {m m':List Int}
end
section
variable {m m':List Int} {n L:Nat}
end
theorem Rm (s:List Int) (c:Nat):aB s ((4*c:Nat):Int)=false/\aB s ((4*c+1:Nat):Int)=(s.getD c 0==1)/\aB s ((4*c+2:Nat):Int)=true/\aB s ((4*c+3:Nat):Int)=(s.getD c 0== -1):=by
 have e0:((4*c:Nat):Int)% 4=0:=by omega
 have e1:((4*c+1:Nat):Int)% 4=1:=by omega
 have e2:((4*c+2:Nat):Int)% 4=2:=by omega
 have e3:((4*c+3:Nat):Int)% 4=3:=by omega
 have d1:(((4*c+1:Nat):Int)/4).toNat=c:=by omega
 have d3:(((4*c+3:Nat):Int)/4).toNat=c:=by omega
 unfold aB;rw [e0,e1,e2,e3,d1,d3];simp
section
variable {s m:List Int} {L:Int}
end
open Classical
section
variable {m:List Int} {n:Nat} {σ:Nat->Bool} {s s':Nat->Nat} {c:Nat}
def jS (s:Nat->Nat) (x:Nat):Nat:=(cZ s (x:Int)).toNat
theorem sE (s:Nat->Nat) (x:Nat):((jS s x:Nat):Int)=cZ s x:=by
 have:=yh (s ((x:Int)/4).toNat) x
 unfold jS cZ;omega
theorem xO (s:Nat->Nat) (x:Nat):jS s x/4=x/4:=by
 have h1:=sE s x;have h2:=yh (s ((x:Int)/4).toNat) x;unfold cZ at h1;omega
theorem xN (s:Nat->Nat) (x:Nat):jS s (jS s x)=x:=by
 have h1:=sE s (jS s x);rw [sE s x] at h1;have h2:cZ s (cZ s (x:Int))=x:=by unfold cZ;rw [yh,GM]
 omega
theorem Iv (h: ∀x,x≠c->s x=s' x) {x:Nat} (hx:x/4≠c):jS s x=jS s' x:=by
 have h1:=sE s x;have h2:=sE s' x;unfold cZ at h1 h2;rw [h _ (by omega)] at h1;omega
theorem Jp (x:Int):pr3 0 x≠pr3 1 x/\pr3 0 x≠pr3 2 x/\pr3 1 x≠pr3 2 x:=by
 have e:x=4*(x/4)\/x=4*(x/4)+1\/x=4*(x/4)+2\/x=4*(x/4)+3:=by omega
 obtain ⟨v1,v2,v3,v4,v5,v6,v7,v8,v9,v10,v11,v12⟩:=An (x/4);generalize x/4=c at*;rcases e with rfl|rfl|rfl|rfl
 ·rw [v1,v5,v9];omega
 ·rw [v2,v6,v10];omega
 ·rw [v3,v7,v11];omega
 ·rw [v4,v8,v12];omega
theorem Iu (hs:s c<3) (bo:s' c<3) (av:s c≠s' c) {x:Nat} (hx:x/4=c):jS s x≠jS s' x:=fun e=>by
 have h1:=sE s x;have h2:=sE s' x;unfold cZ at h1 h2;rw [show ((x:Int)/4).toNat=c by omega] at h1 h2;obtain ⟨d1,d2,d3⟩:=Jp (x:Int);have e1:pr3 (s c) x=pr3 (s' c) x:=by omega
 have a:s c=0\/s c=1\/s c=2:=by omega
 have b:s' c=0\/s' c=1\/s' c=2:=by omega
 rcases a with a|a|a<;>rcases b with b|b|b<;>rw [a,b] at e1<;>first|exact d1 e1|exact d2 e1|exact d3 e1|exact d1 e1.symm|exact d2 e1.symm|exact d3 e1.symm|exact av (a.trans b.symm)
structure uG (m:List Int) (n:Nat) (σ:Nat->Bool) (s:Nat->Nat):Prop where
 mt: ∀x,x<4*n->σ (Sp.da m x)= !σ x
 jn: ∀x,x<4*n->σ (jS s x)= !σ x
def pF (m:List Int) (σ:Nat->Bool) (s:Nat->Nat) (x:Nat):Nat:=if σ x then jS s (Sp.da m x) else x
theorem zp (hp:bD m n):Sp.ma m n:=⟨⟨hp.ok,hp.inv⟩,hp.ne⟩
theorem Ri {x:Nat} (hx:x<4*n):jS s x<4*n:=by have:=xO s x;omega
theorem DB (hp:bD m n) (h:uG m n σ s):Sp.aG (4*n) (pF m σ s):=by
 have hm:=(zp hp).jO;refine ⟨fun x hx=>?_,fun x y hx hy e=>?_⟩
 ·unfold pF;split
  ·exact Ri (hm.lt x hx)
  ·exact hx
 ·have CM: ∀x,x<4*n->σ x=true->σ (jS s (Sp.da m x))=true:=fun x hx e=>by rw [h.jn _ (hm.lt x hx),h.mt x hx,e];rfl
  unfold pF at e;by_cases h1:σ x=true<;>by_cases h2:σ y=true
  ·rw [if_pos h1,if_pos h2] at e
   have:=congrArg (jS s) e
   rw [xN,xN] at this;rw [←hm.inv x hx,this,hm.inv y hy]
  ·rw [if_pos h1,if_neg h2] at e;exact absurd (e▸CM x hx h1) h2
  ·rw [if_neg h1,if_pos h2] at e;exact absurd (e▸CM y hy h2) h1
  ·rw [if_neg h1,if_neg h2] at e;exact e
theorem KB (hp:bD m n) (h:uG m n σ s) {x y:Nat} (hx:x<4*n) (hy:y<4*n) (cx:σ x=true):Sp.SC (pF m σ s) x y↔bf (fun x=>m.getD x.toNat 0) (cZ s) x y/\σ y=true:=by
 have hD:=zp hp;have hm:=hD.jO;have hP:=DB hp h;have hi:=tF hp.ok hp.inv hp.ne s;have cm: ∀z,z<4*n->m.getD z 0=(Sp.da m z:Nat):=fun z hz=>(hD.cast hz).symm;constructor
 ·rintro ⟨k,rfl⟩;clear hy
  induction k with
  |zero=>exact ⟨.refl _,cx⟩
  |succ k ih=>
   have lt:=hP.cr hx k;simp only [Sp.itn];generalize Sp.itn (pF m σ s) k x=z at*;obtain ⟨i1,i2⟩:=ih;unfold pF;rw [if_pos i2];refine ⟨?_,by rw [h.jn _ (hm.lt z lt),h.mt z lt,i2];rfl⟩
   have:=bf.join (bf.aO i1)
   simp only [zzC] at this;rw [cm z lt,←sE] at this;exact this
 ·rintro ⟨hc,cy⟩;have key: ∀z:Int,bf (fun x=>m.getD x.toNat 0) (cZ s) x z->aw n z/\(σ z.toNat=true->Sp.SC (pF m σ s) x z.toNat)/\(σ z.toNat=false->Sp.SC (pF m σ s) x (Sp.da m z.toNat)):=fun z hz=>by
   induction hz with
   |refl=>exact ⟨by unfold aw;omega,fun _=>by simpa using Sp.SC.refl _ _,fun e=>by simp [cx] at e⟩
   | @aO z _ ih=>
     obtain ⟨r,i1,i2⟩:=ih;refine ⟨hi.mr z r,?_⟩;unfold aw at r;have e:((fun x:Int=>m.getD x.toNat 0) z).toNat=Sp.da m z.toNat:=rfl;rw [e,h.mt _ (by omega),hm.inv _ (by omega)];exact ⟨fun e=>i2 (by simpa using e),fun e=>i1 (by simpa using e)⟩
   | @join z _ ih=>
     obtain ⟨r,i1,i2⟩:=ih;refine ⟨hi.jr z r,?_⟩;unfold aw at r;have e:(cZ s z).toNat=jS s z.toNat:=by unfold jS;rw [show ((z.toNat:Nat):Int)=z by omega]
     rw [e,h.jn _ (by omega)];refine ⟨fun e=>?_,fun e=>?_⟩
     ·have cz:σ z.toNat=false:=by simpa using e
      have g:=i2 cz;refine g.trans ⟨1,?_⟩;simp only [Sp.itn];unfold pF;rw [h.mt _ (by omega),cz,if_pos (by rfl),hm.inv _ (by omega)]
     ·have cz:σ z.toNat=true:=by simpa using e
      have lj:jS s z.toNat<4*n:=Ri (by omega);refine (i1 cz).trans (Sp.SC.symm hP (hm.lt _ lj) ⟨1,?_⟩);simp only [Sp.itn];unfold pF;rw [h.mt _ lj,h.jn _ (by omega),cz,if_pos (by rfl),hm.inv _ lj,xN]
  have:=(key y hc).2.1
  simp only [zzC] at this;exact this cy
theorem Oz (hp:bD m n) (h:uG m n σ s) {l:List Nat} (hl:Sp.Tr (4*n) (fun x=>σ x=true) (Sp.SC (pF m σ s)) l):l.length=dO m n s:=by
 have hD:=zp hp;have hm:=hD.jO;have hP:=DB hp h;have hi:=tF hp.ok hp.inv hp.ne s;have hR:=yd hp s;unfold dO;generalize crN (fun x=>m.getD x.toNat 0) (cZ s) (4*n) (4*n)=R at*;have cm: ∀z,z<4*n->m.getD z 0=(Sp.da m z:Nat):=fun z hz=>(hD.cast hz).symm;obtain ⟨u,hu⟩: ∃u:Nat->Nat,u=fun r=>if σ r then r else Sp.da m r:=⟨_,rfl⟩
 have u1: ∀r,r<4*n->u r<4*n/\σ (u r)=true/\bf (fun x=>m.getD x.toNat 0) (cZ s) r (u r):=fun r hr=>by
  rw [hu];by_cases e:σ r=true
  ·simp only [if_pos e];exact ⟨hr,e, .refl _⟩
  ·simp only [if_neg e];refine ⟨hm.lt r hr,by rw [h.mt r hr];simpa using e,?_⟩
   have:=bf.aO (mt:=fun x=>m.getD x.toNat 0) (jn:=cZ s) (bf.refl (r:Int))
   simp only [zzC] at this;rw [cm r hr] at this;exact this
 have hlen:=hR.rep.len;have sy: ∀{a b:Nat},a<4*n->bf (fun x=>m.getD x.toNat 0) (cZ s) a b->bf (fun x=>m.getD x.toNat 0) (cZ s) b a:=fun ha e=>e.symm hi (by unfold aw;omega);have hf: ∀r,r∈(List.range (4*n)).filter (fun x=>R.getD x 0==(x:Int))↔r<4*n/\R.getD r 0=r:=fun r=>by simp [List.mem_filter]
 have uj: ∀a b,a<4*n->b<4*n->R.getD a 0=a->R.getD b 0=b->bf (fun x=>m.getD x.toNat 0) (cZ s) (u a) (u b)->a=b:=fun a b ha hb ea eb e=>by
  have q:=(hR.iff a b ha hb).2 (((u1 a ha).2.2.trans e).trans (sy hb (u1 b hb).2.2));omega
 have hT:Sp.Tr (4*n) (fun x=>σ x=true) (Sp.SC (pF m σ s)) (((List.range (4*n)).filter (fun x=>R.getD x 0==(x:Int))).map u):=by
  refine ⟨fun x hx=>?_,?_,fun x hx y hy e=>?_,fun x hx cx=>?_⟩
  ·obtain ⟨r,hr,rfl⟩:=List.mem_map.1 hx
   have:=u1 r ((hf r).1 hr).1
   exact ⟨this.1,this.2.1⟩
  ·refine Im (fun a ha b hb e=>?_) (List.nodup_range.filter _);have qA:=(hf a).1 ha;have ky:=(hf b).1 hb;exact uj a b qA.1 ky.1 qA.2 ky.2 (by rw [e];exact .refl _)
  ·obtain ⟨a,ha,rfl⟩:=List.mem_map.1 hx;obtain ⟨b,hb,rfl⟩:=List.mem_map.1 hy;have qA:=(hf a).1 ha;have ky:=(hf b).1 hb;have ua:=u1 a qA.1;have ub:=u1 b ky.1;rw [uj a b qA.1 ky.1 qA.2 ky.2 ((KB hp h ua.1 ub.1 ua.2.1).1 e).1]
  ·have rr:=hR.rep.cR x hx;have ri:=hR.rep.idem x hx;obtain ⟨r,hr⟩: ∃r:Nat,R.getD x 0=r:=⟨(R.getD x 0).toNat,by omega⟩;rw [hr,zzC] at ri;have rl:r<4*n:=by omega
   have ur:=u1 r rl;refine ⟨u r,List.mem_map.2 ⟨r,(hf r).2 ⟨rl,ri⟩,rfl⟩,(KB hp h hx ur.1 cx).2 ⟨?_,ur.2.1⟩⟩;exact ((hR.iff x r hx rl).1 (by rw [hr,ri])).trans ur.2.2
 rw [hl.bK (Sp.SC.eqv hP) hT,List.length_map];unfold roots;rw [hlen,List.countP_eq_length_filter]
theorem A4 {u v w z y:Nat} (hu:u/4=c) (hv:v/4=c) (hw:w/4=c) (hz:z/4=c) (hy:y/4=c) (h1:u≠v) (h2:u≠w) (h3:u≠z) (h4:v≠w) (h5:v≠z) (h6:w≠z):y=u\/y=v\/y=w\/y=z:=by
 refine Decidable.byContradiction fun h=>?_;simp only [not_or] at h
 have:=sT (l:=[u,v,w,z,y]) (k:=[4*c,4*c+1,4*c+2,4*c+3]) (by simp [h1,h2,h3,h4,h5,h6,Ne.symm h.1,Ne.symm h.2.1,Ne.symm h.2.2.1,Ne.symm h.2.2.2]) (fun x hx=>by
  have:x/4=c:=by simp only [List.mem_cons,zzH,or_false] at hx;rcases hx with rfl|rfl|rfl|rfl|rfl<;>assumption
  simp only [List.mem_cons,zzH,or_false];omega)
 simp at this
set_option maxHeartbeats 2000000 in
theorem U9 (hp:bD m n) (h:uG m n σ s) (h':uG m n σ s') (hc:c<n) (fY: ∀x,x≠c->s x=s' x) (hs:s c<3) (bo:s' c<3) (av:s c≠s' c):
  ∃u v,u/4=c/\v/4=c/\σ u=false/\σ v=false/\u≠v/\((bf (fun x=>m.getD x.toNat 0) (cZ s) (Sp.da m u:Nat) (Sp.da m v:Nat)/\dO m n s'=dO m n s+1)\/(¬bf (fun x=>m.getD x.toNat 0) (cZ s) (Sp.da m u:Nat) (Sp.da m v:Nat)/\dO m n s=dO m n s'+1)):=by
 have hD:=zp hp;have hm:=hD.jO;have hP:=DB hp h;have Zb:=DB hp h';obtain ⟨u,hu⟩: ∃u,u/4=c/\σ u=false:=by
  by_cases e:σ (4*c)=true
  ·exact ⟨jS s (4*c),by rw [xO];omega,by rw [h.jn _ (by omega),e];rfl⟩
  ·exact ⟨4*c,by omega,by simpa using e⟩
 have lu:u<4*n:=by omega
 obtain ⟨w,hw⟩: ∃w,jS s' u=w:=⟨_,rfl⟩;obtain ⟨v,hv⟩: ∃v,jS s w=v:=⟨_,rfl⟩;obtain ⟨z,hz⟩: ∃z,jS s u=z:=⟨_,rfl⟩;have wc:w/4=c:=by rw [←hw,xO];exact hu.1
 have vc:v/4=c:=by rw [←hv,xO];exact wc
 have zc:z/4=c:=by rw [←hz,xO];exact hu.1
 have cw:σ w=true:=by rw [←hw,h'.jn u lu,hu.2];rfl
 have cz:σ z=true:=by rw [←hz,h.jn u lu,hu.2];rfl
 have cv:σ v=false:=by rw [←hv,h.jn w (by omega),cw];rfl
 have KM:z≠w:=fun e=>Iu (s:=s) (s':=s') hs bo av hu.1 (by rw [hz,hw,e]);have jv:jS s v=w:=by rw [←hv,xN]
 have Ba:u≠v:=fun e=>KM (by rw [←hz,e,jv]);have qC: ∀a b,σ a=true->σ b=false->a≠b:=fun a b ha hb e=>by rw [e,hb] at ha;cases ha
 have only: ∀y,y/4=c->σ y=false->y=u\/y=v:=fun y hy cy=>by
  rcases A4 hu.1 vc wc zc hy Ba (qC w u cw hu.2).symm (qC z u cz hu.2).symm (qC w v cw cv).symm (qC z v cz cv).symm KM.symm with e|e|e|e
  ·exact .inl e
  ·exact .inr e
  ·exact absurd e (qC w y cw cy).symm
  ·exact absurd e (qC z y cz cy).symm
 have A8: ∀y,y/4=c->σ y=true->y=z\/y=w:=fun y hy cy=>by
  rcases A4 hu.1 vc wc zc hy Ba (qC w u cw hu.2).symm (qC z u cz hu.2).symm (qC w v cw cv).symm (qC z v cz cv).symm KM.symm with e|e|e|e
  ·exact absurd e (qC y u cy hu.2)
  ·exact absurd e (qC y v cy cv)
  ·exact .inr e
  ·exact .inl e
 have X0:jS s' v=z:=by
  rcases A8 (jS s' v) (by rw [xO];exact vc) (by rw [h'.jn v (by omega),cv];rfl) with e|e
  ·exact e
  ·exact absurd (by rw [←xN s' u,hw,←e,xN]) Ba
 have lv:v<4*n:=by omega
 have la:=hm.lt u lu;have lb:=hm.lt v lv;have ca:σ (Sp.da m u)=true:=by rw [h.mt u lu,hu.2];rfl
 have cb:σ (Sp.da m v)=true:=by rw [h.mt v lv,cv];rfl
 have XX:Sp.da m u≠Sp.da m v:=fun e=>Ba (by rw [←hm.inv u lu,e,hm.inv v lv]);have eH: ∀x,x<4*n->Sp.swp (pF m σ s) (Sp.da m u) (Sp.da m v) x=pF m σ s' x:=fun x hx=>by
  unfold Sp.swp;by_cases e1:x=Sp.da m u
  ·rw [if_pos e1,e1];unfold pF;rw [if_pos cb,if_pos ca,hm.inv u lu,hm.inv v lv,jv,hw]
  ·by_cases e2:x=Sp.da m v
   ·rw [if_neg e1,if_pos e2,e2];unfold pF;rw [if_pos cb,if_pos ca,hm.inv u lu,hm.inv v lv,hz,X0]
   ·rw [if_neg e1,if_neg e2];unfold pF;by_cases cx:σ x=true
    ·rw [if_pos cx,if_pos cx];refine Iv fY fun Br=>?_;rcases only _ Br (by rw [h.mt x hx,cx];rfl) with e|e
     ·exact e1 (by rw [←e,hm.inv x hx])
     ·exact e2 (by rw [←e,hm.inv x hx])
    ·rw [if_neg cx,if_neg cx]
 have hS:=Sp.cO hP la lb;obtain ⟨l,hl⟩:=Sp.Tr.exists (Sp.SC.eqv hP) fun x=>σ x=true;obtain ⟨l',uf⟩:=Sp.Tr.exists (Sp.SC.eqv Zb) fun x=>σ x=true;rw [←Oz hp h hl,←Oz hp h' uf];have s6:Sp.Tr (4*n) (fun x=>σ x=true) (Sp.SC (Sp.swp (pF m σ s) (Sp.da m u) (Sp.da m v))) l':=uf.congr fun x y hx _=>(Sp.bV hS eH hx).symm;have Cn:=KB hp h la lb ca;refine ⟨u,v,hu.1,vc,hu.2,cv,Ba,?_⟩
 by_cases jq:Sp.SC (pF m σ s) (Sp.da m u) (Sp.da m v)
 ·have cK:=Sp.cP hP la XX jq;have hj:=Sp.bu hS la lb cK;rw [Sp.dz] at hj;exact .inl ⟨(Cn.1 jq).1,s6.join (Sp.SC.eqv hS) la lb ca cb cK (hl.congr hj)⟩
 ·exact .inr ⟨fun e=>jq (Cn.2 ⟨e,cb⟩),hl.join (Sp.SC.eqv hP) la lb ca cb jq (s6.congr (Sp.bu hP la lb jq))⟩
theorem P2 (hp:bD m n) (h:uG m n σ s) (h':uG m n σ s') (hc:c<n) (fY: ∀x,x≠c->s x=s' x) (hs:s c<3) (bo:s' c<3) (av:s c≠s' c):dO m n s=dO m n s'+1\/dO m n s'=dO m n s+1:=by
 obtain ⟨_,_,_,_,_,_,_,h1|h1⟩:=U9 hp h h' hc fY hs bo av
 ·exact .inr h1.2
 ·exact .inl h1.2
end
section
variable {s m:List Int} {L:Int}
theorem GD (hv:cX s m L=true) (q:Nat->Nat) (hq: ∀c,c<s.length->q c=2\/q c=cT (s.getD c 0== -1)):uG m s.length (fun x=>aB s (x:Int)) q:=by
 have v:=jb hv;have hD:=zp (dI hv);refine ⟨fun x hx=>?_,fun x hx=>?_⟩
 ·have:=(v.mt x hx).2.2.2.2
  rw [hD.cast hx];revert this;cases aB s (m.getD x 0)<;>cases aB s (x:Int)<;>simp
 ·have hc:x/4<s.length:=by omega
  rw [sE];unfold cZ;rw [show ((x:Int)/4).toNat=x/4 by omega];have e:x=4*(x/4)\/x=4*(x/4)+1\/x=4*(x/4)+2\/x=4*(x/4)+3:=by omega
  rcases hq _ hc with h|h<;>rw [h]
  ·have nY:=v.sg (x/4) hc;generalize x/4=c at*;obtain ⟨_,_,_,_,_,_,_,_,v9,v10,v11,v12⟩:=An (c:Int);have ov:=Rm s c;rcases e with rfl|rfl|rfl|rfl
   ·rw [show ((4*c:Nat):Int)=4*(c:Int) by omega,v9,show (4*(c:Int)+2)=((4*c+2:Nat):Int) by omega,show (4*(c:Int))=((4*c:Nat):Int) by omega,ov.1,ov.2.2.1];rfl
   ·rw [show ((4*c+1:Nat):Int)=4*(c:Int)+1 by omega,v10,show (4*(c:Int)+3)=((4*c+3:Nat):Int) by omega,show (4*(c:Int)+1)=((4*c+1:Nat):Int) by omega,ov.2.1,ov.2.2.2];rcases nY with e|e<;>rw [e]<;>rfl
   ·rw [show ((4*c+2:Nat):Int)=4*(c:Int)+2 by omega,v11,show (4*(c:Int)+2)=((4*c+2:Nat):Int) by omega,show (4*(c:Int))=((4*c:Nat):Int) by omega,ov.1,ov.2.2.1];rfl
   ·rw [show ((4*c+3:Nat):Int)=4*(c:Int)+3 by omega,v12,show (4*(c:Int)+3)=((4*c+3:Nat):Int) by omega,show (4*(c:Int)+1)=((4*c+1:Nat):Int) by omega,ov.2.1,ov.2.2.2];rcases nY with e|e<;>rw [e]<;>rfl
  ·have:=Sp.tU (s:=s) (c:=x/4) (x:=(x:Int)) (v.sg _ hc) (by omega)
   rw [←this];unfold cT;cases (s.getD (x/4) 0== -1)<;>rfl
theorem U8 (hv:cX s m L=true):(bT m s.length (fun c=>s.getD c 0== -1)+(ff s m).length+s.length)% 2=0:=by
 have hp:=dI hv;rw [Uk (jb hv) hp,zG hp];have key: ∀i,i<=s.length->(dO m s.length (fun c=>if c<i then cT (s.getD c 0== -1) else 2)+dO m s.length (fun c=>if c<0 then cT (s.getD c 0== -1) else 2)+i)% 2=0:=fun i=>by
  induction i with
  |zero=>intro _;omega
  |succ i ih=>
   intro hi;have h0:=ih (by omega);have n2:cT (s.getD i 0== -1)<2:=by cases (s.getD i 0== -1)<;>decide
   have:=P2 (c:=i) (s:=fun c=>if c<i then cT (s.getD c 0== -1) else 2) (s':=fun c=>if c<i+1 then cT (s.getD c 0== -1) else 2) hp
    (GD hv _ fun c _=>by by_cases h:c<i<;>simp [h]) (GD hv _ fun c _=>by by_cases h:c<i+1<;>simp [h]) (by omega)
    (fun x hx=>by
     by_cases h:x<i
     ·simp only [if_pos h,if_pos (show x<i+1 by omega)]
     ·simp only [if_neg h,if_neg (show¬x<i+1 by omega)]) (by simp) (by simp only [if_pos (show i<i+1 by omega)];omega) (by simp only [if_neg (show¬i<i by omega),if_pos (show i<i+1 by omega)];omega)
   omega
 have h:=key s.length (zzA _);have cg: ∀{q q':Nat->Nat},(∀c,c<s.length->q c=q' c)->dO m s.length q=dO m s.length q':=fun {q q'} hq=>by
  have R:=yd hp q;have R':=yd hp q';unfold dO;have hi:=tF hp.ok hp.inv hp.ne q;have pB:=tF hp.ok hp.inv hp.ne q';have eqs: ∀z,aw s.length z->cZ q z=cZ q' z:=fun z hz=>by unfold aw at hz;unfold cZ;rw [hq _ (by omega)]
  have up: ∀{q q':Nat->Nat} (hi:Inv2 s.length (fun x=>m.getD x.toNat 0) (cZ q)) (_: ∀z,aw s.length z->cZ q z=cZ q' z) {x y:Int},aw s.length x->bf (fun x=>m.getD x.toNat 0) (cZ q) x y->bf (fun x=>m.getD x.toNat 0) (cZ q') x y:=fun {q q'} hi he {x y} hx h=>by
   induction h with
   |refl=>exact .refl _
   |aO _ ih=>exact .aO ih
   | @join z hz ih=>rw [he z (hz.cR hi hx)];exact .join ih
  exact yy R ⟨R'.rep,fun x y hx hy=>(R'.iff x y hx hy).trans ⟨up pB (fun z hz=>(eqs z hz).symm) (by unfold aw;omega),up hi eqs (by unfold aw;omega)⟩⟩
 rw [cg (q':=fun c=>cT (s.getD c 0== -1)) fun c hc=>if_pos hc,cg (q:=fun c=>if c<0 then cT (s.getD c 0== -1) else 2) (q':=pd s.length 0 0) fun c hc=>by unfold pd;rw [if_neg (by omega),if_neg (by omega),if_pos hc]] at h;exact h
def oS (s:List Int) (x:Nat):Int:=if aB s (x:Int) then 1 else-1
theorem CP (hv:cX s m L=true): ∃σ:Nat->Bool,∀q:Nat->Nat,(∀c,c<s.length->q c<2)->uG m s.length σ q:=by
 have v:=jb hv;have hp:=dI hv;obtain ⟨hd,eI⟩:=Sp.xu hv;have hS:=hd.XP.1 eI;have hf:=GD hv (fun _=>2) fun _ _=> .inl rfl;obtain ⟨g,hg⟩:=hS.XT (oS s) (fun x _=>by unfold oS;by_cases e:aB s (x:Int)=true<;>simp [e]) (fun x hx=>by
  have:=hf.mt x hx
  unfold oS;rw [show aB s ((Sp.da m x:Nat):Int)= !aB s (x:Int) from this];cases aB s (x:Int)<;>rfl) (fun c hc=>by
  have ov:=Rm s c;have nY:=v.sg c hc;unfold oS;simp only [ov.1,ov.2.1,ov.2.2.1,ov.2.2.2];rcases nY with e|e<;>rw [e]<;>exact ⟨rfl,rfl⟩)
 have ov: ∀x,oS s x=1\/oS s x= -1:=fun x=>by unfold oS;by_cases e:aB s (x:Int)=true<;>simp [e]
 have c1: ∀x,x<4*s.length->(g (Sp.da m x)% 2=0↔ ¬g x % 2=0):=fun x hx=>by
  have:=hg.edge x hx
  have:=ov x
  omega
 have c2: ∀x,x<4*s.length->(g (Sp.dA x)% 2=0↔ ¬g x % 2=0):=fun x hx=>by
  have h1:=hg.jI _ (hd.jO.lt x hx);rw [hd.jO.inv x hx] at h1;rw [h1];exact c1 x hx
 refine ⟨fun x=>decide (g x % 2=0),fun q hq=>⟨fun x hx=>?_,fun x hx=>?_⟩⟩
 ·have:=c1 x hx
  simp only [this];by_cases e:g x % 2=0<;>simp [e]
 ·have hc:x/4<s.length:=by omega
  have hj:=sE q x;unfold cZ at hj;rw [show ((x:Int)/4).toNat=x/4 by omega] at hj;have mU:=hq _ hc;have e:x=4*(x/4)\/x=4*(x/4)+1\/x=4*(x/4)+2\/x=4*(x/4)+3:=by omega
  generalize x/4=c at*;have d0:=c2 (4*c) (by omega);have d1:=c2 (4*c+1) (by omega);have d2:=c2 (4*c+2) (by omega);have d3:=c2 (4*c+3) (by omega);rw [show Sp.dA (4*c)=4*c+3 by unfold Sp.dA;omega] at d0;rw [show Sp.dA (4*c+1)=4*c by unfold Sp.dA;omega] at d1;rw [show Sp.dA (4*c+2)=4*c+1 by unfold Sp.dA;omega] at d2;rw [show Sp.dA (4*c+3)=4*c+2 by unfold Sp.dA;omega] at d3
  obtain ⟨v1,v2,v3,v4,v5,v6,v7,v8,_⟩:=An (c:Int);have key: ∀y,(jS q x=y)->(g y % 2=0↔ ¬g x % 2=0)->decide (g (jS q x)% 2=0)= !decide (g x % 2=0):=fun y hy h=>by
   rw [hy];by_cases e:g x % 2=0
   ·rw [decide_eq_true e,decide_eq_false fun h'=>h.1 h' e];rfl
   ·rw [decide_eq_false e,decide_eq_true (h.2 e)];rfl
  have XS:q c=0\/q c=1:=by omega
  rcases XS with h|h<;>rw [h] at hj<;>rcases e with rfl|rfl|rfl|rfl
  ·rw [show ((4*c:Nat):Int)=4*(c:Int) by omega,v1] at hj;exact key (4*c+1) (by omega) (by omega)
  ·rw [show ((4*c+1:Nat):Int)=4*(c:Int)+1 by omega,v2] at hj;exact key (4*c) (by omega) (by omega)
  ·rw [show ((4*c+2:Nat):Int)=4*(c:Int)+2 by omega,v3] at hj;exact key (4*c+3) (by omega) (by omega)
  ·rw [show ((4*c+3:Nat):Int)=4*(c:Int)+3 by omega,v4] at hj;exact key (4*c+2) (by omega) (by omega)
  ·rw [show ((4*c:Nat):Int)=4*(c:Int) by omega,v5] at hj;exact key (4*c+3) (by omega) (by omega)
  ·rw [show ((4*c+1:Nat):Int)=4*(c:Int)+1 by omega,v6] at hj;exact key (4*c+2) (by omega) (by omega)
  ·rw [show ((4*c+2:Nat):Int)=4*(c:Int)+2 by omega,v7] at hj;exact key (4*c+1) (by omega) (by omega)
  ·rw [show ((4*c+3:Nat):Int)=4*(c:Int)+3 by omega,v8] at hj;exact key (4*c) (by omega) (by omega)
theorem Jo (hv:cX s m L=true) (ch:Nat->Bool):(bT m s.length ch+difS false ch s.length+(ff s m).length+s.length+difS false (fun c=>s.getD c 0== -1) s.length)% 2=0:=by
 have hp:=dI hv;obtain ⟨σ,hσ⟩:=CP hv;have key: ∀(c1 c2:Nat->Bool) (i:Nat),i<=s.length->(bT m s.length (fun c=>if c<i then c1 c else c2 c)+difS false c1 i+bT m s.length c2+difS false c2 i)% 2=0:=fun c1 c2 i=>by
  induction i with
  |zero=>
   intro _;rw [show (fun c=>if c<0 then c1 c else c2 c)=c2 from funext fun c=>if_neg (by omega)];simp only [difS];omega
  |succ i ih=>
   intro hi;have h0:=ih (by omega);simp only [difS];have n2: ∀b,cT b<2:=fun b=>by cases b<;>decide
   by_cases e:c1 i=c2 i
   ·have e2:(fun c=>if c<i+1 then c1 c else c2 c)=fun c=>if c<i then c1 c else c2 c:=by
     funext c;by_cases h:c<i
     ·rw [if_pos h,if_pos (by omega)]
     ·rw [if_neg h];by_cases h':c=i
      ·rw [if_pos (by omega),h',e]
      ·rw [if_neg (by omega)]
    rw [e2,e]
    split<;>omega
   ·have:=P2 (c:=i) (s:=fun c=>cT (if c<i then c1 c else c2 c)) (s':=fun c=>cT (if c<i+1 then c1 c else c2 c)) hp (hσ _ fun c _=>n2 _) (hσ _ fun c _=>n2 _) (by omega)
     (fun x hx=>by
      by_cases h:x<i
      ·simp only [if_pos h,if_pos (show x<i+1 by omega)]
      ·simp only [if_neg h,if_neg (show¬x<i+1 by omega)]) (by have:=n2 (if i<i then c1 i else c2 i);omega) (by have:=n2 (if i<i+1 then c1 i else c2 i);omega) (by
      simp only [if_neg (show¬i<i by omega),if_pos (show i<i+1 by omega)];revert e;cases c1 i<;>cases c2 i<;>simp [cT])
    rw [←zG hp,←zG hp] at this;revert e;cases c1 i<;>cases c2 i<;>simp<;>omega
 have h1:=key ch (fun c=>s.getD c 0== -1) s.length (zzA _);have h2:=U8 hv;have e2:bT m s.length (fun c=>if c<s.length then ch c else s.getD c 0== -1)=bT m s.length ch:=by unfold bT;rw [As fun c hc=>if_pos hc]
 rw [e2] at h1;omega
end
end Go.Proofs.YtmdjdekgakidhaaGreatDoor
namespace Go.Proofs.YtmdjdekgakidhaaGreatDoor
open Go Go.RowKit
set_option maxRecDepth 100000
theorem GC: ∀(j:Nat) (x:Int),dpw j x≠0->(x+2*j)% 4=0
 |0,x,h=>by
  simp only [dpw] at h;by_cases h0:x=0
  ·rw [h0];rfl
  ·rw [if_neg h0] at h;exact absurd rfl h
 |j+1,x,h=>by
  simp only [dpw,dw] at h;by_cases h1:dpw j (x+2)=0
  ·have:=GC j (x-2) (fun h2=>h (by rw [h1,h2];rfl))
   omega
  ·have:=GC j (x+2) h1
   omega
theorem Jn {s:List Int} (hs:oU s s.length): ∀c,c<=s.length->wrS s c=c-2*(difS false (fun c=>s.getD c 0== -1) c:Int):=fun c=>by
 induction c with
 |zero=>intro _;simp [wrS,difS]
 |succ c ih=>
  intro hc;have h1:=ih (by omega);simp only [wrS,difS];rcases hs c (by omega) with e|e
  ·have:((s.getD c 0== -1)=false):=by rw [e];rfl
   rw [if_pos this];omega
  ·have: ¬((s.getD c 0== -1)=false):=by rw [e];decide
   rw [if_neg this];omega
theorem CQ {m:List Int} {n L:Nat} (hp:bD m n) (h0: ¬(n=0/\L=0)) (k:Nat):1<=cN m n L k:=by
 unfold cN;by_cases hn:0<n
 ·have:=Ep hp (e9 k) hn;omega
 ·omega
theorem Jm {s m:List Int} {L:Nat} (hv:cX s m L=true) (av: ¬(s.length=0/\L=0)) {e:Int} (he:fP m s.length L (wrS s s.length) e≠0):(e-2*(((ff s m).length:Int)+L-1))% 4=0:=by
 have hp:=dI hv;have hw:=Jn (jb hv).sg s.length (zzA _);generalize wrS s s.length=w at*;have hb:cu m s.length L 1 (e+3*w)≠0:=fun h=>he (by unfold fP;rw [h];omega);obtain ⟨k,_,hk⟩:=xK hb;have hc:=CQ hp av k;rw [if_pos hc] at hk;have h1:=GC _ _ hk;have h2:=Jo hv (e9 k);rw [←Eo] at h2;unfold cN at h1 hc;unfold wB at h1;omega
end Go.Proofs.YtmdjdekgakidhaaGreatDoor
