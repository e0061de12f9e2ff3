/- Plain: the shadow of a diagram; its circles where all crossings are smoothed. -/
import Derived.Test.YtjpbeacamoijhaaGreatDoorHs13
import Derived.Test.YtjpbeacamoijhaaGreatDoorZp
import Derived.Test.YtjpbeacamoijhaaGreatDoorZq
namespace Go.Proofs.YtjpbeacamoijhaaGreatDoor
set_option linter.unusedSimpArgs false
set_option linter.unusedVariables false
namespace Hs
open Sp (eY aV aw itn SC aZ)
def aQ (h:Nat):Nat:=2*(h/4)+h % 2
def oG (sg:Nat->Int) (a:Nat):Nat:=if a % 2=0 then 4*(a/2)+2 else if sg (a/2)=1 then 4*(a/2)+1 else 4*(a/2)+3
def au (s m:List Int):Sh:=⟨s.length,fun a=>aQ (aZ m (oG (fun c=>s.getD c 0) a)),fun c=>s.getD c 0⟩
section
variable {s m:List Int} {L:Int}
theorem U3 (hs:sL s s.length) {c:Nat} (hc:c<s.length):ak s ((cZ (au s m) (2*c):Nat):Int)=false/\ak s ((cZ (au s m) (2*c+1):Nat):Int)=false/\ak s ((aG (au s m) (2*c):Nat):Int)=true/\ak s ((aG (au s m) (2*c+1):Nat):Int)=true:=by
 obtain ⟨a0,a1,a2,a3⟩:=zT s c;rw [sS,uL,dP,n9];show _/\ak s ((if s.getD c 0=1 then 4*c+3 else 4*c+1:Nat):Int)=false/\_/\ak s ((if s.getD c 0=1 then 4*c+1 else 4*c+3:Nat):Int)=true;refine ⟨a0,?_,a2,?_⟩
 ·rcases hs c hc with h|h
  ·rw [if_pos h,a3,h];rfl
  ·rw [if_neg (by omega),a1,h];rfl
 ·rcases hs c hc with h|h
  ·rw [if_pos h,a1,h];rfl
  ·rw [if_neg (by omega),a3,h];rfl
theorem De (hs:sL s s.length) {a:Nat} (ha:a<2*s.length):ak s ((cZ (au s m) a:Nat):Int)=false/\ak s ((aG (au s m) a:Nat):Int)=true:=by
 have h:=U3 (m:=m) hs (c:=a/2) (by omega);have e:a=2*(a/2)\/a=2*(a/2)+1:=by omega
 rcases e with e|e
 ·rw [e];exact ⟨h.1,h.2.2.1⟩
 ·rw [e];exact ⟨h.2.1,h.2.2.2⟩
theorem KI (a:Nat):aQ (cZ (au s m) a)=a:=by
 unfold aQ cZ;split<;>try omega
 split<;>omega
theorem En (a:Nat):aQ (aG (au s m) a)=a:=by
 unfold aQ aG;split<;>try omega
 split<;>omega
theorem yQ (hs:sL s s.length) {h:Nat} (hh:h<4*s.length):(ak s (h:Int)=false->h=cZ (au s m) (aQ h))/\(ak s (h:Int)=true->h=aG (au s m) (aQ h)):=by
 have hc:h/4<s.length:=by omega
 obtain ⟨b1,b2,b3,b4⟩:=U3 (m:=m) hs hc;have e:h=4*(h/4)\/h=4*(h/4)+1\/h=4*(h/4)+2\/h=4*(h/4)+3:=by omega
 obtain ⟨a0,a1,a2,a3⟩:=zT s (h/4);generalize h/4=c at*;have i1:=uL (D:=au s m) c;have o1:=n9 (D:=au s m) c;have mC:(au s m).sg c=s.getD c 0:=rfl;rw [mC] at i1 o1;rcases e with e|e|e|e<;>subst e
 ·rw [show aQ (4*c)=2*c by unfold aQ;omega,sS,dP];exact ⟨fun _=>rfl,fun h=>(by rw [a0] at h;cases h)⟩
 ·rw [show aQ (4*c+1)=2*c+1 by unfold aQ;omega,i1,o1,a1];rcases hs c hc with h|h
  ·rw [if_pos h,if_pos h,h];exact ⟨fun h=>(by cases h),fun _=>rfl⟩
  ·rw [if_neg (by omega),if_neg (by omega),h];exact ⟨fun _=>rfl,fun h=>(by cases h)⟩
 ·rw [show aQ (4*c+2)=2*c by unfold aQ;omega,sS,dP];exact ⟨fun h=>(by rw [a2] at h;cases h),fun _=>rfl⟩
 ·rw [show aQ (4*c+3)=2*c+1 by unfold aQ;omega,i1,o1,a3];rcases hs c hc with h|h
  ·rw [if_pos h,if_pos h,h];exact ⟨fun _=>rfl,fun h=>(by cases h)⟩
  ·rw [if_neg (by omega),if_neg (by omega),h];exact ⟨fun h=>(by cases h),fun _=>rfl⟩
theorem vn (v:jP s m L) {h:Nat} (hh:h<4*s.length):aZ m h<4*s.length/\((aZ m h:Nat):Int)=m.getD h 0/\ak s ((aZ m h:Nat):Int)= !ak s (h:Int):=by
 obtain ⟨h1,h2,h3,h4,h5⟩:=v.mt h hh;have e:((aZ m h:Nat):Int)=m.getD h 0:=by unfold aZ;omega
 refine ⟨by omega,e,?_⟩;rw [e];revert h5;cases ak s (h:Int)<;>cases ak s (m.getD h 0)<;>simp
theorem yc (v:jP s m L) {a:Nat} (ha:a<2*s.length):aZ m (aG (au s m) a)=cZ (au s m) ((au s m).nx a):=by
 have hl:=qK (D:=au s m) ha;obtain ⟨h1,h2,h3⟩:=vn v hl;rw [(De v.sg ha).2] at h3;exact (yQ v.sg h1).1 h3
theorem pN (v:jP s m L):Ok (au s m):=by
 refine ⟨fun a ha=>?_,fun a b ha hb e=>?_,fun c hc=>v.sg c hc⟩
 ·have hl:=qK (D:=au s m) ha
  have:=(vn v hl).1
  show aQ (aZ m (aG (au s m) a))<2*s.length;unfold aQ;omega
 ·have h1:=yc v ha;have h2:=yc v hb;rw [e,←h2] at h1;have la:=qK (D:=au s m) ha;have lb:=qK (D:=au s m) hb;have k1:=v.mt _ la;have k2:=v.mt _ lb;have e1:=(vn v la).2.1;have e2:=(vn v lb).2.1
  have:((aG (au s m) a:Nat):Int)=(aG (au s m) b:Nat):=by rw [←k1.2.2.2.1,←k2.2.2.2.1,←e1,←e2,h1]
  rw [←En (s:=s) (m:=m) a,←En (s:=s) (m:=m) b];congr 1;omega
theorem A8 (hv:bI s m L=true):qT (au s m) (aZ m):=by
 have v:=dr hv;obtain ⟨hd,gS⟩:=Sp.qD hv;exact ⟨hd.vB.1 gS,fun a ha=>yc v ha⟩
def Z0 (st:Nat->Nat) (k:Nat):WS:=⟨st,fun _=>false,0,0,k⟩
theorem yH (D:Sh) {st:Nat->Nat} (h: ∀c,st c<=1\/st c=5) (k:Nat):Bd D (Z0 st k):=fun a ha=>by
 unfold Fit;exact (aD.i0 (h _)).2 ⟨rfl,fun h=>(by cases h)⟩
theorem yM (D:Sh) (st:Nat->Nat) (k:Nat):eI D (List.range (2*D.n)) (Z0 st k):=⟨fun a ha=>List.mem_range.1 ha,fun a ha _=>List.mem_range.2 ha⟩
theorem Lb {D:Sh} (hD:Ok D) (X:Int->Int->Nat->Int): ∀(B:List Nat) (S:WS),Bd D S->eI D B S->(∀c,S.st c=5\/S.st c=2\/S.st c=4)->
  ∃T:List Nat,(∀t∈T,t<2*D.n/\S.ae t=false)/\T.Pairwise (fun t t'=> ¬SC (dH D fun _=>true) t t')/\(∀a,a<2*D.n->S.ae a=false-> ∃t∈T,SC (dH D fun _=>true) t a)/\run X D B S=X S.i S.j (S.k+T.length)
 |[],S,hB,hC,hs=>⟨[],by simp, .nil,fun a ha hv=>(by have:=hC.all a ha hv;cases this),rfl⟩
 |a::B,S,hB,hC,hs=>by
  cases hv:S.ae a with
  |true=>
   obtain ⟨T,h1,h2,h3,h4⟩:=Lb hD X B S hB ⟨fun b hb=>hC.lt b (.tail _ hb),fun b hb nC=>(List.mem_cons.1 (hC.all b hb nC)).resolve_left fun e=>by rw [e,hv] at nC;cases nC⟩ hs;refine ⟨T,h1,h2,h3,?_⟩;rw [←h4];show (if S.ae a=true then _ else _)=_;rw [if_pos hv]
  |false=>
   have bZ:=hC.lt a (.head _);obtain ⟨l,C,cS,B8,Oq⟩:=u9 hD hB bZ hv;have JA: ∀b,b<2*D.n->S.ae b=false->aq S (b/2)=true:=fun b hb nC=>by
    refine sF.2 ?_;have f:=hB b hb;unfold Fit at f;rcases hs (b/2) with h|h|h
    ·exact .inl h
    ·exact .inr h
    ·rw [h,aD.i4,nC] at f;cases f.1
   have hp:=Bi hD (aq S);have same: ∀i,itn (dH D (aq S)) i a=itn (dH D fun _=>true) i a:=fun i=>by
    induction i with
    |zero=>rfl
    |succ i ih=>
     simp only [itn];rw [←ih];have hk:=B8 i
     have:aq S (itn (dH D (aq S)) i a/2)=true:=JA _ (hp.a7 bZ i) (cS _ hk)
     generalize itn (dH D (aq S)) i a=b at*;unfold dH;rw [this]
   have hQ:QK D (aj l) (aq S) (fun b=>co b % 2) S.st l S D.n:=QK.of hB C cS fun b _ _ _ h=>by have:=hs (b/2);omega
   have hO:oT (aq S) S.st l:=fun b hb aJ=>by
    have hk:aj l b=true:=my.2 (aJ.subset (by simp));rw [JA b (C.vE hk) (cS b hk)] at hb;cases hb
   obtain ⟨t1,t2⟩:=vw (X:=X) hD hB C hQ (hO.ord C.ty) (fun b=>by show co (co b)% 2=_;rw [di]) B;have aX: ∀c,(TK (aj l) (aq S) S).cr.st c=5\/(TK (aj l) (aq S) S).cr.st c=2\/(TK (aj l) (aq S) S).cr.st c=4:=fun c=>by
    have k1:aj l (2*c)=true->aq S c=true:=fun h=>by
     have:=JA _ (C.vE h) (cS _ h);rwa [show 2*c/2=c by omega] at this
    have k2:aj l (2*c+1)=true->aq S c=true:=fun h=>by
     have:=JA _ (C.vE h) (cS _ h);rwa [show (2*c+1)/2=c by omega] at this
    show (if aj l (2*c)&&aj l (2*c+1) then 4 else if aj l (2*c) then (if S.ae (2*c+1) then 4 else if aq S c then 2 else 3) else if aj l (2*c+1) then (if S.ae (2*c) then 4 else if aq S c then 2 else 3) else S.st c)=5\/(if aj l (2*c)&&aj l (2*c+1) then 4 else if aj l (2*c) then (if S.ae (2*c+1) then 4 else if aq S c then 2 else 3) else if aj l (2*c+1) then (if S.ae (2*c) then 4 else if aq S c then 2 else 3) else S.st c)=2\/(if aj l (2*c)&&aj l (2*c+1) then 4 else if aj l (2*c) then (if S.ae (2*c+1) then 4 else if aq S c then 2 else 3) else if aj l (2*c+1) then (if S.ae (2*c) then 4 else if aq S c then 2 else 3) else S.st c)=4
    cases e1:aj l (2*c) with
    |true=>
     rw [k1 e1];cases aj l (2*c+1)<;>cases S.ae (2*c+1)<;>simp
    |false=>
     cases e2:aj l (2*c+1) with
     |true=>rw [k2 e2];cases S.ae (2*c)<;>simp
     |false=>simpa using hs c
   obtain ⟨T,h1,h2,h3,h4⟩:=Lb hD X B (TK (aj l) (aq S) S).cr t2.cr (KU hC C.hd) aX;have tv: ∀b,(TK (aj l) (aq S) S).cr.ae b=(S.ae b||aj l b):=fun _=>rfl;have inK: ∀b,SC (dH D fun _=>true) a b->aj l b=true:=fun b ⟨i,hi⟩=>by rw [←hi,←same];exact B8 i
   refine ⟨a::T,fun t ht=>?_,List.pairwise_cons.2 ⟨fun t ht lN=>?_,h2⟩,fun b hb nC=>?_,?_⟩
   ·rcases List.mem_cons.1 ht with rfl|ht
    ·exact ⟨bZ,hv⟩
    ·have:=h1 t ht
     rw [tv] at this
     exact ⟨this.1,by cases e:S.ae t with
      |false=>rfl
      |true=>rw [e] at this;cases this.2⟩
   ·have:=(h1 t ht).2
    rw [tv,inK t lN,Bool.or_true] at this;cases this
   ·cases hk:aj l b with
    |true=>
     obtain ⟨i,hi⟩:=Oq b hk;exact ⟨a, .head _,i,by rw [hi,same]⟩
    |false=>
     obtain ⟨t,ht,h⟩:=h3 b hb (by rw [tv,nC,hk];rfl);exact ⟨t, .tail _ ht,h⟩
   ·rw [t1,h4];show X S.i S.j (S.k+1+T.length)=X S.i S.j (S.k+(T.length+1));congr 1;omega
def lh (s:List Int) (c:Nat):Bool:=s.getD c 0== -1
theorem HD (hs:sL s s.length) {a:Nat} (ha:a<2*s.length):aF (lh s (a/2)) (cZ (au s m) a:Nat)=(aG (au s m) (co a):Nat)/\aF (lh s (a/2)) (aG (au s m) a:Nat)=(cZ (au s m) (co a):Nat):=by
 have e:a=2*(a/2)\/a=2*(a/2)+1:=by omega
 have hc:a/2<s.length:=by omega
 generalize a/2=c at*;obtain ⟨j0,j1,j2,j3⟩:=jn4 (lh s c) c;have i1:=uL (D:=au s m) c;have o1:=n9 (D:=au s m) c;have mC:(au s m).sg c=s.getD c 0:=rfl;rw [mC] at i1 o1;rcases e with e|e<;>subst e
 ·rw [yF,sS,dP,i1,o1,j0,j2];unfold lh;rcases hs c hc with h|h<;>rw [h]<;>exact ⟨rfl,rfl⟩
 ·rw [co1,sS,dP,i1,o1];unfold lh at*;rcases hs c hc with h|h<;>rw [h] at j1 j3⊢
  ·exact ⟨j3,j1⟩
  ·exact ⟨j1,j3⟩
theorem Em (D:Sh) (b:Nat):cZ D b/4=b/2:=by
 unfold cZ
 split
 ·omega
 ·split<;>omega
theorem IL (D:Sh) (b:Nat):aG D b/4=b/2:=by
 unfold aG
 split
 ·omega
 ·split<;>omega
theorem y4k (v:jP s m L) {a:Nat} (ha:a<2*s.length) {z:Int} (h:bH (fun x=>m.getD x.toNat 0) (fun x=>aF (lh s (x/4).toNat) x) (cZ (au s m) a:Nat) z):
  ∃b,b<2*s.length/\((z=(cZ (au s m) b:Nat)/\SC (dH (au s m) fun _=>true) a b)\/(z=(aG (au s m) b:Nat)/\SC (dH (au s m) fun _=>true) a ((au s m).nx b))):=by
 have hD:=pN v;have hp:=Bi hD fun _=>true;have Pb: ∀b,((cZ (au s m) b:Nat):Int)/4=(b/2:Nat):=fun b=>by have:=Em (au s m) b;omega
 have d4o: ∀b,((aG (au s m) b:Nat):Int)/4=(b/2:Nat):=fun b=>by have:=IL (au s m) b;omega
 induction h with
 |refl=>exact ⟨a,ha, .inl ⟨rfl, .refl _ _⟩⟩
 |mate _ ih=>
  obtain ⟨b,hb,⟨e,h⟩|⟨e,h⟩⟩:=ih
  ·obtain ⟨p,mD,Wb⟩:=Iy hD hb;refine ⟨p,mD, .inr ⟨?_,by rw [Wb];exact h⟩⟩;rw [e];show m.getD (Int.toNat ((cZ (au s m) b:Nat):Int)) 0=_;rw [Int.toNat_natCast,←Wb,←yc v mD];have lo:=qK (D:=au s m) mD;have k:=v.mt _ lo;have e1:=(vn v lo).2.1;rw [←k.2.2.2.1,←e1,Int.toNat_natCast]
  ·refine ⟨(au s m).nx b,hD.lt _ hb, .inl ⟨?_,h⟩⟩;rw [e];show m.getD (Int.toNat ((aG (au s m) b:Nat):Int)) 0=_;rw [Int.toNat_natCast,←yc v hb,(vn v (qK (D:=au s m) hb)).2.1]
 |join _ ih=>
  obtain ⟨b,hb,⟨e,h⟩|⟨e,h⟩⟩:=ih
  ·refine ⟨co b,ee hb, .inr ⟨?_,h.trans ⟨1,rfl⟩⟩⟩;rw [e];show aF (lh s (((cZ (au s m) b:Nat):Int)/4).toNat) _=_;rw [Pb,Int.toNat_natCast];exact (HD v.sg hb).1
  ·refine ⟨co b,ee hb, .inl ⟨?_,?_⟩⟩
   ·rw [e];show aF (lh s (((aG (au s m) b:Nat):Int)/4).toNat) _=_;rw [d4o,Int.toNat_natCast];exact (HD v.sg hb).2
   ·have:SC (dH (au s m) fun _=>true) (co b) ((au s m).nx b):=⟨1,by show (au s m).nx (co (co b))=_;rw [di]⟩
    exact h.trans (this.symm hp (ee hb))
theorem y4l (v:jP s m L) {a:Nat} (ha:a<2*s.length) {b:Nat} (h:SC (dH (au s m) fun _=>true) a b):bH (fun x=>m.getD x.toNat 0) (fun x=>aF (lh s (x/4).toNat) x) (cZ (au s m) a:Nat) (cZ (au s m) b:Nat):=by
 have hD:=pN v;have hp:=Bi hD fun _=>true;obtain ⟨i,rfl⟩:=h
 induction i with
 |zero=>exact .refl _
 |succ i ih=>
  have hb:=hp.a7 ha i;simp only [itn];generalize itn (dH (au s m) fun _=>true) i a=b at*;have h1:=ih.join.mate;have Pb:((cZ (au s m) b:Nat):Int)/4=(b/2:Nat):=by have:=Em (au s m) b;omega
  have e:(fun x:Int=>m.getD x.toNat 0) ((fun x:Int=>aF (lh s (x/4).toNat) x) (cZ (au s m) b:Nat))=(cZ (au s m) (dH (au s m) (fun _=>true) b):Nat):=by
   show m.getD (Int.toNat (aF (lh s (((cZ (au s m) b:Nat):Int)/4).toNat) _)) 0=_;rw [Pb,Int.toNat_natCast,(HD v.sg hb).1,Int.toNat_natCast,←(vn v (qK (D:=au s m) (ee hb))).2.1,yc v (ee hb)];rfl
  rw [←e];exact h1
theorem Fk (hv:bI s m L=true) (X:Int->Int->Nat->Int) (k:Nat) {B:List Nat} (hC:eI (au s m) B (Z0 (fun _=>5) k)):run X (au s m) B (Z0 (fun _=>5) k)=X 0 0 (k+pD m s.length (lh s)):=by
 have v:=dr hv;have hD:=pN v;have hp:=pj hv;obtain ⟨T,h1,h2,h3,h4⟩:=Lb hD X B (Z0 (fun _=>5) k) (yH _ (fun _=> .inr rfl) k) hC (fun _=> .inl rfl);rw [h4];have hR:=HE hp.ok hp.inv hp.ne (ch:=lh s)
 have:roots (lH m (lh s) s.length)=(T.map fun t=>cZ (au s m) t).length:=by
  refine Tc hR.rep (fun x hx=>?_) ?_ (fun x hx=>?_)
  ·obtain ⟨t,ht,rfl⟩:=List.mem_map.1 hx;exact A3 (D:=au s m) (h1 t ht).1
  ·rw [List.pairwise_map];refine h2.imp_of_mem fun {a b} ha hb hn e=>hn ?_;have la:=(h1 a ha).1;have lb:=(h1 b hb).1;obtain ⟨c,hc,⟨e1,e2⟩|⟨e1,e2⟩⟩:=y4k v la ((hR.iff _ _ (A3 (D:=au s m) la) (A3 (D:=au s m) lb)).1 e)
   ·have:b=c:=by
     rw [←KI (s:=s) (m:=m) b,←KI (s:=s) (m:=m) c];congr 1;omega
    rw [this];exact e2
   ·have k1:=(De (m:=m) v.sg lb).1;rw [e1,(De (m:=m) v.sg hc).2] at k1;cases k1
  ·have key: ∀a,a<2*s.length-> ∃y∈T.map fun t=>cZ (au s m) t,(lH m (lh s) s.length).getD (cZ (au s m) a) 0=(lH m (lh s) s.length).getD y 0:=fun a ha=>by
    obtain ⟨t,ht,lN⟩:=h3 a ha rfl;have lt:=(h1 t ht).1;exact ⟨_,List.mem_map.2 ⟨t,ht,rfl⟩,((hR.iff _ _ (A3 (D:=au s m) lt) (A3 (D:=au s m) ha)).2 (y4l v lt lN)).symm⟩
   cases ho:ak s (x:Int) with
   |false=>
    have e:=(yQ (m:=m) v.sg hx).1 ho;rw [e];exact key _ (by unfold aQ;omega)
   |true=>
    have e:=(yQ (m:=m) v.sg hx).2 ho;have aY:aQ x<2*s.length:=by unfold aQ;omega
    obtain ⟨y,hy,e2⟩:=key _ (hD.lt _ aY);refine ⟨y,hy,?_⟩;rw [←e2];refine (hR.iff _ _ hx (A3 (D:=au s m) (hD.lt _ aY))).2 ?_
    have:=bH.mate (bH.refl (mt:=fun x:Int=>m.getD x.toNat 0) (jn:=fun x:Int=>aF (lh s (x/4).toNat) x) (x:Int))
    rw [←yc v aY,←e,(vn v hx).2.1];exact this
 show X 0 0 (k+T.length)=X 0 0 (k+roots (lH m (lh s) s.length));rw [this,List.length_map]
end
end Hs
namespace Hs
open Sp (eY aV aw itn SC aZ)
def bU (x a:Nat):Nat:=if a/2<x then a else a+2
def se (x c:Nat):Nat:=if c<x then c else c+1
theorem Ir (x a:Nat):bU x a/2=se x (a/2):=by unfold bU se;split<;>omega
theorem Qq (x a:Nat):bU x a % 2=a % 2:=by unfold bU;split<;>omega
theorem x8 (x a:Nat):bU x a/2≠x:=by unfold bU;split<;>omega
theorem KH (x c:Nat):se x c≠x:=by unfold se;split<;>omega
theorem Zr (x a:Nat):co (bU x a)=bU x (co a):=by
 have:=bV a
 unfold bU;rw [this];by_cases h:a/2<x
 ·rw [if_pos h,if_pos h]
 ·rw [if_neg h,if_neg h];unfold co;by_cases h2:a % 2=0
  ·rw [if_pos h2,if_pos (by omega)]
  ·rw [if_neg h2,if_neg (by omega)];omega
theorem you {x a b:Nat} (h:bU x a=bU x b):a=b:=by unfold bU at h;split at h<;>split at h<;>omega
theorem y71 {x a b:Nat} (h:se x a=se x b):a=b:=by unfold se at h;split at h<;>split at h<;>omega
theorem RF {x b:Nat} (h:b/2≠x): ∃a,bU x a=b:=by
 by_cases h1:b/2<x
 ·exact ⟨b,if_pos h1⟩
 ·exact ⟨b-2,by unfold bU;rw [if_neg (by omega)];omega⟩
theorem D7 {x a n:Nat} (h:a<2*n):bU x a<2*(n+1):=by unfold bU;split<;>omega
theorem Qp {x a n:Nat} (hx:x<n+1) (h:bU x a<2*(n+1)):a<2*n:=by unfold bU at h;split at h<;>omega
inductive D3 (D:Sh) (x:Nat):Nat->Nat->Prop
 |stop {w:Nat} (h:w/2≠x):D3 D x w w
 |go {w w':Nat} (h:w/2=x) (k:D3 D x (D.nx (co w)) w'):D3 D x w w'
structure Hw (D D':Sh) (x:Nat):Prop where
 hx:x<D.n
 n:D.n=D'.n+1
 sg: ∀c,c<D'.n->D'.sg c=D.sg (se x c)
 nx: ∀a,a<2*D'.n->D3 D x (D.nx (bU x a)) (bU x (D'.nx a))
structure Rl (x e:Nat) (S' S:WS):Prop where
 st: ∀c,S.st (se x c)=S'.st c
 ae: ∀a,S.ae (bU x a)=S'.ae a
 i:S'.i=S.i
 j:S'.j=S.j
 k:S'.k=S.k+e
 x:S.st x=5\/S.st x=2\/S.st x=4
def Zx (D:Sh) (x w:Nat):Prop:=(w=2*x/\D.nx (2*x+1)=2*x)\/(w=2*x+1/\D.nx (2*x)=2*x+1)\/(w/2=x/\D.nx (2*x+1)=2*x+1/\D.nx (2*x)=2*x)
def vS (D:Sh) (x:Nat):Nat:=(if D.nx (2*x+1)=2*x then 1 else 0)+(if D.nx (2*x)=2*x+1 then 1 else 0)+(if D.nx (2*x+1)=2*x+1/\D.nx (2*x)=2*x then 1 else 0)
section
variable {D D':Sh} {x:Nat}
theorem y72 (hD:Ok D) (hx:x<D.n) {w:Nat} (hw:w/2=x) (h:Zx D x (D.nx (co w))):Zx D x w:=by
 have e:w=2*x\/w=2*x+1:=by omega
 have inj:D.nx (2*x+1)≠D.nx (2*x):=fun e=>by have:=hD.inj _ _ (by omega) (by omega) e;omega
 rcases e with e|e<;>subst e
 ·rw [yF] at h;rcases h with ⟨h1,h2⟩|⟨h1,h2⟩|⟨_,h2,h3⟩
  ·exact .inl ⟨rfl,h2⟩
  ·exact absurd (h1.trans h2.symm) inj
  ·exact .inr (.inr ⟨hw,h2,h3⟩)
 ·rw [co1] at h;rcases h with ⟨h1,h2⟩|⟨h1,h2⟩|⟨_,h2,h3⟩
  ·exact absurd (h2.trans h1.symm) inj
  ·exact .inr (.inl ⟨rfl,h2⟩)
  ·exact .inr (.inr ⟨hw,h2,h3⟩)
theorem U2 (hD:Ok D) (hx:x<D.n) {z:Nat} (hz:z<2*D.n) (JH:z/2≠x): ¬Zx D x (D.nx z):=by
 have key: ∀y,y/2=x->D.nx z≠D.nx y:=fun y hy e=>JH (by rw [hD.inj _ _ hz (by omega) e];exact hy);rintro (⟨h1,h2⟩|⟨h1,h2⟩|⟨h1,h2,h3⟩)
 ·exact key (2*x+1) (by omega) (h1.trans h2.symm)
 ·exact key (2*x) (by omega) (h1.trans h2.symm)
 ·have e:D.nx z=2*x\/D.nx z=2*x+1:=by omega
  rcases e with e|e
  ·exact key (2*x) (by omega) (e.trans h3.symm)
  ·exact key (2*x+1) (by omega) (e.trans h2.symm)
theorem RE (hD:Ok D) (hx:x<D.n) {p:Nat} (hp:p/2≠x) {k:WS->Nat->Int} {w w':Nat} (hF:D3 D x w w'): ∀{S:WS},qa D S p w->(S.st x=5\/S.st x=2\/S.st x=4)->(∀z,Zx D x z->S.ae z=false)-> ¬Zx D x w->
  ∃S1,W D (dT p) S w k=W D (dT p) S1 w' k/\qa D S1 p w'/\(∀c,c≠x->S1.st c=S.st c)/\(∀a,a/2≠x->S1.ae a=S.ae a)/\S1.i=S.i/\S1.j=S.j/\S1.k=S.k/\(S1.st x=5\/S1.st x=2\/S1.st x=4)/\(∀z,Zx D x z->S1.ae z=false):=by
 induction hF with
 |stop h=>intro S hM hs hZ hw;exact ⟨S,rfl,hM,fun _ _=>rfl,fun _ _=>rfl,rfl,rfl,rfl,hs,hZ⟩
 | @go w w' h _ ih=>
   intro S hM hs hZ hw;have Nz:w≠p:=fun e=>hp (e▸h);have hv:S.ae w=false:=hM.vq.resolve_left Nz;have hl:=hM.lq;have f:=hM.inv w hl;unfold Fit at f;rw [h] at f;have hb: ∃v,(v=2\/v=4)/\br D S w=[(1,S.mk' w v,D.nx (co w))]:=by
    rcases hs with h5|h2|h4
    ·exact ⟨2, .inl rfl,tl hl (by rw [h];exact h5)⟩
    ·exact ⟨4, .inr rfl,l5 hl (by rw [h];exact h2)⟩
    ·rw [h4,aD.i4,hv] at f;cases f.1
   obtain ⟨v,vH,hb⟩:=hb;have Kb:=hM.step hD Nz (x:=(1,S.mk' w v,D.nx (co w))) (by rw [hb];exact .head _);obtain ⟨S1,k1,k2,k3,k4,k5,k6,k7,k8,k9⟩:=ih Kb (by rw [uz h];omega) (fun z hz=>by
    have hzw:z≠w:=fun e=>hw (by rw [←e];exact hz);exact (dM S hzw).trans (hZ z hz)) fun hz=>hw (y72 hD hx h hz)
   refine ⟨S1,?_,k2,fun c hc=>?_,fun a ha=>?_,k5,k6,k7,k8,k9⟩
   ·rw [gQ (tM Nz) hv,hb,rV,k1]
   ·rw [k3 c hc];exact bt _ _ (by rw [h];exact hc)
   ·rw [k4 a ha];exact dM S fun e=>ha (by rw [e];exact h)
theorem Rl.mark (e:Nat) {S' S:WS} (h:Rl x e S' S) (a v:Nat):Rl x e (S'.mk' a v) (S.mk' (bU x a) v):=by
 refine ⟨fun c=>?_,fun b=>?_,h.i,h.j,h.k,?_⟩
 ·show aM S.st (bU x a/2) v (se x c)=aM S'.st (a/2) v c;rw [Ir];by_cases e:c=a/2
  ·subst e;rw [bG,bG]
  ·rw [bt _ _ e,bt _ _ fun e'=>e (y71 e')];exact h.st c
 ·show aM S.ae (bU x a) true (bU x b)=aM S'.ae a true b;by_cases e:b=a
  ·subst e;rw [bG,bG]
  ·rw [bt _ _ e,bt _ _ fun e'=>e (you e')];exact h.ae b
 ·show aM S.st (bU x a/2) v x=5\/aM S.st (bU x a/2) v x=2\/aM S.st (bU x a/2) v x=4;rw [bt _ _ (Ne.symm (x8 x a))];exact h.x
theorem Rl.sc {e:Nat} {S' S:WS} (h:Rl x e S' S) (u v:Int):Rl x e (S'.sc u v) (S.sc u v):=
 ⟨h.st,h.ae,by show S'.i+u=S.i+u;rw [h.i],by show S'.j+v=S.j+v;rw [h.j],h.k,h.x⟩
theorem Rl.cr {e:Nat} {S' S:WS} (h:Rl x e S' S):Rl x e S'.cr S.cr:=⟨h.st,h.ae,h.i,h.j,by show S'.k+1=S.k+1+e;rw [h.k];omega,h.x⟩
theorem U1 (C:Hw D D' x) {e:Nat} {S' S:WS} (h:Rl x e S' S) {a:Nat} (ha:a<2*D'.n):
  BR (fun S1 b zM b'=> ∃o,o<2*D'.n/\b'=D'.nx o/\b=D.nx (bU x o)/\Rl x e zM S1) (br D S (bU x a)) (br D' S' a):=by
 have aR:S.st (bU x a/2)=S'.st (a/2):=by rw [Ir];exact h.st _
 have bZ:bU x a<2*D.n:=by rw [C.n];exact D7 ha
 have mC:dO D (S'.st (a/2)) (bU x a/2)=dO D' (S'.st (a/2)) (a/2):=by
  unfold dO;rw [Ir,←C.sg _ (by omega)]
 unfold br;rw [aR,Qq,if_neg (show¬2*D.n<=bU x a by omega),if_neg (show¬2*D'.n<=a by omega),Zr,mC]
 split
 ·exact .cons ⟨co a,ee ha,rfl,rfl,h.mark e a 4⟩ .nil
 split
 ·exact .cons ⟨a,ha,rfl,rfl,h.mark e a 4⟩ .nil
 split
 ·exact .cons ⟨co a,ee ha,rfl,rfl,h.mark e a 2⟩ .nil
 split
 ·exact .cons ⟨a,ha,rfl,rfl,h.mark e a 3⟩ .nil
 split
 ·exact .cons ⟨a,ha,rfl,rfl,(h.mark e a 3).sc _ _⟩ (.cons ⟨co a,ee ha,rfl,rfl,(h.mark e a 2).sc _ _⟩ .nil)
 ·exact .nil
theorem G4 (hD:Ok D) (nW:Ok D') (C:Hw D D' x) {e p:Nat} (V:Nat->Bool) {k' k:WS->Int} (hk: ∀S' S,Rl x e S' S->(∀z,Zx D x z->S.ae z=false)->Bd D S->(∀a,V a=true->S'.ae a=true)->k' S'=k S):
  ∀(n:Nat) (S' S:WS) (a:Nat),fu D' S'<=n->a<2*D'.n->Rl x e S' S->(∀z,Zx D x z->S.ae z=false)->qa D S (bU x p) (bU x a)->(∀a,V a=true->S'.ae a=true)->W D (dT (bU x p)) S (bU x a) (fun S _=>k S)=W D' (dT p) S' a fun S _=>k' S:=fun n=>by
 have step: ∀(S' S:WS) (a:Nat) (F' F:WS->Nat->Int),a<2*D'.n->Rl x e S' S->(∀z,Zx D x z->S.ae z=false)->(∀y∈br D S (bU x a),qa D y.2.1 (bU x p) y.2.2)->(∀y∈br D' S' a,∀S2,Rl x e y.2.1 S2->(∀z,Zx D x z->S2.ae z=false)->qa D S2 (bU x p) (bU x y.2.2)->y.2.2<2*D'.n->W D (dT (bU x p)) S2 (bU x y.2.2) (fun S _=>k S)=F' y.2.1 y.2.2)->
   (sumB (br D S (bU x a)) fun S1 b=>W D (dT (bU x p)) S1 b fun S _=>k S)=sumB (br D' S' a) F':=fun S' S a F' F ha hR hZ hM hF=>by
  have h1:=(U1 C hR ha).and (J:=fun S b S' b'=>qa D S (bU x p) b/\(∀z,Zx D x z->S.ae z=false)) fun y hy _ _=>⟨hM y hy,fun z hz=>by
   rw [(vr hy).2,bt _ _ fun e=>?_]
   ·exact hZ z hz
   ·have:z/2=x:=by rcases hz with h|h|h<;>omega
    rw [e] at this;exact x8 x a this⟩
  have key: ∀{l l':List (Int×WS×Nat)},BR (fun S1 b zM b'=>(∃o,o<2*D'.n/\b'=D'.nx o/\b=D.nx (bU x o)/\Rl x e zM S1)/\qa D S1 (bU x p) b/\(∀z,Zx D x z->S1.ae z=false)) l l'->(∀y∈l',∀S2,Rl x e y.2.1 S2->(∀z,Zx D x z->S2.ae z=false)->qa D S2 (bU x p) (bU x y.2.2)->y.2.2<2*D'.n->W D (dT (bU x p)) S2 (bU x y.2.2) (fun S _=>k S)=F' y.2.1 y.2.2)->(sumB l fun S1 b=>W D (dT (bU x p)) S1 b fun S _=>k S)=sumB l' F':=fun {l l'} hb=>by
   induction hb with
   |nil=>intro _;rfl
   | @cons c S1 b zM b' l l' hr _ ih=>
     intro hF;obtain ⟨⟨o,ho,e1,e2,u4⟩,zA,ON⟩:=hr;subst e1 e2;have yu:bU x o<2*D.n:=by rw [C.n];exact D7 ho
     obtain ⟨S2,k1,k2,k3,k4,k5,k6,k7,k8,k9⟩:=RE hD C.hx (x8 x p) (k:=fun S _=>k S) (C.nx o ho) zA u4.x ON (U2 hD C.hx yu (x8 x o));have OS:Rl x e zM S2:=⟨fun c=>by rw [k3 _ (KH x c)];exact u4.st c,fun a=>by rw [k4 _ (x8 x a)];exact u4.ae a,by rw [k5];exact u4.i,by rw [k6];exact u4.j,by rw [k7];exact u4.k,k8⟩;simp only [sumB]
     rw [k1,hF _ (.head _) S2 OS k9 k2 (nW.lt _ ho),ih fun y hy=>hF y (.tail _ hy)]
  exact key h1 hF
 induction n with
 |zero=>
  intro S' S a hn ha hR hZ hM hV;cases hs:dT p a with
  |true=>
   have e:a=p:=by simpa [dT] using hs
   subst e;rw [iG (js _),iG (js _),hk S' S hR hZ hM.close hV]
  |false=>
   have iR:a≠p:=fun e=>by rw [e,js] at hs;cases hs
   have ta:bU x a≠bU x p:=fun e=>iR (you e);cases hv:S'.ae a with
   |true=>rw [vh hs hv,vh (tM ta) (by rw [hR.ae];exact hv)]
   |false=>
    rw [gQ hs hv,gQ (tM ta) (by rw [hR.ae];exact hv)];refine step S' S a _ (fun S1 b=>0) ha hR hZ (fun y hy=>hM.step hD ta hy) fun y hy=>?_
    have:=yK hy hv
    omega
 |succ n ih=>
  intro S' S a hn ha hR hZ hM hV;cases hs:dT p a with
  |true=>
   have e:a=p:=by simpa [dT] using hs
   subst e;rw [iG (js _),iG (js _),hk S' S hR hZ hM.close hV]
  |false=>
   have iR:a≠p:=fun e=>by rw [e,js] at hs;cases hs
   have ta:bU x a≠bU x p:=fun e=>iR (you e);cases hv:S'.ae a with
   |true=>rw [vh hs hv,vh (tM ta) (by rw [hR.ae];exact hv)]
   |false=>
    rw [gQ hs hv,gQ (tM ta) (by rw [hR.ae];exact hv)];refine step S' S a _ (fun S1 b=>0) ha hR hZ (fun y hy=>hM.step hD ta hy) fun y hy S2 h1 h2 h3 h4=>?_
    have:=yK hy hv
    refine ih _ _ _ (by omega) h4 h1 h2 h3 fun b hb=>?_;rw [(vr hy).2];unfold aM
    split
    ·rfl
    ·exact hV b hb
end
end Hs
end Go.Proofs.YtjpbeacamoijhaaGreatDoor
