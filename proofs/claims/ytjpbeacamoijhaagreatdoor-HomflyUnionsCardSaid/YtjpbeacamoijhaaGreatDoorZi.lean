/- Plain: the shadow of a diagram; its circles where all crossings are smoothed. -/
import Derived.Test.YtjpbeacamoijhaaGreatDoorZg
import Derived.Test.YtjpbeacamoijhaaGreatDoorZh
import Derived.Test.YtjpbeacamoijhaaGreatDoorSq
namespace Go.Proofs.YtjpbeacamoijhaaGreatDoor
set_option linter.unusedSimpArgs false
set_option linter.unusedVariables false
namespace Hs
open Sp (fq bt aw itn SC aW)
def aM (h:Nat):Nat:=2*(h/4)+h % 2
def oG (sg:Nat->Int) (a:Nat):Nat:=if a % 2=0 then 4*(a/2)+2 else if sg (a/2)=1 then 4*(a/2)+1 else 4*(a/2)+3
def ak (s m:List Int):Sh:=⟨s.length,fun a=>aM (aW m (oG (fun c=>s.getD c 0) a)),fun c=>s.getD c 0⟩
section
variable {s m:List Int} {L:Int}
theorem WQ (hs:ta s s.length) {c:Nat} (hc:c<s.length):aj s ((cB (ak s m) (2*c):Nat):Int)=false/\aj s ((cB (ak s m) (2*c+1):Nat):Int)=false/\aj s ((aH (ak s m) (2*c):Nat):Int)=true/\aj s ((aH (ak s m) (2*c+1):Nat):Int)=true:=by
 obtain ⟨a0,a1,a2,a3⟩:=WR s c;rw [tj,vn,eH,oP];show _/\aj s ((if s.getD c 0=1 then 4*c+3 else 4*c+1:Nat):Int)=false/\_/\aj s ((if s.getD c 0=1 then 4*c+1 else 4*c+3:Nat):Int)=true;refine ⟨a0,?_,a2,?_⟩
 ·rcases hs c hc with h|h
  ·rw [zzJ h,a3,h];rfl
  ·rw [zzI (by omega),a1,h];rfl
 ·rcases hs c hc with h|h
  ·rw [zzJ h,a1,h];rfl
  ·rw [zzI (by omega),a3,h];rfl
theorem yW (hs:ta s s.length) {a:Nat} (ha:a<2*s.length):aj s ((cB (ak s m) a:Nat):Int)=false/\aj s ((aH (ak s m) a:Nat):Int)=true:=by
 have h:=WQ (m:=m) hs (c:=a/2) (by omega);have e:a=2*(a/2)\/a=2*(a/2)+1:=by omega
 rcases e with e|e
 ·rw [e];exact ⟨h.1,h.2.2.1⟩
 ·rw [e];exact ⟨h.2.1,h.2.2.2⟩
theorem zG (a:Nat):aM (cB (ak s m) a)=a:=by
 unfold aM cB;split<;>try omega
 split<;>omega
theorem D7 (a:Nat):aM (aH (ak s m) a)=a:=by
 unfold aM aH;split<;>try omega
 split<;>omega
theorem wP (hs:ta s s.length) {h:Nat} (hh:h<4*s.length):(aj s (h:Int)=false->h=cB (ak s m) (aM h))/\(aj s (h:Int)=true->h=aH (ak s m) (aM h)):=by
 have hc:h/4<s.length:=by omega
 obtain ⟨b1,b2,b3,b4⟩:=WQ (m:=m) hs hc;have e:h=4*(h/4)\/h=4*(h/4)+1\/h=4*(h/4)+2\/h=4*(h/4)+3:=by omega
 obtain ⟨a0,a1,a2,a3⟩:=WR s (h/4);generalize h/4=c at*;have i1:=vn (D:=ak s m) c;have o1:=oP (D:=ak s m) c;have oe:(ak s m).sg c=s.getD c 0:=rfl;rw [oe] at i1 o1;rcases e with e|e|e|e<;>subst e
 ·rw [show aM (4*c)=2*c by unfold aM;omega,tj,eH];exact ⟨fun _=>rfl,fun h=>(by rw [a0] at h;cases h)⟩
 ·rw [show aM (4*c+1)=2*c+1 by unfold aM;omega,i1,o1,a1];rcases hs c hc with h|h
  ·rw [zzJ h,zzJ h,h];exact ⟨fun h=>(by cases h),fun _=>rfl⟩
  ·rw [zzI (by omega),zzI (by omega),h];exact ⟨fun _=>rfl,fun h=>(by cases h)⟩
 ·rw [show aM (4*c+2)=2*c by unfold aM;omega,tj,eH];exact ⟨fun h=>(by rw [a2] at h;cases h),fun _=>rfl⟩
 ·rw [show aM (4*c+3)=2*c+1 by unfold aM;omega,i1,o1,a3];rcases hs c hc with h|h
  ·rw [zzJ h,zzJ h,h];exact ⟨fun _=>rfl,fun h=>(by cases h)⟩
  ·rw [zzI (by omega),zzI (by omega),h];exact ⟨fun h=>(by cases h),fun _=>rfl⟩
theorem uq (v:iV s m L) {h:Nat} (hh:h<4*s.length):aW m h<4*s.length/\((aW m h:Nat):Int)=m.getD h 0/\aj s ((aW m h:Nat):Int)= !aj s (h:Int):=by
 obtain ⟨h1,h2,h3,h4,h5⟩:=v.mt h hh;have e:((aW m h:Nat):Int)=m.getD h 0:=by unfold aW;omega
 refine ⟨by omega,e,?_⟩;rw [e];revert h5;cases aj s (h:Int)<;>cases aj s (m.getD h 0)<;>simp
theorem u5 (v:iV s m L) {a:Nat} (ha:a<2*s.length):aW m (aH (ak s m) a)=cB (ak s m) ((ak s m).nx a):=by
 have hl:=qk (D:=ak s m) ha;obtain ⟨h1,h2,h3⟩:=uq v hl;rw [(yW v.sg ha).2] at h3;exact (wP v.sg h1).1 h3
theorem nO (v:iV s m L):Ok (ak s m):=by
 refine ⟨fun a ha=>?_,fun a b ha hb e=>?_,fun c hc=>v.sg c hc⟩
 ·have hl:=qk (D:=ak s m) ha
  have:=(uq v hl).1
  show aM (aW m (aH (ak s m) a))<2*s.length;unfold aM;omega
 ·have h1:=u5 v ha;have h2:=u5 v hb;rw [e,<-h2] at h1;have la:=qk (D:=ak s m) ha;have lb:=qk (D:=ak s m) hb;have k1:=v.mt _ la;have k2:=v.mt _ lb;have e1:=(uq v la).2.1;have e2:=(uq v lb).2.1
  have:((aH (ak s m) a:Nat):Int)=(aH (ak s m) b:Nat):=by rw [<-k1.2.2.2.1,<-k2.2.2.2.1,<-e1,<-e2,h1]
  rw [<-D7 (s:=s) (m:=m) a,<-D7 (s:=s) (m:=m) b];congr 1;omega
theorem AY (hv:bf s m L=true):tU (ak s m) (aW m):=by
 have v:=bV hv;obtain ⟨hd,iw⟩:=Sp.nG hv;exact ⟨hd.te.1 iw,fun a ha=>u5 v ha⟩
def Z0 (st:Nat->Nat) (k:Nat):WS:=⟨st,fun _=>false,0,0,k⟩
theorem vM (D:Sh) {st:Nat->Nat} (h: ∀c,st c<=1\/st c=5) (k:Nat):Bd D (Z0 st k):=fun a ha=>by
 unfold Fit;exact (aP.i0 (h _)).2 ⟨rfl,fun h=>(by cases h)⟩
theorem wI (D:Sh) (st:Nat->Nat) (k:Nat):jt D (List.range (2*D.n)) (Z0 st k):=⟨fun a ha=>List.mem_range.1 ha,fun a ha _=>List.mem_range.2 ha⟩
theorem Mk {D:Sh} (hD:Ok D) (X:Int->Int->Nat->Int): ∀(B:List Nat) (S:WS),Bd D S->jt D B S->(∀c,S.st c=5\/S.st c=2\/S.st c=4)->
  ∃T:List Nat,(∀t∈T,t<2*D.n/\S.ae t=false)/\T.Pairwise (fun t t'=> ¬SC (dU D fun _=>true) t t')/\(∀a,a<2*D.n->S.ae a=false-> ∃t∈T,SC (dU D fun _=>true) t a)/\run X D B S=X S.i S.j (S.k+T.length)
 |[],S,hB,hC,hs=>⟨[],by simp, .nil,fun a ha hv=>(by have:=hC.all a ha hv;cases this),rfl⟩
 |a::B,S,hB,hC,hs=>by
  cases hv:S.ae a with
  |true=>
   obtain ⟨T,h1,h2,h3,h4⟩:=Mk hD X B S hB ⟨fun b hb=>hC.lt b (.tail _ hb),fun b hb km=>(List.mem_cons.1 (hC.all b hb km)).resolve_left fun e=>by rw [e,hv] at km;cases km⟩ hs;refine ⟨T,h1,h2,h3,?_⟩;rw [<-h4];show (if S.ae a=true then _ else _)=_;rw [zzJ hv]
  |false=>
   have bH:=hC.lt a (.head _);obtain ⟨l,C,dM,zr,Qd⟩:=AH hD hB bH hv;have Kw: ∀b,b<2*D.n->S.ae b=false->aC S (b/2)=true:=fun b hb km=>by
    refine vO.2 ?_;have f:=hB b hb;unfold Fit at f;rcases hs (b/2) with h|h|h
    ·exact .inl h
    ·exact .inr h
    ·rw [h,aP.i4,km] at f;cases f.1
   have hp:=B3 hD (aC S);have same: ∀i,itn (dU D (aC S)) i a=itn (dU D fun _=>true) i a:=fun i=>by
    induction i with
    |zero=>rfl
    |succ i ih=>
     simp only [itn];rw [<-ih];have hk:=zr i
     have:aC S (itn (dU D (aC S)) i a/2)=true:=Kw _ (hp.bC bH i) (dM _ hk)
     generalize itn (dU D (aC S)) i a=b at*;unfold dU;rw [this]
   have hQ:QK D (au l) (aC S) (fun b=>co b % 2) S.st l S D.n:=QK.of hB C dM fun b _ _ _ h=>by have:=hs (b/2);omega
   have hO:pE (aC S) S.st l:=fun b hb aN=>by
    have hk:au l b=true:=ni.2 (aN.subset (by simp));rw [Kw b (C.zc hk) (dM b hk)] at hb;cases hb
   obtain ⟨t1,t2⟩:=wL (X:=X) hD hB C hQ (hO.ord C.ty) (fun b=>by show co (co b)% 2=_;rw [eY]) B;have bJ: ∀c,(TK (au l) (aC S) S).cr.st c=5\/(TK (au l) (aC S) S).cr.st c=2\/(TK (au l) (aC S) S).cr.st c=4:=fun c=>by
    have k1:au l (2*c)=true->aC S c=true:=fun h=>by
     have:=Kw _ (C.zc h) (dM _ h);rwa [show 2*c/2=c by omega] at this
    have k2:au l (2*c+1)=true->aC S c=true:=fun h=>by
     have:=Kw _ (C.zc h) (dM _ h);rwa [show (2*c+1)/2=c by omega] at this
    show (if au l (2*c)&&au l (2*c+1) then 4 else if au l (2*c) then (if S.ae (2*c+1) then 4 else if aC S c then 2 else 3) else if au l (2*c+1) then (if S.ae (2*c) then 4 else if aC S c then 2 else 3) else S.st c)=5\/(if au l (2*c)&&au l (2*c+1) then 4 else if au l (2*c) then (if S.ae (2*c+1) then 4 else if aC S c then 2 else 3) else if au l (2*c+1) then (if S.ae (2*c) then 4 else if aC S c then 2 else 3) else S.st c)=2\/(if au l (2*c)&&au l (2*c+1) then 4 else if au l (2*c) then (if S.ae (2*c+1) then 4 else if aC S c then 2 else 3) else if au l (2*c+1) then (if S.ae (2*c) then 4 else if aC S c then 2 else 3) else S.st c)=4
    cases e1:au l (2*c) with
    |true=>
     rw [k1 e1];cases au l (2*c+1)<;>cases S.ae (2*c+1)<;>simp
    |false=>
     cases e2:au l (2*c+1) with
     |true=>rw [k2 e2];cases S.ae (2*c)<;>simp
     |false=>simpa using hs c
   obtain ⟨T,h1,h2,h3,h4⟩:=Mk hD X B (TK (au l) (aC S) S).cr t2.cr (LN hC C.hd) bJ;have tv: ∀b,(TK (au l) (aC S) S).cr.ae b=(S.ae b||au l b):=fun _=>rfl;have inK: ∀b,SC (dU D fun _=>true) a b->au l b=true:=fun b ⟨i,hi⟩=>by rw [<-hi,<-same];exact zr i
   refine ⟨a::T,fun t ht=>?_,List.pairwise_cons.2 ⟨fun t ht jR=>?_,h2⟩,fun b hb km=>?_,?_⟩
   ·rcases List.mem_cons.1 ht with rfl|ht
    ·exact ⟨bH,hv⟩
    ·have:=h1 t ht
     rw [tv] at this
     exact ⟨this.1,by cases e:S.ae t with
      |false=>rfl
      |true=>rw [e] at this;cases this.2⟩
   ·have:=(h1 t ht).2
    rw [tv,inK t jR,Bool.or_true] at this;cases this
   ·cases hk:au l b with
    |true=>
     obtain ⟨i,hi⟩:=Qd b hk;exact ⟨a, .head _,i,by rw [hi,same]⟩
    |false=>
     obtain ⟨t,ht,h⟩:=h3 b hb (by rw [tv,km,hk];rfl);exact ⟨t, .tail _ ht,h⟩
   ·rw [t1,h4];show X S.i S.j (S.k+1+T.length)=X S.i S.j (S.k+(T.length+1));congr 1;omega
def l8 (s:List Int) (c:Nat):Bool:=s.getD c 0== -1
theorem IF (hs:ta s s.length) {a:Nat} (ha:a<2*s.length):aI (l8 s (a/2)) (cB (ak s m) a:Nat)=(aH (ak s m) (co a):Nat)/\aI (l8 s (a/2)) (aH (ak s m) a:Nat)=(cB (ak s m) (co a):Nat):=by
 have e:a=2*(a/2)\/a=2*(a/2)+1:=by omega
 have hc:a/2<s.length:=by omega
 generalize a/2=c at*;obtain ⟨j0,j1,j2,j3⟩:=jn4 (l8 s c) c;have i1:=vn (D:=ak s m) c;have o1:=oP (D:=ak s m) c;have oe:(ak s m).sg c=s.getD c 0:=rfl;rw [oe] at i1 o1;rcases e with e|e<;>subst e
 ·rw [zx,tj,eH,i1,o1,j0,j2];unfold l8;rcases hs c hc with h|h<;>rw [h]<;>exact ⟨rfl,rfl⟩
 ·rw [co1,tj,eH,i1,o1];unfold l8 at*;rcases hs c hc with h|h<;>rw [h] at j1 j3⊢
  ·exact ⟨j3,j1⟩
  ·exact ⟨j1,j3⟩
theorem Fe (D:Sh) (b:Nat):cB D b/4=b/2:=by
 unfold cB
 split
 ·omega
 ·split<;>omega
theorem MK (D:Sh) (b:Nat):aH D b/4=b/2:=by
 unfold aH
 split
 ·omega
 ·split<;>omega
theorem y47 (v:iV s m L) {a:Nat} (ha:a<2*s.length) {z:Int} (h:aX (fun x=>m.getD x.toNat 0) (fun x=>aI (l8 s (x/4).toNat) x) (cB (ak s m) a:Nat) z):
  ∃b,b<2*s.length/\((z=(cB (ak s m) b:Nat)/\SC (dU (ak s m) fun _=>true) a b)\/(z=(aH (ak s m) b:Nat)/\SC (dU (ak s m) fun _=>true) a ((ak s m).nx b))):=by
 have hD:=nO v;have hp:=B3 hD fun _=>true;have QX: ∀b,((cB (ak s m) b:Nat):Int)/4=(b/2:Nat):=fun b=>by have:=Fe (ak s m) b;omega
 have d4o: ∀b,((aH (ak s m) b:Nat):Int)/4=(b/2:Nat):=fun b=>by have:=MK (ak s m) b;omega
 induction h with
 |refl=>exact ⟨a,ha, .inl ⟨rfl, .refl _ _⟩⟩
 |mate _ ih=>
  obtain ⟨b,hb,⟨e,h⟩|⟨e,h⟩⟩:=ih
  ·obtain ⟨p,og,Ev⟩:=JA hD hb;refine ⟨p,og, .inr ⟨?_,by rw [Ev];exact h⟩⟩;rw [e];show m.getD (Int.toNat ((cB (ak s m) b:Nat):Int)) 0=_;rw [zzC,<-Ev,<-u5 v og];have lo:=qk (D:=ak s m) og;have k:=v.mt _ lo;have e1:=(uq v lo).2.1;rw [<-k.2.2.2.1,<-e1,zzC]
  ·refine ⟨(ak s m).nx b,hD.lt _ hb, .inl ⟨?_,h⟩⟩;rw [e];show m.getD (Int.toNat ((aH (ak s m) b:Nat):Int)) 0=_;rw [zzC,<-u5 v hb,(uq v (qk (D:=ak s m) hb)).2.1]
 |join _ ih=>
  obtain ⟨b,hb,⟨e,h⟩|⟨e,h⟩⟩:=ih
  ·refine ⟨co b,fj hb, .inr ⟨?_,h.trans ⟨1,rfl⟩⟩⟩;rw [e];show aI (l8 s (((cB (ak s m) b:Nat):Int)/4).toNat) _=_;rw [QX,zzC];exact (IF v.sg hb).1
  ·refine ⟨co b,fj hb, .inl ⟨?_,?_⟩⟩
   ·rw [e];show aI (l8 s (((aH (ak s m) b:Nat):Int)/4).toNat) _=_;rw [d4o,zzC];exact (IF v.sg hb).2
   ·have:SC (dU (ak s m) fun _=>true) (co b) ((ak s m).nx b):=⟨1,by show (ak s m).nx (co (co b))=_;rw [eY]⟩
    exact h.trans (this.symm hp (fj hb))
theorem y48 (v:iV s m L) {a:Nat} (ha:a<2*s.length) {b:Nat} (h:SC (dU (ak s m) fun _=>true) a b):aX (fun x=>m.getD x.toNat 0) (fun x=>aI (l8 s (x/4).toNat) x) (cB (ak s m) a:Nat) (cB (ak s m) b:Nat):=by
 have hD:=nO v;have hp:=B3 hD fun _=>true;obtain ⟨i,rfl⟩:=h
 induction i with
 |zero=>exact .refl _
 |succ i ih=>
  have hb:=hp.bC ha i;simp only [itn];generalize itn (dU (ak s m) fun _=>true) i a=b at*;have h1:=ih.join.mate;have QX:((cB (ak s m) b:Nat):Int)/4=(b/2:Nat):=by have:=Fe (ak s m) b;omega
  have e:(fun x:Int=>m.getD x.toNat 0) ((fun x:Int=>aI (l8 s (x/4).toNat) x) (cB (ak s m) b:Nat))=(cB (ak s m) (dU (ak s m) (fun _=>true) b):Nat):=by
   show m.getD (Int.toNat (aI (l8 s (((cB (ak s m) b:Nat):Int)/4).toNat) _)) 0=_;rw [QX,zzC,(IF v.sg hb).1,zzC,<-(uq v (qk (D:=ak s m) (fj hb))).2.1,u5 v (fj hb)];rfl
  rw [<-e];exact h1
theorem F5 (hv:bf s m L=true) (X:Int->Int->Nat->Int) (k:Nat) {B:List Nat} (hC:jt (ak s m) B (Z0 (fun _=>5) k)):run X (ak s m) B (Z0 (fun _=>5) k)=X 0 0 (k+qe m s.length (l8 s)):=by
 have v:=bV hv;have hD:=nO v;have hp:=pX hv;obtain ⟨T,h1,h2,h3,h4⟩:=Mk hD X B (Z0 (fun _=>5) k) (vM _ (fun _=> .inr rfl) k) hC (fun _=> .inl rfl);rw [h4];have hR:=EP hp.ok hp.inv hp.ne (ch:=l8 s)
 have:roots (mI m (l8 s) s.length)=(T.map fun t=>cB (ak s m) t).length:=by
  refine U3 hR.rep (fun x hx=>?_) ?_ (fun x hx=>?_)
  ·obtain ⟨t,ht,rfl⟩:=List.mem_map.1 hx;exact BP (D:=ak s m) (h1 t ht).1
  ·rw [List.pairwise_map];refine h2.imp_of_mem fun {a b} ha hb hn e=>hn ?_;have la:=(h1 a ha).1;have lb:=(h1 b hb).1;obtain ⟨c,hc,⟨e1,e2⟩|⟨e1,e2⟩⟩:=y47 v la ((hR.iff _ _ (BP (D:=ak s m) la) (BP (D:=ak s m) lb)).1 e)
   ·have:b=c:=by
     rw [<-zG (s:=s) (m:=m) b,<-zG (s:=s) (m:=m) c];congr 1;omega
    rw [this];exact e2
   ·have k1:=(yW (m:=m) v.sg lb).1;rw [e1,(yW (m:=m) v.sg hc).2] at k1;cases k1
  ·have key: ∀a,a<2*s.length-> ∃y∈T.map fun t=>cB (ak s m) t,(mI m (l8 s) s.length).getD (cB (ak s m) a) 0=(mI m (l8 s) s.length).getD y 0:=fun a ha=>by
    obtain ⟨t,ht,jR⟩:=h3 a ha rfl;have lt:=(h1 t ht).1;exact ⟨_,List.mem_map.2 ⟨t,ht,rfl⟩,((hR.iff _ _ (BP (D:=ak s m) lt) (BP (D:=ak s m) ha)).2 (y48 v lt jR)).symm⟩
   cases ho:aj s (x:Int) with
   |false=>
    have e:=(wP (m:=m) v.sg hx).1 ho;rw [e];exact key _ (by unfold aM;omega)
   |true=>
    have e:=(wP (m:=m) v.sg hx).2 ho;have bF:aM x<2*s.length:=by unfold aM;omega
    obtain ⟨y,hy,e2⟩:=key _ (hD.lt _ bF);refine ⟨y,hy,?_⟩;rw [<-e2];refine (hR.iff _ _ hx (BP (D:=ak s m) (hD.lt _ bF))).2 ?_
    have:=aX.mate (aX.refl (mt:=fun x:Int=>m.getD x.toNat 0) (jn:=fun x:Int=>aI (l8 s (x/4).toNat) x) (x:Int))
    rw [<-u5 v bF,<-e,(uq v hx).2.1];exact this
 show X 0 0 (k+T.length)=X 0 0 (k+roots (mI m (l8 s) s.length));rw [this,List.length_map]
end
end Hs
namespace Hs
open Sp (fq bt aw itn SC aW)
def cn (x a:Nat):Nat:=if a/2<x then a else a+2
def sS (x c:Nat):Nat:=if c<x then c else c+1
theorem Jv (x a:Nat):cn x a/2=sS x (a/2):=by unfold cn sS;split<;>omega
theorem R6 (x a:Nat):cn x a % 2=a % 2:=by unfold cn;split<;>omega
theorem yR (x a:Nat):cn x a/2≠x:=by unfold cn;split<;>omega
theorem LH (x c:Nat):sS x c≠x:=by unfold sS;split<;>omega
theorem OD (x a:Nat):co (cn x a)=cn x (co a):=by
 have:=dJ a
 unfold cn;rw [this];by_cases h:a/2<x
 ·rw [zzJ h,zzJ h]
 ·rw [zzI h,zzI h];unfold co;by_cases h2:a % 2=0
  ·rw [zzJ h2,zzJ (by omega)]
  ·rw [zzI h2,zzI (by omega)];omega
theorem Mj {x a b:Nat} (h:cn x a=cn x b):a=b:=by unfold cn at h;split at h<;>split at h<;>omega
theorem y8m {x a b:Nat} (h:sS x a=sS x b):a=b:=by unfold sS at h;split at h<;>split at h<;>omega
theorem To {x b:Nat} (h:b/2≠x): ∃a,cn x a=b:=by
 by_cases h1:b/2<x
 ·exact ⟨b,zzJ h1⟩
 ·exact ⟨b-2,by unfold cn;rw [zzI (by omega)];omega⟩
theorem EU {x a n:Nat} (h:a<2*n):cn x a<2*(n+1):=by unfold cn;split<;>omega
theorem R5 {x a n:Nat} (hx:x<n+1) (h:cn x a<2*(n+1)):a<2*n:=by unfold cn at h;split at h<;>omega
inductive EM (D:Sh) (x:Nat):Nat->Nat->Prop
 |stop {w:Nat} (h:w/2≠x):EM D x w w
 |go {w w':Nat} (h:w/2=x) (k:EM D x (D.nx (co w)) w'):EM D x w w'
structure IA (D D':Sh) (x:Nat):Prop where
 hx:x<D.n
 n:D.n=D'.n+1
 sg: ∀c,c<D'.n->D'.sg c=D.sg (sS x c)
 nx: ∀a,a<2*D'.n->EM D x (D.nx (cn x a)) (cn x (D'.nx a))
structure Rl (x e:Nat) (S' S:WS):Prop where
 st: ∀c,S.st (sS x c)=S'.st c
 ae: ∀a,S.ae (cn x a)=S'.ae a
 i:S'.i=S.i
 j:S'.j=S.j
 k:S'.k=S.k+e
 x:S.st x=5\/S.st x=2\/S.st x=4
def Zx (D:Sh) (x w:Nat):Prop:=(w=2*x/\D.nx (2*x+1)=2*x)\/(w=2*x+1/\D.nx (2*x)=2*x+1)\/(w/2=x/\D.nx (2*x+1)=2*x+1/\D.nx (2*x)=2*x)
def wC (D:Sh) (x:Nat):Nat:=(if D.nx (2*x+1)=2*x then 1 else 0)+(if D.nx (2*x)=2*x+1 then 1 else 0)+(if D.nx (2*x+1)=2*x+1/\D.nx (2*x)=2*x then 1 else 0)
section
variable {D D':Sh} {x:Nat}
theorem y8n (hD:Ok D) (hx:x<D.n) {w:Nat} (hw:w/2=x) (h:Zx D x (D.nx (co w))):Zx D x w:=by
 have e:w=2*x\/w=2*x+1:=by omega
 have inj:D.nx (2*x+1)≠D.nx (2*x):=fun e=>by have:=hD.inj _ _ (by omega) (by omega) e;omega
 rcases e with e|e<;>subst e
 ·rw [zx] at h;rcases h with ⟨h1,h2⟩|⟨h1,h2⟩|⟨_,h2,h3⟩
  ·exact .inl ⟨rfl,h2⟩
  ·exact absurd (h1.trans h2.symm) inj
  ·exact .inr (.inr ⟨hw,h2,h3⟩)
 ·rw [co1] at h;rcases h with ⟨h1,h2⟩|⟨h1,h2⟩|⟨_,h2,h3⟩
  ·exact absurd (h2.trans h1.symm) inj
  ·exact .inr (.inl ⟨rfl,h2⟩)
  ·exact .inr (.inr ⟨hw,h2,h3⟩)
theorem WO (hD:Ok D) (hx:x<D.n) {z:Nat} (hz:z<2*D.n) (KC:z/2≠x): ¬Zx D x (D.nx z):=by
 have key: ∀y,y/2=x->D.nx z≠D.nx y:=fun y hy e=>KC (by rw [hD.inj _ _ hz (by omega) e];exact hy);rintro (⟨h1,h2⟩|⟨h1,h2⟩|⟨h1,h2,h3⟩)
 ·exact key (2*x+1) (by omega) (h1.trans h2.symm)
 ·exact key (2*x) (by omega) (h1.trans h2.symm)
 ·have e:D.nx z=2*x\/D.nx z=2*x+1:=by omega
  rcases e with e|e
  ·exact key (2*x) (by omega) (e.trans h3.symm)
  ·exact key (2*x+1) (by omega) (e.trans h2.symm)
theorem Tn (hD:Ok D) (hx:x<D.n) {p:Nat} (hp:p/2≠x) {k:WS->Nat->Int} {w w':Nat} (hF:EM D x w w'): ∀{S:WS},qE D S p w->(S.st x=5\/S.st x=2\/S.st x=4)->(∀z,Zx D x z->S.ae z=false)-> ¬Zx D x w->
  ∃S1,W D (b9 p) S w k=W D (b9 p) S1 w' k/\qE D S1 p w'/\(∀c,c≠x->S1.st c=S.st c)/\(∀a,a/2≠x->S1.ae a=S.ae a)/\S1.i=S.i/\S1.j=S.j/\S1.k=S.k/\(S1.st x=5\/S1.st x=2\/S1.st x=4)/\(∀z,Zx D x z->S1.ae z=false):=by
 induction hF with
 |stop h=>intro S hM hs hZ hw;exact ⟨S,rfl,hM,fun _ _=>rfl,fun _ _=>rfl,rfl,rfl,rfl,hs,hZ⟩
 | @go w w' h _ ih=>
   intro S hM hs hZ hw;have Pp:w≠p:=fun e=>hp (e▸h);have hv:S.ae w=false:=hM.vq.resolve_left Pp;have hl:=hM.lq;have f:=hM.inv w hl;unfold Fit at f;rw [h] at f;have hb: ∃v,(v=2\/v=4)/\br D S w=[(1,S.mk' w v,D.nx (co w))]:=by
    rcases hs with h5|h2|h4
    ·exact ⟨2, .inl rfl,tQ hl (by rw [h];exact h5)⟩
    ·exact ⟨4, .inr rfl,mV hl (by rw [h];exact h2)⟩
    ·rw [h4,aP.i4,hv] at f;cases f.1
   obtain ⟨v,hv2,hb⟩:=hb;have K3:=hM.step hD Pp (x:=(1,S.mk' w v,D.nx (co w))) (by rw [hb];exact .head _);obtain ⟨S1,k1,k2,k3,k4,k5,k6,k7,k8,k9⟩:=ih K3 (by rw [uZ h];omega) (fun z hz=>by
    have hzw:z≠w:=fun e=>hw (by rw [<-e];exact hz);exact (dZ S hzw).trans (hZ z hz)) fun hz=>hw (y8n hD hx h hz)
   refine ⟨S1,?_,k2,fun c hc=>?_,fun a ha=>?_,k5,k6,k7,k8,k9⟩
   ·rw [fA (oB Pp) hv,hb,sN,k1]
   ·rw [k3 c hc];exact bG _ _ (by rw [h];exact hc)
   ·rw [k4 a ha];exact dZ S fun e=>ha (by rw [e];exact h)
theorem Rl.mark (e:Nat) {S' S:WS} (h:Rl x e S' S) (a v:Nat):Rl x e (S'.mk' a v) (S.mk' (cn x a) v):=by
 refine ⟨fun c=>?_,fun b=>?_,h.i,h.j,h.k,?_⟩
 ·show aR S.st (cn x a/2) v (sS x c)=aR S'.st (a/2) v c;rw [Jv];by_cases e:c=a/2
  ·subst e;rw [bQ,bQ]
  ·rw [bG _ _ e,bG _ _ fun e'=>e (y8m e')];exact h.st c
 ·show aR S.ae (cn x a) true (cn x b)=aR S'.ae a true b;by_cases e:b=a
  ·subst e;rw [bQ,bQ]
  ·rw [bG _ _ e,bG _ _ fun e'=>e (Mj e')];exact h.ae b
 ·show aR S.st (cn x a/2) v x=5\/aR S.st (cn x a/2) v x=2\/aR S.st (cn x a/2) v x=4;rw [bG _ _ (Ne.symm (yR x a))];exact h.x
theorem Rl.sc {e:Nat} {S' S:WS} (h:Rl x e S' S) (u v:Int):Rl x e (S'.sc u v) (S.sc u v):=
 ⟨h.st,h.ae,by show S'.i+u=S.i+u;rw [h.i],by show S'.j+v=S.j+v;rw [h.j],h.k,h.x⟩
theorem Rl.cr {e:Nat} {S' S:WS} (h:Rl x e S' S):Rl x e S'.cr S.cr:=⟨h.st,h.ae,h.i,h.j,by show S'.k+1=S.k+1+e;rw [h.k];omega,h.x⟩
theorem WN (C:IA D D' x) {e:Nat} {S' S:WS} (h:Rl x e S' S) {a:Nat} (ha:a<2*D'.n):
  BR (fun S1 b tT b'=> ∃o,o<2*D'.n/\b'=D'.nx o/\b=D.nx (cn x o)/\Rl x e tT S1) (br D S (cn x a)) (br D' S' a):=by
 have aZ:S.st (cn x a/2)=S'.st (a/2):=by rw [Jv];exact h.st _
 have bH:cn x a<2*D.n:=by rw [C.n];exact EU ha
 have oe:dS D (S'.st (a/2)) (cn x a/2)=dS D' (S'.st (a/2)) (a/2):=by
  unfold dS;rw [Jv,<-C.sg _ (by omega)]
 unfold br;rw [aZ,R6,zzI (show¬2*D.n<=cn x a by omega),zzI (show¬2*D'.n<=a by omega),OD,oe]
 split
 ·exact .cons ⟨co a,fj ha,rfl,rfl,h.mark e a 4⟩ .nil
 split
 ·exact .cons ⟨a,ha,rfl,rfl,h.mark e a 4⟩ .nil
 split
 ·exact .cons ⟨co a,fj ha,rfl,rfl,h.mark e a 2⟩ .nil
 split
 ·exact .cons ⟨a,ha,rfl,rfl,h.mark e a 3⟩ .nil
 split
 ·exact .cons ⟨a,ha,rfl,rfl,(h.mark e a 3).sc _ _⟩ (.cons ⟨co a,fj ha,rfl,rfl,(h.mark e a 2).sc _ _⟩ .nil)
 ·exact .nil
theorem H5 (hD:Ok D) (wy:Ok D') (C:IA D D' x) {e p:Nat} (V:Nat->Bool) {k' k:WS->Int} (hk: ∀S' S,Rl x e S' S->(∀z,Zx D x z->S.ae z=false)->Bd D S->(∀a,V a=true->S'.ae a=true)->k' S'=k S):
  ∀(n:Nat) (S' S:WS) (a:Nat),fu D' S'<=n->a<2*D'.n->Rl x e S' S->(∀z,Zx D x z->S.ae z=false)->qE D S (cn x p) (cn x a)->(∀a,V a=true->S'.ae a=true)->W D (b9 (cn x p)) S (cn x a) (fun S _=>k S)=W D' (b9 p) S' a fun S _=>k' S:=fun n=>by
 have step: ∀(S' S:WS) (a:Nat) (F' F:WS->Nat->Int),a<2*D'.n->Rl x e S' S->(∀z,Zx D x z->S.ae z=false)->(∀y∈br D S (cn x a),qE D y.2.1 (cn x p) y.2.2)->(∀y∈br D' S' a,∀S2,Rl x e y.2.1 S2->(∀z,Zx D x z->S2.ae z=false)->qE D S2 (cn x p) (cn x y.2.2)->y.2.2<2*D'.n->W D (b9 (cn x p)) S2 (cn x y.2.2) (fun S _=>k S)=F' y.2.1 y.2.2)->
   (sumB (br D S (cn x a)) fun S1 b=>W D (b9 (cn x p)) S1 b fun S _=>k S)=sumB (br D' S' a) F':=fun S' S a F' F ha hR hZ hM hF=>by
  have h1:=(WN C hR ha).and (J:=fun S b S' b'=>qE D S (cn x p) b/\(∀z,Zx D x z->S.ae z=false)) fun y hy _ _=>⟨hM y hy,fun z hz=>by
   rw [(s8 hy).2,bG _ _ fun e=>?_]
   ·exact hZ z hz
   ·have:z/2=x:=by rcases hz with h|h|h<;>omega
    rw [e] at this;exact yR x a this⟩
  have key: ∀{l l':List (Int×WS×Nat)},BR (fun S1 b tT b'=>(∃o,o<2*D'.n/\b'=D'.nx o/\b=D.nx (cn x o)/\Rl x e tT S1)/\qE D S1 (cn x p) b/\(∀z,Zx D x z->S1.ae z=false)) l l'->(∀y∈l',∀S2,Rl x e y.2.1 S2->(∀z,Zx D x z->S2.ae z=false)->qE D S2 (cn x p) (cn x y.2.2)->y.2.2<2*D'.n->W D (b9 (cn x p)) S2 (cn x y.2.2) (fun S _=>k S)=F' y.2.1 y.2.2)->(sumB l fun S1 b=>W D (b9 (cn x p)) S1 b fun S _=>k S)=sumB l' F':=fun {l l'} hb=>by
   induction hb with
   |nil=>intro _;rfl
   | @cons c S1 b tT b' l l' hr _ ih=>
     intro hF;obtain ⟨⟨o,ho,e1,e2,vI⟩,zu,QB⟩:=hr;subst e1 e2;have zl:cn x o<2*D.n:=by rw [C.n];exact EU ho
     obtain ⟨S2,k1,k2,k3,k4,k5,k6,k7,k8,k9⟩:=Tn hD C.hx (yR x p) (k:=fun S _=>k S) (C.nx o ho) zu vI.x QB (WO hD C.hx zl (yR x o));have QF:Rl x e tT S2:=⟨fun c=>by rw [k3 _ (LH x c)];exact vI.st c,fun a=>by rw [k4 _ (yR x a)];exact vI.ae a,by rw [k5];exact vI.i,by rw [k6];exact vI.j,by rw [k7];exact vI.k,k8⟩;simp only [sumB]
     rw [k1,hF _ (.head _) S2 QF k9 k2 (wy.lt _ ho),ih fun y hy=>hF y (.tail _ hy)]
  exact key h1 hF
 induction n with
 |zero=>
  intro S' S a hn ha hR hZ hM hV;cases hs:b9 p a with
  |true=>
   have e:a=p:=by simpa [b9] using hs
   subst e;rw [iY (iX _),iY (iX _),hk S' S hR hZ hM.close hV]
  |false=>
   have ji:a≠p:=fun e=>by rw [e,iX] at hs;cases hs
   have tG:cn x a≠cn x p:=fun e=>ji (Mj e);cases hv:S'.ae a with
   |true=>rw [vS hs hv,vS (oB tG) (by rw [hR.ae];exact hv)]
   |false=>
    rw [fA hs hv,fA (oB tG) (by rw [hR.ae];exact hv)];refine step S' S a _ (fun S1 b=>0) ha hR hZ (fun y hy=>hM.step hD tG hy) fun y hy=>?_
    have:=zD hy hv
    omega
 |succ n ih=>
  intro S' S a hn ha hR hZ hM hV;cases hs:b9 p a with
  |true=>
   have e:a=p:=by simpa [b9] using hs
   subst e;rw [iY (iX _),iY (iX _),hk S' S hR hZ hM.close hV]
  |false=>
   have ji:a≠p:=fun e=>by rw [e,iX] at hs;cases hs
   have tG:cn x a≠cn x p:=fun e=>ji (Mj e);cases hv:S'.ae a with
   |true=>rw [vS hs hv,vS (oB tG) (by rw [hR.ae];exact hv)]
   |false=>
    rw [fA hs hv,fA (oB tG) (by rw [hR.ae];exact hv)];refine step S' S a _ (fun S1 b=>0) ha hR hZ (fun y hy=>hM.step hD tG hy) fun y hy S2 h1 h2 h3 h4=>?_
    have:=zD hy hv
    refine ih _ _ _ (by omega) h4 h1 h2 h3 fun b hb=>?_;rw [(s8 hy).2];unfold aR
    split
    ·rfl
    ·exact hV b hb
end
end Hs
namespace Hs
open Sp (fq bt aw itn SC aW)
section
variable {D D':Sh} {x:Nat}
theorem Ju {X:Int->Int->Nat->Int} {S S':WS} {a d:Nat} {B:List Nat} (hv:S.ae a=false) (hb:br D S.cr a=[(1,S',d)]) (h:W D (b9 a) S' d (fun S _=>run X D B S)=run X D B S'):run X D (a::B) S=run X D B S':=by
 show (if S.ae a=true then _ else aY D S.cr a (run X D B))=_;rw [zzI (by simp [hv])];unfold aY;rw [hb,sN,h]
theorem y49 {X:Int->Int->Nat->Int} {S S':WS} {a d:Nat} {B:List Nat} {z:Int} (hv:S.ae a=false) (hb:br D S.cr a=[(1,S',d)]) (h:W D (b9 a) S' d (fun S _=>run X D B S)=z):run X D (a::B) S=z:=by
 show (if S.ae a=true then _ else aY D S.cr a (run X D B))=_;rw [zzI (by simp [hv])];unfold aY;rw [hb,sN,h]
theorem B8 {X:Int->Int->Nat->Int} {S:WS} {a:Nat} {B:List Nat} (hv:S.ae a=true):run X D (a::B) S=run X D B S:=by
 show (if S.ae a=true then _ else _)=_;rw [zzJ hv]
theorem y5a (hD:Ok D) (hx:x<D.n) (X:Int->Int->Nat->Int) {S:WS} (hB:Bd D S) (hs:S.st x=5\/S.st x=2\/S.st x=4) (hZ: ∀z,Zx D x z->S.ae z=false) (hv: ∀a,a<2*D.n->a/2≠x->S.ae a=true):run X D [2*x,2*x+1] S=X S.i S.j (S.k+wC D x):=by
 have l0:2*x<2*D.n:=by omega
 have l1:2*x+1<2*D.n:=by omega
 have d0:2*x/2=x:=by omega
 have d1:(2*x+1)/2=x:=by omega
 have inj:D.nx (2*x+1)≠D.nx (2*x):=fun e=>by have:=hD.inj _ _ l1 l0 e;omega
 have f0:=hB _ l0;have f1:=hB _ l1;unfold Fit at f0 f1;rw [d0,zx] at f0;rw [d1,co1] at f1;have HO: ∀z,z<2*D.n->z/2≠x->S.ae (D.nx z)=true:=fun z hz KC=>by
  have v1:=hv z hz KC;have v2:=hv (co z) (fj hz) (by rw [dJ];exact KC);have f:=hB z hz;unfold Fit aP at f;rw [v1,v2] at f;rcases f with ⟨_,h,_⟩|⟨_,_,h⟩|⟨_,h,_⟩|⟨_,_,h⟩
  ·cases h
  ·exact h
  ·exact h.1 rfl
  ·cases h
 have both: ∀{q:Nat} {P:Prop},S.st x=q->(S.ae (2*x)=true↔P)->True:=fun _ _=>trivial;obtain ⟨z0,rC,e0⟩:=JA hD l0;obtain ⟨z1,p8,e1⟩:=JA hD l1;have Zg:z0/2=x->z0=2*x\/z0=2*x+1:=fun h=>by omega
 have Zf:z1/2=x->z1=2*x\/z1=2*x+1:=fun h=>by omega
 have two:S.ae (2*x)=false->S.ae (2*x+1)=false->S.st x=5:=fun a b=>by
  rw [a,b] at f0;unfold aP at f0;rcases f0 with ⟨_,_,_⟩|⟨_,h,_⟩|⟨_,_,h⟩|⟨_,_,h⟩
  ·omega
  ·cases h
  ·cases h
  ·cases h
 have one:S.ae (2*x)≠S.ae (2*x+1)->S.st x=2:=fun a=>by
  rcases hs with h|h|h
  ·rw [h,aP.i0 (.inr rfl)] at f0 f1;rw [f0.1,f1.1] at a;exact absurd rfl a
  ·exact h
  ·rw [h,aP.i4] at f0 f1;rw [f0.1,f1.1] at a;exact absurd rfl a
 by_cases hA:D.nx (2*x+1)=2*x
 ·have hC: ¬(D.nx (2*x+1)=2*x+1/\D.nx (2*x)=2*x):=fun h=>by omega
  have v0:S.ae (2*x)=false:=hZ _ (.inl ⟨rfl,hA⟩);by_cases wz:D.nx (2*x)=2*x+1
  ·have v1:S.ae (2*x+1)=false:=hZ _ (.inr (.inl ⟨rfl,wz⟩));have h5:=two v0 v1
   rw [Ju (S':=S.cr.mk' (2*x) 2) (d:=2*x) v0 (by rw [tQ l0 (by rw [d0];exact h5),zx,hA]) (iY (iX _)),
    Ju (S':=((S.cr.mk' (2*x) 2).cr).mk' (2*x+1) 4) (d:=2*x+1) (by rw [dZ _ (by omega)];exact v1) (by rw [mV l1 (by rw [d1];exact uZ d0),co1,wz]) (iY (iX _))]
   show X S.i S.j (S.k+1+1)=_;unfold wC;rw [zzJ hA,zzJ wz,zzI hC]
  ·have v1:S.ae (2*x+1)=true:=by
    by_cases h:z1/2=x
    ·rcases Zf h with h|h<;>rw [h] at e1
     ·exact absurd e1 wz
     ·omega
    ·rw [<-e1];exact HO z1 p8 h
   have h2:=one (by rw [v0,v1];decide);rw [Ju (S':=S.cr.mk' (2*x) 4) (d:=2*x) v0 (by rw [mV l0 (by rw [d0];exact h2),zx,hA]) (iY (iX _)),B8 (by rw [dZ _ (by omega)];exact v1)];show X S.i S.j (S.k+1)=_;unfold wC;rw [zzJ hA,zzI wz,zzI hC]
 ·by_cases wz:D.nx (2*x)=2*x+1
  ·have hC: ¬(D.nx (2*x+1)=2*x+1/\D.nx (2*x)=2*x):=fun h=>by omega
   have v1:S.ae (2*x+1)=false:=hZ _ (.inr (.inl ⟨rfl,wz⟩));have v0:S.ae (2*x)=true:=by
    by_cases h:z0/2=x
    ·rcases Zg h with h|h<;>rw [h] at e0
     ·omega
     ·exact absurd e0 hA
    ·rw [<-e0];exact HO z0 rC h
   have h2:=one (by rw [v0,v1];decide);rw [B8 v0,Ju (S':=S.cr.mk' (2*x+1) 4) (d:=2*x+1) v1 (by rw [mV l1 (by rw [d1];exact h2),co1,wz]) (iY (iX _))];show X S.i S.j (S.k+1)=_;unfold wC;rw [zzI hA,zzJ wz,zzI hC]
  ·by_cases hC:D.nx (2*x+1)=2*x+1/\D.nx (2*x)=2*x
   ·have v0:S.ae (2*x)=false:=hZ _ (.inr (.inr ⟨d0,hC.1,hC.2⟩));have v1:S.ae (2*x+1)=false:=hZ _ (.inr (.inr ⟨d1,hC.1,hC.2⟩));have h5:=two v0 v1;refine y49 (S':=S.cr.mk' (2*x) 2) (d:=2*x+1) v0 (by rw [tQ l0 (by rw [d0];exact h5),zx,hC.1]) ?_;have v1':(S.cr.mk' (2*x) 2).ae (2*x+1)=false:=by rw [dZ _ (by omega)];exact v1
    rw [fA (oB (by omega)) v1',mV l1 (by rw [d1];exact uZ d0),sN,co1,hC.2,iY (iX _),B8 (l9 _ _ _)];show X S.i S.j (S.k+1)=_;unfold wC;rw [zzI hA,zzI wz,zzJ hC]
   ·have v0:S.ae (2*x)=true/\S.ae (2*x+1)=true:=by
     have n0:z0/2=x->z0=2*x:=fun h=>(Zg h).resolve_right fun e=>by rw [e] at e0;exact hA e0
     have n1:z1/2=x->z1=2*x+1:=fun h=>(Zf h).resolve_left fun e=>by rw [e] at e1;exact wz e1
     have eqv:S.ae (2*x)=true\/S.ae (2*x+1)=true->D.nx (2*x)=2*x\/D.nx (2*x+1)=2*x+1->S.ae (2*x)=true/\S.ae (2*x+1)=true:=fun h h'=>by
      rcases hs with h5|h2|h4
      ·rw [h5,aP.i0 (.inr rfl)] at f0 f1;rcases h with h|h
       ·rw [f0.1] at h;cases h
       ·rw [f1.1] at h;cases h
      ·rw [h2,aP.i2] at f0 f1;rcases h' with h'|h'
       ·have:=f1.1
        rw [h'] at this;rcases h with h|h
        ·exact ⟨h,this.2 h⟩
        ·exact ⟨this.1 h,h⟩
       ·have:=f0.1
        rw [h'] at this;rcases h with h|h
        ·exact ⟨h,this.1 h⟩
        ·exact ⟨this.2 h,h⟩
      ·rw [h4,aP.i4] at f0 f1;exact ⟨f0.1,f1.1⟩
     by_cases h0:z0/2=x
     ·have k0:=n0 h0;rw [k0] at e0;by_cases h1:z1/2=x
      ·have k1:=n1 h1;rw [k1] at e1;exact absurd ⟨e1,e0⟩ hC
      ·exact eqv (.inr (by rw [<-e1];exact HO z1 p8 h1)) (.inl e0)
     ·have w0:S.ae (2*x)=true:=by rw [<-e0];exact HO z0 rC h0
      by_cases h1:z1/2=x
      ·have k1:=n1 h1;rw [k1] at e1;exact eqv (.inl w0) (.inr e1)
      ·exact ⟨w0,by rw [<-e1];exact HO z1 p8 h1⟩
    rw [B8 v0.1,B8 v0.2];show X S.i S.j S.k=_;unfold wC;rw [zzI hA,zzI wz,zzI hC];rfl
theorem Jt (hD:Ok D) (wy:Ok D') (C:IA D D' x) (X:Int->Int->Nat->Int): ∀(B:List Nat) (S' S:WS),Rl x (wC D x) S' S->(∀z,Zx D x z->S.ae z=false)->Bd D S->jt D' B S'->run X D' B S'=run X D (B.map (cn x)++[2*x,2*x+1]) S
 |[],S',S,hR,hZ,hB,hC=>by
  show X S'.i S'.j S'.k=run X D [2*x,2*x+1] S;rw [y5a hD C.hx X hB hR.x hZ fun a ha rG=>?_,hR.i,hR.j,hR.k];obtain ⟨b,rfl⟩:=To rG;rw [hR.ae];cases e:S'.ae b with
  |true=>rfl
  |false=>
   have:=hC.all b (R5 (x:=x) (by have:=C.hx;have:=C.n;omega) (by rw [<-C.n];exact ha)) e
   cases this
 |a::B,S',S,hR,hZ,hB,hC=>by
  have bH:=hC.lt a (.head _);cases hv:S'.ae a with
  |true=>
   have Y6:jt D' B S':=⟨fun b hb=>hC.lt b (.tail _ hb),fun b hb km=>(List.mem_cons.1 (hC.all b hb km)).resolve_left fun e=>by rw [e,hv] at km;cases km⟩;rw [B8 hv,Jt hD wy C X B S' S hR hZ hB Y6];exact (B8 (by rw [hR.ae];exact hv)).symm
  |false=>
   have Ya:S.ae (cn x a)=false:=by rw [hR.ae];exact hv
   show (if S'.ae a=true then _ else aY D' S'.cr a (run X D' B))=if S.ae (cn x a)=true then _ else aY D S.cr (cn x a) (run X D (B.map (cn x)++[2*x,2*x+1]));rw [zzI (by simp [hv]),zzI (by simp [Ya])];unfold aY;have Aw:=hR.cr;symm;have h1:=(WN C Aw bH).and (J:=fun S b S' b'=>qE D S (cn x a) b/\(∀z,Zx D x z->S.ae z=false)) fun y hy _ _=>⟨hB.cr.start hD Ya hy,fun z hz=>by
    rw [(s8 hy).2,bG _ _ fun e=>?_]
    ·exact hZ z hz
    ·have:z/2=x:=by rcases hz with h|h|h<;>omega
     rw [e] at this;exact yR x a this⟩
   have we: ∀y∈br D' S'.cr a,∀b,(fun b=>S'.ae b||b==a) b=true->y.2.1.ae b=true:=fun y hy b hb=>by
    rw [(s8 hy).2];unfold aR
    split
    ·rfl
    ·rename_i sG
     have nW:(S'.ae b||b==a)=true:=hb;simp [sG] at nW;exact nW
   revert we h1;generalize br D' S'.cr a=l';generalize br D S.cr (cn x a)=l;intro h1 we
   induction h1 with
   |nil=>rfl
   | @cons c S1 b tT b' l l' hr _ ih=>
     obtain ⟨⟨o,ho,e1,e2,vI⟩,zu,QB⟩:=hr;subst e1 e2;have zl:cn x o<2*D.n:=by rw [C.n];exact EU ho
     obtain ⟨S2,k1,k2,k3,k4,k5,k6,k7,k8,k9⟩:=Tn hD C.hx (yR x a) (k:=fun S _=>run X D (B.map (cn x)++[2*x,2*x+1]) S) (C.nx o ho) zu vI.x QB (WO hD C.hx zl (yR x o));have QF:Rl x (wC D x) tT S2:=⟨fun c=>by rw [k3 _ (LH x c)];exact vI.st c,fun a=>by rw [k4 _ (yR x a)];exact vI.ae a,by rw [k5];exact vI.i,by rw [k6];exact vI.j,by rw [k7];exact vI.k,k8⟩;simp only [sumB]
     rw [k1,H5 hD wy C (fun b=>S'.ae b||b==a) (k':=run X D' B) (fun T' T hT hTZ hTB YX=>?_) _ tT S2 _ (zzA _) (wy.lt _ ho) QF k9 k2 (we _ (.head _)),ih fun y hy=>we y (.tail _ hy)];refine Jt hD wy C X B T' T hT hTZ hTB ⟨fun b hb=>hC.lt b (.tail _ hb),fun b hb km=>?_⟩;refine (List.mem_cons.1 (hC.all b hb ?_)).resolve_left fun e=>?_
     ·cases e:S'.ae b with
      |false=>rfl
      |true=>rw [YX b (by show (S'.ae b||b==a)=true;rw [e];rfl)] at km;cases km
     ·rw [YX b (by show (S'.ae b||b==a)=true;rw [e];simp)] at km;cases km
end
end Hs
namespace Hs
open Sp (fq bt aw itn SC aW)
section
variable {s m:List Int} {L:Int} {c:Nat}
theorem R4 (v:iV s m L) (hc:c<s.length): ∀(f b0:Nat),b0<2*s.length-> ∃b1,b1<2*s.length/\dn m (l8 s c) c f (cB (ak s m) b0:Nat)=(cB (ak s m) b1:Nat)/\(b1/2≠c->EM (ak s m) c b0 b1)
 |0,b0,hb=>⟨b0,hb,rfl,fun h=> .stop h⟩
 |f+1,b0,hb=>by
  have hd:=Fe (ak s m) b0;by_cases h:b0/2=c
  ·have hx:((cB (ak s m) b0:Nat):Int)/4=(c:Int):=by omega
   rw [Fj hx]
   have:=(IF (m:=m) v.sg hb).1
   rw [h] at this;rw [this,zzC,<-(uq v (qk (D:=ak s m) (fj hb))).2.1,u5 v (fj hb)];obtain ⟨b1,h1,h2,h3⟩:=R4 v hc f _ ((nO v).lt _ (fj hb));exact ⟨b1,h1,h2,fun hn=> .go h (h3 hn)⟩
  ·have hx: ¬((cB (ak s m) b0:Nat):Int)/4=(c:Int):=by omega
   rw [BX hx];exact ⟨b0,hb,rfl,fun hn=> .stop hn⟩
theorem OC {c h b:Nat} (hb:b/2≠c) (h1:h/4=b/2) (h2:aM h=b):cn c (aM (if c<h/4 then h-4 else h))=b:=by
 unfold cn aM at*
 split<;>split<;>omega
theorem WM (hv:bf s m L=true) (hc:c<s.length) {L':Int} (cw:bf (dz s c) (fk s m c) L'=true):IA (ak s m) (ak (dz s c) (fk s m c)) c:=by
 have v:=bV hv;have v':=bV cw;obtain ⟨w1,w2⟩:=Sp.oH (s:=s) (c:=c) s.length;rw [zzJ hc] at w1 w2;have cP:(dz s c).length=s.length-1:=w1;obtain ⟨wl,wg⟩:=Sp.mn (E:=fv m (s.getD c 0== -1) c (4*s.length)) (c:=c) s.length;rw [zzJ hc] at wl wg;have oe: ∀i,i<(dz s c).length->(dz s c).getD i 0=s.getD (sS c i) 0:=fun i hi=>by
  unfold dz;rw [w2 i (by omega)];rfl
 refine ⟨hc,by show s.length=(dz s c).length+1;omega,oe,fun a ha=>?_⟩;have cG:a<2*(dz s c).length:=ha;have KQ:=qk (D:=ak (dz s c) (fk s m c)) ha;have PX:aH (ak (dz s c) (fk s m c)) a<4*(s.length-1):=by
  have:aH (ak (dz s c) (fk s m c)) a<4*(dz s c).length:=KQ
  omega
 obtain ⟨y,hy⟩: ∃y,y=aH (ak s m) (cn c a):=⟨_,rfl⟩;have mL:cn c a<2*s.length:=by have:=EU (x:=c) cG;omega
 have qx:y<4*s.length:=hy▸qk (D:=ak s m) mL;have e:y=if aH (ak (dz s c) (fk s m c)) a/4<c then aH (ak (dz s c) (fk s m c)) a else aH (ak (dz s c) (fk s m c)) a+4:=by
  rw [hy,MK];unfold aH;rw [R6,Jv];have e1:(ak s m).sg (sS c (a/2))=(ak (dz s c) (fk s m c)).sg (a/2):=(oe _ (by omega)).symm;rw [e1];unfold sS;by_cases h:a/2<c
  ·rw [zzJ h,zzJ h]
  ·rw [zzI h,zzI h]
   split
   ·omega
   split<;>omega
 have zh:y/4≠c:=by rw [hy,MK];exact yR c a
 have iR:=v.len;have g1:(fk s m c).getD (aH (ak (dz s c) (fk s m c)) a) 0=dq (fv m (s.getD c 0== -1) c (4*s.length)) c y:=by
  have:=wg _ PX
  rw [<-e] at this;exact this
 have g2:(fv m (s.getD c 0== -1) c (4*s.length)).getD y 0=dn m (l8 s c) c 5 (m.getD y 0):=Sp.qK zh _ (by omega) qx;have g3:m.getD y 0=((cB (ak s m) ((ak s m).nx (cn c a)):Nat):Int):=by
  rw [<-u5 v mL,<-hy,(uq v qx).2.1]
 obtain ⟨b1,h1,h2,h3⟩:=R4 v hc 5 _ ((nO v).lt _ mL);have qP:=Eb (b:=l8 s c) v.dw hc qx zh;rw [g3,h2] at qP;have iM:b1/2≠c:=by have:=Fe (ak s m) b1;omega
 have g4:(fk s m c).getD (aH (ak (dz s c) (fk s m c)) a) 0=((if c<cB (ak s m) b1/4 then cB (ak s m) b1-4 else cB (ak s m) b1:Nat):Int):=by
  rw [g1];unfold dq;rw [g2,g3,h2]
  split<;>split<;>omega
 have e5:(ak (dz s c) (fk s m c)).nx a=aM (if c<cB (ak s m) b1/4 then cB (ak s m) b1-4 else cB (ak s m) b1):=by
  show aM (aW (fk s m c) (aH (ak (dz s c) (fk s m c)) a))=_;unfold aW;rw [g4,zzC]
 rw [e5,OC iM (Fe _ _) (zG b1)];exact h3 iM
theorem VN {x e k:Nat} {st pK:Nat->Nat} (h: ∀c,st (sS x c)=pK c) (hx:st x=5):Rl x e (Z0 pK (k+e)) (Z0 st k):=⟨h,fun _=>rfl,rfl,rfl,rfl, .inl hx⟩
theorem WL {D D':Sh} {x:Nat} (C:IA D D' x) (st:Nat->Nat) (k:Nat):jt D ((List.range (2*D'.n)).map (cn x)++[2*x,2*x+1]) (Z0 st k):=by
 have hx:=C.hx;have hn:=C.n;refine ⟨fun a ha=>?_,fun a ha _=>?_⟩
 ·rcases List.mem_append.1 ha with h|h
  ·obtain ⟨b,hb,rfl⟩:=List.mem_map.1 h;rw [hn];exact EU (List.mem_range.1 hb)
  ·simp at h;omega
 ·by_cases rG:a/2=x
  ·exact List.mem_append_right _ (by simp;omega)
  ·obtain ⟨b,rfl⟩:=To rG;exact List.mem_append_left _ (List.mem_map.2 ⟨b,List.mem_range.2 (R5 (x:=x) (by omega) (by rw [<-hn];exact ha)),rfl⟩)
theorem y8o {n:Nat} (hp:iF m n) {ch Q0:Nat->Bool} (h: ∀i,i<n->ch i=Q0 i):qe m n ch=qe m n Q0:=by
 rw [Xv hp,Xv hp];have R:=LK hp fun c=>vj (ch c);have R':=LK hp fun c=>vj (Q0 c);unfold Ib;have key: ∀{q q':Nat->Nat},(∀i,i<n->q i=q' i)-> ∀{x y:Int},av n x->aX (fun x=>m.getD x.toNat 0) (uz q) x y->aX (fun x=>m.getD x.toNat 0) (uz q') x y:=fun {q q'} he {x y} hx h=>by
  have hi:=SU hp.ok hp.inv hp.ne q
  induction h with
  |refl=>exact .refl _
  |mate _ ih=>exact .mate ih
  | @join z hz ih=>
    have wa:=hz.iP hi hx
    have:uz q z=uz q' z:=by unfold av at wa;unfold uz;rw [he _ (by omega)]
    rw [this];exact .join ih
 exact TD R ⟨R'.rep,fun x y hx hy=>(R'.iff x y hx hy).trans ⟨key (fun i hi=>by rw [h i hi]) (by unfold av;omega),key (fun i hi=>by rw [h i hi]) (by unfold av;omega)⟩⟩
theorem OB (hv:bf s m L=true) (hc:c<s.length) {L':Int} (cw:bf (dz s c) (fk s m c) L'=true):(wC (ak s m) c:Int)=n9 m (l8 s c) c s.length:=by
 have C:=WM hv hc cw;have hD:=nO (bV hv);have wy:=nO (bV cw);have h1:=Jt hD wy C (fun _ _ k=>(k:Int)) (List.range (2*(dz s c).length)) (Z0 (fun _=>5) (0+wC (ak s m) c)) (Z0 (fun _=>5) 0) (VN (fun _=>rfl) rfl) (fun _ _=>rfl) (vM _ (fun _=> .inr rfl) 0) (wI (ak (dz s c) (fk s m c)) _ _)
 rw [F5 cw _ _ (B:=List.range (2*(dz s c).length)) (wI (ak (dz s c) (fk s m c)) _ _),F5 hv _ _ (B:=(List.range (2*(dz s c).length)).map (cn c)++[2*c,2*c+1]) (WL C _ _)] at h1;have hp:=pX hv;have cP:(dz s c).length=s.length-1:=by have:=C.n;have e:(ak s m).n=s.length:=rfl;have e':(ak (dz s c) (fk s m c)).n=(dz s c).length:=rfl;omega
 have l5:=pX cw;have h2:=OE hp hc (l8 s) (by have:=l5;rw [cP] at this;exact this);have h3:qe (fk s m c) (s.length-1) (l8 (dz s c))=qe (fk s m c) (s.length-1) (Ck (l8 s) c):=y8o (by have:=l5;rw [cP] at this;exact this) fun i hi=>by
  have:=C.sg i (by show i<(dz s c).length;omega)
  have e:(dz s c).getD i 0=s.getD (sS c i) 0:=this;unfold l8 Ck;rw [e];unfold sS
  split<;>rfl
 rw [cP,h3] at h1;have EL:(qe m s.length (l8 s):Int)=qe (fk s m c) (s.length-1) (Ck (l8 s) c)+n9 m (l8 s c) c s.length:=h2;push_cast at h1;omega
def HF (X:Int->Int->Nat->Int) (s m:List Int) (L:Int):Int:=run X (ak s m) (List.range (2*s.length)) (Z0 (fun _=>1) L.toNat)
theorem Uv {X:Int->Int->Nat->Int} (hX:Good X) (hv:bf s m L=true) (hc:c<s.length) (cw:bf (dz s c) (fk s m c) (im s m c L)=true):
  HF X (dz s c) (fk s m c) (im s m c L)=run X (ak s m) (List.range (2*s.length)) (Z0 (fun i=>if i=c then 5 else 1) L.toNat):=by
 have C:=WM hv hc cw;have hD:=nO (bV hv);have wy:=nO (bV cw);have he:=OB hv hc cw;have hl:=(bV hv).l0;have Bw:(im s m c L).toNat=L.toNat+wC (ak s m) c:=by
  have e:im s m c L=L+n9 m (l8 s c) c s.length:=rfl;omega
 unfold HF;rw [Bw,Jt hD wy C X (List.range (2*(dz s c).length)) (Z0 (fun _=>1) (L.toNat+wC (ak s m) c)) (Z0 (fun i=>if i=c then 5 else 1) L.toNat) (VN (fun i=>zzI (LH c i)) (zzJ rfl)) (fun _ _=>rfl) (vM _ (fun i=>by by_cases h:i=c<;>simp [h]) _) (wI (ak (dz s c) (fk s m c)) _ _)]
 exact ord hD (AY hv) hX (vM _ (fun i=>by by_cases h:i=c<;>simp [h]) _) (WL C _ _) (wI (ak s m) _ _)
end
end Hs
namespace Hs
open Sp (fq bt aw itn SC aW)
def jB (p:Nat->Nat) (f:Nat->Bool) (a:Nat):Nat:=2*p (a/2)+(if f (a/2) then 1-a % 2 else a % 2)
theorem Ea (p:Nat->Nat) (f:Nat->Bool) (a:Nat):jB p f a/2=p (a/2):=by unfold jB;split<;>omega
theorem Js (p:Nat->Nat) (f:Nat->Bool) (a:Nat):jB p f a % 2=if f (a/2) then 1-a % 2 else a % 2:=by unfold jB;split<;>omega
theorem OA (p:Nat->Nat) (f:Nat->Bool) (a:Nat):co (jB p f a)=jB p f (co a):=by
 have h1:=dJ a;have h2:=BQ a;have e:co (jB p f a)=2*(jB p f a/2)+(1-jB p f a % 2):=by unfold co;split<;>omega
 rw [e,Ea,Js];unfold jB;rw [h1,h2]
 split<;>omega
structure Ren (D D':Sh) (p:Nat->Nat) (f:Nat->Bool):Prop where
 n:D'.n=D.n
 lt: ∀c,c<D.n->p c<D.n
 inj: ∀c d,c<D.n->d<D.n->p c=p d->c=d
 sg: ∀c,c<D.n->D'.sg (p c)=if f c then-D.sg c else D.sg c
 nx: ∀a,a<2*D.n->D'.nx (jB p f a)=jB p f (D.nx a)
structure RR (D:Sh) (p:Nat->Nat) (f:Nat->Bool) (S S':WS):Prop where
 st: ∀c,c<D.n->S'.st (p c)=if f c=true/\S.st c<=1 then 1-S.st c else S.st c
 ae: ∀a,a<2*D.n->S'.ae (jB p f a)=S.ae a
 i:S'.i=S.i
 j:S'.j=S.j
 k:S'.k=S.k
section
variable {D D':Sh} {p:Nat->Nat} {f:Nat->Bool}
theorem Mi (R:Ren D D' p f) {a b:Nat} (ha:a<2*D.n) (hb:b<2*D.n) (h:jB p f a=jB p f b):a=b:=by
 have h1:p (a/2)=p (b/2):=by rw [<-Ea p f a,<-Ea p f b,h]
 have h2:=R.inj _ _ (by omega) (by omega) h1;have h3:jB p f a % 2=jB p f b % 2:=by rw [h]
 rw [Js,Js,h2] at h3
 split at h3<;>omega
theorem LG (R:Ren D D' p f) {a:Nat} (ha:a<2*D.n):jB p f a<2*D.n:=by
 have h1:=Ea p f a;have h2:=R.lt (a/2) (by omega);omega
theorem RR.mark (R:Ren D D' p f) {S S':WS} (h:RR D p f S S') {a:Nat} (ha:a<2*D.n) {v:Nat} (hv: ¬v<=1):RR D p f (S.mk' a v) (S'.mk' (jB p f a) v):=by
 refine ⟨fun c hc=>?_,fun b hb=>?_,h.i,h.j,h.k⟩
 ·show aR S'.st (jB p f a/2) v (p c)=if f c=true/\aR S.st (a/2) v c<=1 then 1-aR S.st (a/2) v c else aR S.st (a/2) v c;rw [Ea];by_cases e:c=a/2
  ·subst e;rw [bQ,bQ,zzI fun h=>hv h.2]
  ·rw [bG _ _ e,bG _ _ fun e'=>e (R.inj _ _ hc (by omega) e')];exact h.st c hc
 ·show aR S'.ae (jB p f a) true (jB p f b)=aR S.ae a true b;by_cases e:b=a
  ·subst e;rw [bQ,bQ]
  ·rw [bG _ _ e,bG _ _ fun e'=>e (Mi R hb ha e')];exact h.ae b hb
theorem RR.sc {S S':WS} (h:RR D p f S S') (u v:Int):RR D p f (S.sc u v) (S'.sc u v):=
 ⟨h.st,h.ae,by show S'.i+u=S.i+u;rw [h.i],by show S'.j+v=S.j+v;rw [h.j],h.k⟩
theorem RR.cr {S S':WS} (h:RR D p f S S'):RR D p f S.cr S'.cr:=⟨h.st,h.ae,h.i,h.j,by show S'.k+1=S.k+1;rw [h.k]⟩
theorem WK (hD:Ok D) (R:Ren D D' p f) {S S':WS} (h:RR D p f S S') {a:Nat} (ha:a<2*D.n):BR (fun S b S' b'=>RR D p f S S'/\b<2*D.n/\b'=jB p f b) (br D S a) (br D' S' (jB p f a)):=by
 have hc:a/2<D.n:=by omega
 have aZ:=h.st _ hc;have qA:=LG R ha;have hs:=R.sg _ hc;have k1:=hD.lt _ ha;have k2:=hD.lt _ (fj ha);have n1:=R.nx a ha;have n2:=R.nx (co a) (fj ha);have e0: ¬2*D.n<=a:=by omega
 have e1: ¬2*D'.n<=jB p f a:=by rw [R.n];omega
 unfold br;rw [zzI e0,zzI e1,Ea,Js,OA,n1,n2,aZ];by_cases q2:S.st (a/2)=2
 ·rw [zzJ q2,zzI (c:=f (a/2)=true/\S.st (a/2)<=1) (by omega),zzJ q2];exact .cons ⟨h.mark R ha (by omega),k2,rfl⟩ .nil
 by_cases q3:S.st (a/2)=3
 ·rw [zzI q2,zzJ q3,zzI (c:=f (a/2)=true/\S.st (a/2)<=1) (by omega),zzI q2,zzJ q3];exact .cons ⟨h.mark R ha (by omega),k1,rfl⟩ .nil
 by_cases q5:S.st (a/2)=5
 ·rw [zzI q2,zzI q3,zzJ q5,zzI (c:=f (a/2)=true/\S.st (a/2)<=1) (by omega),zzI q2,zzI q3,zzJ q5];exact .cons ⟨h.mark R ha (by omega),k2,rfl⟩ .nil
 rw [zzI q2,zzI q3,zzI q5];by_cases q1:S.st (a/2)<=1
 ·have oe: ∀q,q<=1->dS D' (if f (a/2)=true then 1-q else q) (p (a/2))=dS D q (a/2):=fun q hq=>by
   unfold dS;rw [hs];by_cases hf:f (a/2)=true
   ·rw [zzJ hf,zzJ hf];by_cases e:q=1
    ·rw [zzJ e,zzI (by omega)];omega
    ·rw [zzI e,zzJ (by omega)]
   ·rw [zzI hf,zzI hf]
  have hq:(if f (a/2)=true/\S.st (a/2)<=1 then 1-S.st (a/2) else S.st (a/2))=if f (a/2)=true then 1-S.st (a/2) else S.st (a/2):=by
   by_cases hf:f (a/2)=true
   ·rw [zzJ hf,zzJ ⟨hf,q1⟩]
   ·rw [zzI hf,zzI fun h=>hf h.1]
  rw [hq,oe _ q1];have hle:(if f (a/2)=true then 1-S.st (a/2) else S.st (a/2))<=1:=by split<;>omega
  have uK:((if f (a/2)=true then 1-S.st (a/2) else S.st (a/2))=if f (a/2)=true then 1-a % 2 else a % 2)↔S.st (a/2)=a % 2:=by split<;>omega
  have YE:((if f (a/2)=true then 1-S.st (a/2) else S.st (a/2))=1-if f (a/2)=true then 1-a % 2 else a % 2)↔S.st (a/2)=1-a % 2:=by split<;>omega
  rw [zzI (show¬(if f (a/2)=true then 1-S.st (a/2) else S.st (a/2))=2 by omega),zzI (show¬(if f (a/2)=true then 1-S.st (a/2) else S.st (a/2))=3 by omega),zzI (show¬(if f (a/2)=true then 1-S.st (a/2) else S.st (a/2))=5 by omega)];by_cases h6:S.st (a/2)=a % 2
  ·rw [zzJ h6,zzJ (uK.2 h6)];exact .cons ⟨h.mark R ha (by omega),k1,rfl⟩ .nil
  ·rw [zzI h6,zzI fun h=>h6 (uK.1 h)];by_cases h7:S.st (a/2)=1-a % 2
   ·rw [zzJ h7,zzJ (YE.2 h7)];exact .cons ⟨(h.mark R ha (by omega)).sc _ _,k1,rfl⟩ (.cons ⟨(h.mark R ha (by omega)).sc _ _,k2,rfl⟩ .nil)
   ·rw [zzI h7,zzI fun h=>h7 (YE.1 h)];exact .nil
 ·rw [zzI (c:=f (a/2)=true/\S.st (a/2)<=1) (by omega),zzI q2,zzI q3,zzI q5];have m1: ¬S.st (a/2)=a % 2:=by omega
  have m2: ¬S.st (a/2)=1-a % 2:=by omega
  rw [zzI m1,zzI m2,zzI (by split<;>omega),zzI (by split<;>omega)];exact .nil
theorem R3 (hD:Ok D) (R:Ren D D' p f) (X:Int->Int->Nat->Int): ∀(B:List Nat) (S S':WS),(∀a∈B,a<2*D.n)->RR D p f S S'->run X D B S=run X D' (B.map (jB p f)) S'
 |[],S,S',_,h=>by show X _ _ _=X _ _ _;rw [h.i,h.j,h.k]
 |a::B,S,S',hl,h=>by
  have ha:=hl a (.head _);have ih:=fun S S' h=>R3 hD R X B S S' (fun b hb=>hl b (.tail _ hb)) h;show (if S.ae a=true then _ else _)=if S'.ae (jB p f a)=true then _ else _;rw [h.ae a ha]
  split
  ·exact ih _ _ h
  ·show sumB _ _=sumB _ _;refine (WK hD R h.cr ha).sum fun x _ tT b' ⟨h1,h2,h3⟩=>?_;subst h3;refine rh (fun S b S' b'=>RR D p f S S'/\b<2*D.n/\b'=jB p f b) (fun S b S' b' ⟨h1,h2,h3⟩=>?_) _ _ _ _ ⟨h1,h2,rfl⟩;subst h3;refine ⟨?_,fun _=>ih _ _ h1,fun _=>⟨(h1.ae b h2).symm,fun _=>WK hD R h1 h2⟩⟩;by_cases e:b=a
   ·subst e;rw [iX,iX]
   ·rw [oB e,oB fun e'=>e (Mi R h2 ha e')]
theorem y8p (R:Ren D D' p f) (st:Nat->Nat) (k:Nat):jt D' ((List.range (2*D.n)).map (jB p f)) (Z0 st k):=by
 have hl: ∀a∈(List.range (2*D.n)).map (jB p f),a<2*D'.n:=fun a ha=>by
  obtain ⟨b,hb,rfl⟩:=List.mem_map.1 ha;rw [R.n];exact LG R (List.mem_range.1 hb)
 refine ⟨hl,fun a ha _=>?_⟩;have hp:aw (2*D.n) (jB p f):=⟨fun a ha=>LG R ha,fun a b ha hb h=>Mi R ha hb h⟩;rw [R.n] at ha;obtain ⟨k,h0,hk⟩:=hp.back ha;obtain ⟨j,rfl⟩: ∃j,k=j+1:=⟨k-1,by omega⟩;exact List.mem_map.2 ⟨_,List.mem_range.2 (hp.bC ha j),hk⟩
theorem y8q (hD:Ok D) (wy:Ok D') {al':Nat->Nat} (hP':tU D' al') (R:Ren D D' p f) {X:Int->Int->Nat->Int} (hX:Good X) {st pK:Nat->Nat} {k:Nat} (aZ: ∀c,pK c<=1\/pK c=5) (h: ∀c,c<D.n->pK (p c)=if f c=true/\st c<=1 then 1-st c else st c):
  run X D (List.range (2*D.n)) (Z0 st k)=run X D' (List.range (2*D'.n)) (Z0 pK k):=by
 rw [R3 hD R X _ (Z0 st k) (Z0 pK k) (fun a ha=>List.mem_range.1 ha) ⟨h,fun _ _=>rfl,rfl,rfl,rfl⟩];exact ord wy hP' hX (vM _ aZ _) (y8p R _ _) (wI D' _ _)
end
section
variable {s m:List Int} {L:Int} {c:Nat}
theorem Oz (hv:bf s m L=true) (hc:c<s.length):Ren (ak s m) (ak (kf s c) (jA s m c)) id (fun i=>i==c):=by
 have v:=bV hv;have v':=bV (Sp.iZ hv hc);have cP:(kf s c).length=s.length:=Sp.dK;refine ⟨cP,fun i hi=>hi,fun _ _ _ _ h=>h,fun i hi=>?_,fun a ha=>?_⟩
 ·show (kf s c).getD i 0=if (i==c)=true then-s.getD i 0 else s.getD i 0;rw [Sp.mC hi];by_cases e:i=c
  ·rw [zzJ e,zzJ (beq_iff_eq.2 e)]
  ·rw [zzI e,zzI fun h=>e (beq_iff_eq.1 h)]
 ·--the out half-rL
  have hrn: ∀a,jB id (fun i=>i==c) a=if a/2=c then co a else a:=fun a=>by
   unfold jB
   have:=BQ a
   have:=dJ a
   by_cases e:a/2=c
   ·rw [zzJ e,zzJ (beq_iff_eq.2 e)];show 2*(a/2)+(1-a % 2)=co a;omega
   ·rw [zzI e,zzI fun h=>e (beq_iff_eq.1 h)];show 2*(a/2)+a % 2=a;omega
  have YO: ∀h,aM (Sp.tw (Sp.kT s c) c h)=jB id (fun i=>i==c) (aM h):=fun h=>by
   rw [hrn];have hk:=Sp.jQ (s:=s) (c:=c);have e1:aM h/2=h/4:=by unfold aM;omega
   rw [e1];unfold Sp.tw;by_cases e:h/4=c
   ·rw [zzJ e,zzJ e]
    have:=BQ (aM h)
    have:=dJ (aM h)
    have e2:aM h % 2=h % 2:=by unfold aM;omega
    have e3:co (aM h)=2*(h/4)+(1-h % 2):=by omega
    rw [e3];unfold aM;rcases hk with hk|hk<;>rw [hk]<;>omega
   ·rw [zzI e,zzI e]
  have ho:aH (ak (kf s c) (jA s m c)) (jB id (fun i=>i==c) a)=Sp.tw (Sp.kT s c) c (aH (ak s m) a):=by
   have lo:=qk (D:=ak s m) ha;have Cz:Sp.tw (Sp.kT s c) c (aH (ak s m) a)<4*(kf s c).length:=by rw [cP];exact Sp.kz lo
   have h1:=Sp.oI (s:=s) (c:=c) (v.sg c hc) hc lo;rw [(yW (m:=m) v.sg ha).2] at h1;have h2:=(wP (m:=jA s m c) v'.sg Cz).2 h1;rw [h2,YO,D7]
  have lo:=qk (D:=ak s m) ha;show aM (aW (jA s m c) (aH (ak (kf s c) (jA s m c)) (jB id (fun i=>i==c) a)))=jB id (fun i=>i==c) (aM (aW m (aH (ak s m) a)));rw [ho,(Sp.jP v hc (i:=Sp.tw (Sp.kT s c) c (aH (ak s m) a)) (Sp.kz lo)).1,(Sp.kd Sp.jQ).1,YO]
theorem Uu {X:Int->Int->Nat->Int} (hX:Good X) (hv:bf s m L=true) (hc:c<s.length):HF X (kf s c) (jA s m c) L=run X (ak s m) (List.range (2*s.length)) (Z0 (fun i=>if i=c then 0 else 1) L.toNat):=by
 have cw:=Sp.iZ hv hc;symm;refine y8q (nO (bV hv)) (nO (bV cw)) (AY cw) (Oz hv hc) hX (fun _=> .inl (by omega)) fun i hi=>?_;show 1=if (i==c)=true/\(if i=c then 0 else 1)<=1 then 1-(if i=c then 0 else 1) else if i=c then 0 else 1;by_cases e:i=c
 ·rw [zzJ e,zzJ ⟨beq_iff_eq.2 e,by omega⟩]
 ·rw [zzI e,zzI fun h=>e (beq_iff_eq.1 h.1)]
theorem y5b {X:Int->Int->Nat->Int} (hX:Good X) (hv:bf s m L=true) (hc:c<s.length) (cw:bf (dz s c) (fk s m c) (im s m c L)=true):
  (s.getD c 0=1->HF (fun i j k=>X (i-1) j k) s m L=HF (fun i j k=>X (i+1) j k) (kf s c) (jA s m c) L+HF (fun i j k=>X i (j+1) k) (dz s c) (fk s m c) (im s m c L))/\
  (s.getD c 0= -1->HF (fun i j k=>X (i-1) j k) (kf s c) (jA s m c) L=HF (fun i j k=>X (i+1) j k) s m L+HF (fun i j k=>X i (j+1) k) (dz s c) (fk s m c) (im s m c L)):=by
 have g1:Good fun i j k=>X (i-1) j k:=fun i j k hk=>by
  have:=hX (i-1) j k hk
  rw [show i-1+1=i+1-1 by omega] at this;exact this
 have g2:Good fun i j k=>X (i+1) j k:=fun i j k hk=>by
  have:=hX (i+1) j k hk
  rw [show i+1-1=i-1+1 by omega] at this;exact this
 have g3:Good fun i j k=>X i (j+1) k:=fun i j k hk=>hX i (j+1) k hk;have sk:=DO (X:=X) (D:=ak s m) hc ((bV hv).sg c hc) (List.range (2*s.length)) (Z0 (fun _=>1) L.toNat) rfl rfl (List.mem_range.2 (by omega));rw [EY,EY,EY] at sk;have e1: ∀X:Int->Int->Nat->Int,(fun i j k=>X (i+ -1) (j+0) k)=fun i j k=>X (i-1) j k:=fun X=>by funext i j k;rw [Int.add_zero];rfl
 have e2: ∀X:Int->Int->Nat->Int,(fun i j k=>X (i+1) (j+0) k)=fun i j k=>X (i+1) j k:=fun X=>by funext i j k;rw [Int.add_zero]
 have e3: ∀X:Int->Int->Nat->Int,(fun i j k=>X (i+0) (j+1) k)=fun i j k=>X i (j+1) k:=fun X=>by funext i j k;rw [Int.add_zero]
 rw [e1,e2,e3] at sk;have st: ∀q,(Z0 (fun _=>1) L.toNat).sx c q=Z0 (fun i=>if i=c then q else 1) L.toNat:=fun q=>rfl;rw [st,st,st] at sk;have s1:(fun i=>if i=c then 1 else 1)=fun _:Nat=>(1:Nat):=by funext i;split<;>rfl
 constructor
 ·intro h;have hp:pq (ak s m) c=1:=zzJ h;have hn:nq (ak s m) c=0:=zzJ h;rw [hp,hn,s1] at sk;rw [Uu g2 hv hc,Uv g3 hv hc cw];exact sk
 ·intro h;have hh: ¬(ak s m).sg c=1:=by show¬s.getD c 0=1;omega
  have hp:pq (ak s m) c=0:=zzI hh;have hn:nq (ak s m) c=1:=zzI hh;rw [hp,hn,s1] at sk;rw [Uu g1 hv hc,Uv g3 hv hc cw];exact sk
end
end Hs
section
variable {m:List Int} {n:Nat} (hp:iF m n)
include hp
end
section
variable {s m:List Int} {L:Int} (hv:iV s m L)
include hv
theorem y8r {x:Nat} (hx:x<4*s.length):aj s (m.getD x 0)= !aj s x/\aj s (aS m x)=aj s x:=by
 have hm:=hv.mt x hx;have h5:=hm.2.2.2.2;have e1:aj s (m.getD x 0)= !aj s x:=by cases h1:aj s x<;>cases h2:aj s (m.getD x 0)<;>simp_all
 refine ⟨e1,?_⟩;have key: ∀y:Int,0<=y->y<4*s.length->aj s (iJ y 2)= !aj s y:=fun y h0 h1=>by
  have hs:=hv.sg (y/4).toNat (by omega);have e:iJ y 2=y-y % 4+(y % 4+2)% 4:=by unfold iJ;rw [show (2:Int).tmod 4=2 by decide];omega
  have e4:(y-y % 4+(y % 4+2)% 4)/4=y/4:=by omega
  rw [e];unfold aj;rw [e4];rcases (show y % 4=0\/y % 4=1\/y % 4=2\/y % 4=3 by omega) with h|h|h|h
  ·rw [zzI (by omega),zzJ (by omega),zzI (by omega),zzI (by omega),zzI (by omega)];rfl
  ·rw [zzI (by omega),zzI (by omega),zzJ (by omega),zzJ h];rcases hs with hs|hs<;>rw [hs]<;>rfl
  ·rw [zzI (by omega),zzI (by omega),zzI (by omega),zzI (by omega),zzJ h];rfl
  ·rw [zzJ (by omega),zzI (by omega),zzI (by omega),zzJ h];rcases hs with hs|hs<;>rw [hs]<;>rfl
 unfold aS;rw [zzC,key _ hm.1 (by omega),e1,Bool.not_not]
theorem Fc {x:Nat} (hx:x<4*s.length): ∀j,aj s (it (aS m) j x)=aj s x
 |0=>rfl
 |j+1=>by
  have hR:av s.length (x:Int):=by unfold av;omega
  have hS:=(Ba hv.dw).it hR j;unfold av at hS;have e:it (aS m) j (x:Int)=((it (aS m) j (x:Int)).toNat:Int):=by omega
  have h1:=(y8r hv (x:=(it (aS m) j (x:Int)).toNat) (by omega)).2;rw [<-e] at h1;show aj s (aS m (it (aS m) j x))=_;rw [h1,Fc hx j]
end
namespace Sp
open Classical
section
variable {N n:Nat} {si al:Nat->Nat} {w g:Nat->Int}
def O6 (b:Bool):Nat:=if b then 1 else 0
end
end Sp
section
variable {s m:List Int} {L:Int} (v:iV s m L)
abbrev jb (s m:List Int) (k:Nat):List Int:=(dr s m).getD k []
include v
theorem u4 {x:Nat} (hx:x<4*s.length):(∀y,y∈af (aS m) m.length x↔ ∃j,it (aS m) j x=y)/\(∀y∈af (aS m) m.length x,av s.length y)/\(∀y∈af (aS m) m.length x,(x:Int)∈af (aS m) m.length y)/\
  (∀y∈af (aS m) m.length x,∀z∈af (aS m) m.length y,z∈af (aS m) m.length x)/\(x:Int)∈af (aS m) m.length x/\(af (aS m) m.length x).Nodup/\ ∃k,uW (aS m) x k/\af (aS m) m.length x=its (aS m) x k:=by
 have:=A5 (Ba v.dw) (x:=(x:Int)) (by unfold av;omega)
 rw [<-v.len] at this;obtain ⟨a,b,c,d,e,_,f,k,_,g,h⟩:=this;exact ⟨a,b,c,d,e,f,k,g,h⟩
theorem MJ:dr s m=((List.range m.length).filter fun i:Nat=>aj s i&&mZ i (af (aS m) m.length i)).map (fun i:Nat=>af (aS m) m.length i):=by
 have hl:=v.len;exact (Ms (N:=m.length) (want:=aj s) (orb:=af (aS m) m.length) (fun x hx _ y hy=>by
  have:=(u4 v (x:=x) (by omega)).2.1 y hy
  unfold av at this;omega) (fun x hx _=>(u4 v (x:=x) (by omega)).2.2.2.2.1) (fun x y hx hy hw hm=>by
  have h:=u4 v (x:=x) (by omega);refine ⟨?_,h.2.2.1 y hm⟩;obtain ⟨j,hj⟩:=(h.1 y).1 hm;rw [<-hj,Fc v (by omega) j];exact hw) (fun x y z hx hy hz _ h1 h2=>(u4 v (x:=x) (by omega)).2.2.2.1 y h1 z h2) m.length (zzA _)).1
theorem I4 {k:Nat} (hk:k<(dr s m).length): ∃x:Nat,x<4*s.length/\aj s x=true/\(∀y∈af (aS m) m.length x,(x:Int)<=y)/\jb s m k=af (aS m) m.length x:=by
 have hl:=v.len;have e:=MJ v;have hm:jb s m k∈dr s m:=by simp [jb,hk]
 rw [e] at hm;obtain ⟨x,h1,h2⟩:=List.mem_map.1 hm;obtain ⟨h3,h4⟩:=List.mem_filter.1 h1;rw [zzS] at h4;exact ⟨x,by have:=List.mem_range.1 h3;omega,h4.1,zO.1 h4.2,h2.symm⟩
theorem Oy {y:Nat} (hy:y<4*s.length) (ho:aj s y=true): ∃k,k<(dr s m).length/\(y:Int)∈jb s m k:=by
 have hl:=v.len;have h:=u4 v hy;have hle: ∃x:Nat,(x:Int)∈af (aS m) m.length y/\ ∀z∈af (aS m) m.length y,(x:Int)<=z:=by
  have key: ∀d x:Nat,x<d->(x:Int)∈af (aS m) m.length y-> ∃x:Nat,(x:Int)∈af (aS m) m.length y/\ ∀z∈af (aS m) m.length y,(x:Int)<=z:=fun d=>by
   induction d with
   |zero=>intro x hx;omega
   |succ d ih=>
    intro x hx hm;by_cases hz: ∃z∈af (aS m) m.length y,z<(x:Int)
    ·obtain ⟨z,z1,z2⟩:=hz
     have:=h.2.1 z z1
     unfold av at this;exact ih z.toNat (by omega) (by rw [show ((z.toNat:Nat):Int)=z by omega];exact z1)
    ·exact ⟨x,hm,fun z wb=>by
      apply zzT;intro hn;exact hz ⟨z,wb,by omega⟩⟩
  exact key (y+1) y (by omega) h.2.2.2.2.1
 obtain ⟨x,x1,x2⟩:=hle;have Bp:=h.2.1 x x1;unfold av at Bp;have hx:=u4 v (x:=x) (by omega);obtain ⟨j,hj⟩:=(h.1 x).1 x1;have tx:aj s (x:Int)=true:=by rw [<-hj,Fc v hy j];exact ho
 have Pj:=h.2.2.1 x x1;have nA:af (aS m) m.length (x:Int)∈dr s m:=by
  rw [MJ v];refine List.mem_map.2 ⟨x,List.mem_filter.2 ⟨List.mem_range.2 (by omega),?_⟩,rfl⟩;rw [zzS];exact ⟨tx,zO.2 fun z hz=>x2 z (h.2.2.2.1 x x1 z hz)⟩
 obtain ⟨k,hk,e⟩:=List.mem_iff_getElem.1 nA;exact ⟨k,hk,by simp only [jb,zzB,zzH hk,Option.getD_some,e];exact Pj⟩
theorem y8s {k k':Nat} (hk:k<(dr s m).length) (sy:k'<(dr s m).length) {y:Int} (hy:y∈jb s m k) (Bo:y∈jb s m k'):k=k':=by
 have hl:=v.len;have hn:(dr s m).Nodup:=by
  rw [MJ v];rw [List.nodup_iff_pairwise_ne,List.pairwise_map];refine (List.nodup_iff_pairwise_ne.1 (List.nodup_range.filter _)).imp_of_mem fun {a b} ha hb aA e=>aA ?_;obtain ⟨a1,a2⟩:=List.mem_filter.1 ha;obtain ⟨b1,b2⟩:=List.mem_filter.1 hb;rw [zzS] at a2 b2;have a3:=List.mem_range.1 a1;have b3:=List.mem_range.1 b1
  have:=zO.1 a2.2 b (by rw [e];exact (u4 v (x:=b) (by omega)).2.2.2.2.1)
  have:=zO.1 b2.2 a (by rw [<-e];exact (u4 v (x:=a) (by omega)).2.2.2.2.1)
  omega
 obtain ⟨x,x1,x2,x3,x4⟩:=I4 v hk;obtain ⟨z,z1,z2,z3,z4⟩:=I4 v sy;rw [x4] at hy;rw [z4] at Bo;have hx:=u4 v x1;have hz:=u4 v z1;have tm:=hx.2.1 y hy;unfold av at tm;have hzy:=hz.2.2.1 y Bo;have vr:=hx.2.2.1 y hy;have q1:=x3 z (hx.2.2.2.1 y hy z hzy);have q2:=z3 x (hz.2.2.2.1 y Bo x vr);have e:x=z:=by omega
 subst e;have e2:(dr s m)[k]'hk=(dr s m)[k']'sy:=by
  have f1:jb s m k=(dr s m)[k]'hk:=by simp [jb,hk]
  have f2:jb s m k'=(dr s m)[k']'sy:=by simp [jb,sy]
  rw [<-f1,<-f2,x4,z4]
 exact (List.getElem_inj hn).1 e2
end
open Classical
section
variable {s m:List Int} {L:Int} (v:iV s m L)
include v
end
section
variable {s m:List Int} {L:Int} (hv:bf s m L=true)
include hv
end
end Go.Proofs.YtjpbeacamoijhaaGreatDoor
namespace Go.Proofs.YtjpbeacamoijhaaGreatDoor
set_option linter.unusedSimpArgs false
set_option linter.unusedVariables false
section
variable {s m:List Int} {L:Int} {un ov:Nat->Bool}
end
section
variable {s m:List Int} {L:Int} {u o:Nat->Nat}
end
end Go.Proofs.YtjpbeacamoijhaaGreatDoor
