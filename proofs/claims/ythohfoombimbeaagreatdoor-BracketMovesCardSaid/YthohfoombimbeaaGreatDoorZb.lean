/- Dropped. -/
import Derived.Test.YthohfoombimbeaaGreatDoorZa
namespace Go.Proofs.YthohfoombimbeaaGreatDoor
set_option linter.unusedSimpArgs false
set_option linter.unusedVariables false
namespace Sp
open Classical
section
variable{N:Nat}{si al al':Nat->Nat}
theorem cb.Hr(h:cb N si al)(cG:bI N al'){x y:Nat}(hx:x<N)(hy:y<N)(cP:¬KK si al N x y)(e1:al' x=al y)(e2:al' (al y)=x)(e3:al' y=al x)(e4:al' (al x)=y)
  (e5:∀z,z<N->z≠x->z≠y->z≠al x->z≠al y->al' z=al z) (ry:KK si al' N x (al x)) (Am:KK si al' N y (al y)):cb N si al':=by
 have hs:=h.perm;have ha:=h.aW;have hE:=bH hs ha;have bX:=bH hs cG;obtain⟨p,ep⟩:∃p,al x=p:=⟨_,rfl⟩;obtain⟨q,eq⟩:∃q,al y=q:=⟨_,rfl⟩;rw[ep]at ry e3 e4 e5;rw[eq]at Am e1 e2 e5;have lp:p<N:=ep▸ha.lt x hx;have lq:q<N:=eq▸ha.lt y hy;have ip:al p=x:=by rw[<-ep];exact ha.inv x hx
 have iq:al q=y:=by rw[<-eq];exact ha.inv y hy
 have xp:KK si al N x p:=ep▸bS hs ha hx;have Bs:KK si al N y q:=eq▸bS hs ha hy;have VL:x≠y:=fun e=>cP (e▸hE.rfl' x hx);have yd:p≠x:=ep▸ha.ne x hx;have Fz:q≠y:=eq▸ha.ne y hy;have FC:p≠y:=fun e=>cP (e▸xp);have FA:q≠x:=fun e=>cP (hE.symm _ _ hy hx (e▸Bs));have jX:p≠q:=fun e=>VL (by rw[<-ip,e,iq]);have cs:∀z,z<N->z=x\/z=y\/z=p\/z=q\/(z≠x/\z≠y/\z≠p/\z≠q/\al' z=al z):=fun z hz=>by
  by_cases h1:z=x
  ·exact .inl h1
  ·by_cases h2:z=y
   ·exact .inr (.inl h2)
   ·by_cases h3:z=p
    ·exact .inr (.inr (.inl h3))
    ·by_cases h4:z=q
     ·exact .inr (.inr (.inr (.inl h4)))
     ·exact .inr (.inr (.inr (.inr ⟨h1,h2,h3,h4,e5 z hz h1 h2 h3 h4⟩)))
 have FJ:KK si al' N x q:=e1▸bS hs cG hx;have yl:KK si al' N x y:=bX.trans _ _ _ hx lq hy FJ (bX.symm _ _ hy lq Am);have cF:∀a b,a<N->b<N->KK si al N a b->KK si al' N a b:=fun a b br hb hk=>by
  refine bb hs ha bX (fun z hz=>cw hs cG hz) (fun z hz=>?_) br hb hk;rcases cs z hz with rfl|rfl|rfl|rfl|⟨_,_,_,_,e⟩
  ·rw[ep];exact ry
  ·rw[eq];exact Am
  ·rw[ip];exact bX.symm _ _ hx hz ry
  ·rw[iq];exact bX.symm _ _ hy hz Am
  ·rw[<-e];exact bS hs cG hz
 have DR:∀a b,a<N->b<N->(KK si al' N a b↔gO (KK si al N) x y a b):=fun a b br hb=>by
  constructor
  ·intro hk;refine bb hs cG (gO.eqv hE hx hy) (fun z hz=> .inl (cw hs ha hz)) (fun z hz=>?_) br hb hk;rcases cs z hz with rfl|rfl|rfl|rfl|⟨_,_,_,_,e⟩
   ·rw[e1];exact .inr (.inl ⟨hE.rfl' _ hz,Bs⟩)
   ·rw[e3];exact .inr (.inr ⟨hE.rfl' _ hz,xp⟩)
   ·rw[e4];exact .inr (.inl ⟨hE.symm _ _ hx hz xp,hE.rfl' _ hy⟩)
   ·rw[e2];exact .inr (.inr ⟨hE.symm _ _ hy hz Bs,hE.rfl' _ hx⟩)
   ·rw[e];exact .inl (bS hs ha hz)
  ·rintro (e|⟨f1,f2⟩|⟨f1,f2⟩)
   ·exact cF _ _ br hb e
   ·exact bX.trans _ _ _ br hx hb (cF _ _ br hx f1) (bX.trans _ _ _ hx hy hb yl (cF _ _ hy hb f2))
   ·exact bX.trans _ _ _ br hy hb (cF _ _ br hy f1) (bX.trans _ _ _ hy hx hb (bX.symm _ _ hx hy yl) (cF _ _ hx hb f2))
 have dL:=aN hs ha N (zA _);have eO:=aN hs cG N (zA _);have dM:=sM dL hx hy;have ow:=sM dM lp lq;have sk:∀z,z<N->swp (swp (aM si al N) x y) p q z=aM si al' N z:=fun z hz=>by
  rw[aX cG hz];rcases cs z hz with rfl|rfl|rfl|rfl|⟨h1,h2,h3,h4,e⟩
  ·unfold swp;rw[zL (Ne.symm yd),zL (Ne.symm FA),zM rfl,aX ha hy,eq,e1]
  ·unfold swp;rw[zL (Ne.symm FC),zL (Ne.symm Fz),zL (Ne.symm VL),zM rfl,aX ha hx,ep,e3]
  ·unfold swp;rw[zM rfl,zL FA,zL Fz,aX ha lq,iq,e4]
  ·unfold swp;rw[zL (Ne.symm jX),zM rfl,zL yd,zL FC,aX ha lp,ip,e2]
  ·unfold swp;rw[zL h3,zL h4,zL h1,zL h2,aX ha hz,e]
 refine⟨hs,cG,fun r hr kV kF kg jd=>?_⟩;by_cases hrx:KK si al' N x r
 ·have mP:∀z,z<N->((KK si al N x z\/KK si al N y z)↔KK si al' N r z):=fun z hz=>by
   have e:KK si al' N r z↔KK si al' N x z:=⟨fun e=>bX.trans _ _ _ hx hr hz hrx e,fun e=>bX.trans _ _ _ hr hx hz (bX.symm _ _ hx hr hrx) e⟩;rw[e,DR x z hx hz];constructor
   ·rintro (g|g)
    ·exact .inl g
    ·exact .inr (.inl ⟨hE.rfl' _ hx,g⟩)
   ·rintro (g|⟨_,g⟩|⟨g,_⟩)
    ·exact .inl g
    ·exact .inr g
    ·exact zzA g cP
  have jg:∀z,z<N->KK si al N x z->¬KK si al N y z:=fun z hz f1 f2=>cP (hE.trans _ _ _ hx hz hy f1 (hE.symm _ _ hy hz f2));obtain⟨xV,Wc⟩:=Tr.exists (SC.eqv hs) (KK si al N x);obtain⟨xF,FZ⟩:=Tr.exists (SC.eqv dL) (KK si al N x);obtain⟨yV,V6⟩:=Tr.exists (SC.eqv hs) (KK si al N y);obtain⟨yF,V7⟩:=Tr.exists (SC.eqv dL) (KK si al N y);have q1:=h.eq x hx xV xF Wc FZ
  have q2:=h.eq y hy yV yF V6 V7
  have BL:∀a b,a<N->b<N->KK si al N x a->KK si al N y b->¬SC si a b/\ ¬SC si b a:=fun a b br hb f1 f2=>
   ⟨fun e=>jg b hb (hE.trans _ _ _ hx br hb f1 (nU hs ha br e)) f2,fun e=>jg a br f1 (hE.trans _ _ _ hy hb br f2 (nU hs ha hb e))⟩
  have BM:∀a b,a<N->b<N->KK si al N x a->KK si al N y b->¬SC (aM si al N) a b/\ ¬SC (aM si al N) b a:=fun a b br hb f1 f2=>
   ⟨fun e=>jg b hb (hE.trans _ _ _ hx br hb f1 (nV hs ha br e)) f2,fun e=>jg a br f1 (hE.trans _ _ _ hy hb br f2 (nV hs ha hb e))⟩
  have aV:=((Wc.append V6 BL jg).aZ mP (E':=SC si) (fun _ _ _ _ _ _=>Iff.rfl)).bd (SC.eqv hs) kg;have aF:=FZ.append V7 BM jg;obtain⟨F1,p8⟩:=Tr.exists (SC.eqv dM) (fun z=>KK si al N x z\/KK si al N y z);have JX:¬SC (aM si al N) x y:=fun e=>cP (nV hs ha hx e)
  have b1:=aF.join (SC.eqv dL) hx hy (.inl (hE.rfl' _ hx)) (.inr (hE.rfl' _ hy)) JX (p8.congr (pT dL hx hy JX))
  have we:Tr N (fun z=>KK si al N x z\/KK si al N y z) (SC (swp (swp (aM si al N) x y) p q)) kF:=
   jd.aZ (fun z hz=>(mP z hz).symm) (fun a b br hb _ _=>(uA ow sk br).symm)
  have b2:F1.length<=kF.length+1:=by
   by_cases iF:SC (swp (aM si al N) x y) p q
   ·have hn:=vf dM lp jX iF;have hj:=pT ow lp lq hn;rw[vc]at hj
    have:=we.join (SC.eqv ow) lp lq (.inl xp) (.inr Bs) hn (p8.congr hj)
    omega
   ·have:=p8.join (SC.eqv dM) lp lq (.inl xp) (.inr Bs) iF (we.congr (pT dM lp lq iF))
    omega
  have b3:=CH hs cG hr kg jd;have c1:=tD ha (dX hs ha hx).2;have c2:=tD ha (dX hs ha hy).2;have c3:=tD cG (dX hs cG hr).2;have c4:cU (KK si al' N r) N=cU (KK si al N x) N+cU (KK si al N y) N:=by
   rw[<-HN (fun z hz e=>jg z hz e)];exact EK fun z hz=>(mP z hz).symm
  rw[zG]at aV b1;omega
 ·--another component
  have ik:∀z,z<N->(KK si al' N r z↔KK si al N r z):=fun z hz=>by
   refine⟨fun e=>?_,cF r z hr hz⟩;rcases (DR r z hr hz).1 e with g|⟨g,_⟩|⟨g,_⟩
   ·exact g
   ·exact zzA (bX.symm _ _ hr hx (cF _ _ hr hx g)) hrx
   ·exact zzA (bX.trans _ _ _ hx hy hr yl (bX.symm _ _ hr hy (cF _ _ hr hy g))) hrx
  have o9:∀z,z<N->KK si al N r z->al' z=al z:=fun z hz e=>by
   have e':=cF _ _ hr hz e;have hb:∀w,w<N->KK si al' N x w->z≠w:=fun w hw f g=>hrx (bX.trans _ _ _ hx hz hr (g▸f) (bX.symm _ _ hr hz e'));exact e5 z hz (hb x hx (bX.rfl' _ hx)) (hb y hy yl) (hb p lp ry) (hb q lq FJ)
  have iF:∀a b,a<N->KK si al N r a->(SC (aM si al' N) a b↔SC (aM si al N) a b):=fun a b br hU=>by
   have hi:∀k,KK si al N r (aS (aM si al' N) k a)/\aS (aM si al' N) k a=aS (aM si al N) k a:=fun k=>by
    induction k with
    |zero=>exact⟨hU,rfl⟩
    |succ k ih=>
     have lt:=eO.bW br k;have e:aM si al' N (aS (aM si al' N) k a)=aM si al N (aS (aM si al' N) k a):=by rw[aX cG lt,aX ha lt,o9 _ lt ih.1]
     refine⟨?_,by simp only[aS];rw[e,ih.2]⟩;simp only[aS];rw[e,aX ha lt];exact((dX hs ha hr).1 _ (ha.lt _ lt)).1 (((dX hs ha hr).2 _ lt).1 ih.1)
   constructor
   ·rintro⟨k,rfl⟩;exact⟨k,(hi k).2.symm⟩
   ·rintro⟨k,rfl⟩;exact⟨k,(hi k).2⟩
  have t1:Tr N (KK si al N r) (SC si) kV:=kg.aZ ik (fun _ _ _ _ _ _=>Iff.rfl);have t2:Tr N (KK si al N r) (SC (aM si al N)) kF:=jd.aZ ik (fun a b br _ hU _=>iF a b br ((ik a br).1 hU));rw[h.eq r hr kV kF t1 t2];congr 1;refine xR fun z hz=>?_;rw[ik z hz];constructor
  ·rintro⟨f,g⟩;exact⟨f,by rw[o9 z hz f];exact g⟩
  ·rintro⟨f,g⟩;exact⟨f,by rw[<-o9 z hz f];exact g⟩
end
end Sp
section
variable{s1 s2 m1 m2:List Int}{L1 L2:Int}{n1 n2:Nat}
end
namespace Hs
open Sp (cb ai bJ aS ae)
section
abbrev Q2(x y:Nat):Nat->Bool:=fun c=>c==x||c==y
end
end Hs
namespace Sp
structure bE(N:Nat)(si al aj:Nat->Nat)(h g H G:Nat->Nat):Prop where
 lt:∀k,h k<N/\g k<N/\H k<N/\G k<N
 s1:∀k,si (h k)=G k
 s2:∀k,si (G k)=H k
 s3:∀k,si (H k)=g k
 s4:∀k,si (g k)=h k
 a1:∀k,al (h k)=g (k+1)
 a2:∀k,al (g (k+1))=h k
 t1:∀k,aj (h k)=G (k+1)
 t2:∀k,aj (G (k+1))=h k
 t3:∀k,aj (H k)=g (k+1)
 t4:∀k,aj (g (k+1))=H k
 t0:∀x,(∀k,x≠h k/\x≠g k/\x≠H k/\x≠G k)->aj x=x
 fD:∀k,h (k+3)=h k/\g (k+3)=g k/\H (k+3)=H k/\G (k+3)=G k
 dis:∀k j,h k≠g j/\h k≠H j/\h k≠G j/\g k≠H j/\g k≠G j/\H k≠G j
section
variable{N:Nat}{si al aj h g H G:Nat->Nat}
theorem bE.vk(T:bE N si al aj h g H G)(k:Nat):aj (G k)=h (k+2):=by
 rw[<-(T.fD k).2.2.2];exact T.t2 (k+2)
theorem bE.vj(T:bE N si al aj h g H G)(k:Nat):aj (g k)=H (k+2):=by
 rw[<-(T.fD k).2.1];exact T.t4 (k+2)
theorem bE.oF(T:bE N si al aj h g H G)(k:Nat):al (g k)=h (k+2):=by
 rw[<-(T.fD k).2.1];exact T.a2 (k+2)
theorem bE.cases(T:bE N si al aj h g H G)(x:Nat):(∃k,x=h k)\/(∃k,x=g k)\/(∃k,x=H k)\/(∃k,x=G k)\/ ∀k,x≠h k/\x≠g k/\x≠H k/\x≠G k:=by
 by_cases h1:∃k,x=h k
 ·exact .inl h1
 by_cases h2:∃k,x=g k
 ·exact .inr (.inl h2)
 by_cases h3:∃k,x=H k
 ·exact .inr (.inr (.inl h3))
 by_cases h4:∃k,x=G k
 ·exact .inr (.inr (.inr (.inl h4)))
 exact .inr (.inr (.inr (.inr fun k=>⟨fun e=>h1 ⟨k,e⟩,fun e=>h2 ⟨k,e⟩,fun e=>h3 ⟨k,e⟩,fun e=>h4 ⟨k,e⟩⟩)))
theorem bE.tt(T:bE N si al aj h g H G)(x:Nat):aj (aj x)=x:=by
 rcases T.cases x with ⟨k,rfl⟩|⟨k,rfl⟩|⟨k,rfl⟩|⟨k,rfl⟩|hx
 ·rw[T.t1,T.t2]
 ·rw[T.vj,T.t3,(T.fD k).2.1]
 ·rw[T.t3,T.t4]
 ·rw[T.vk,T.t1,(T.fD k).2.2.2]
 ·rw[T.t0 x hx,T.t0 x hx]
theorem bE.iV(T:bE N si al aj h g H G){x:Nat}(hx:x<N):aj x<N:=by
 rcases T.cases x with ⟨k,rfl⟩|⟨k,rfl⟩|⟨k,rfl⟩|⟨k,rfl⟩|fT
 ·rw[T.t1];exact(T.lt _).2.2.2
 ·rw[T.vj];exact(T.lt _).2.2.1
 ·rw[T.t3];exact(T.lt _).2.1
 ·rw[T.vk];exact(T.lt _).1
 ·rw[T.t0 x fT];exact hx
def fW(si aj:Nat->Nat)(x:Nat):Nat:=aj (si (aj x))
theorem bE.perm(T:bE N si al aj h g H G)(hs:bJ N si):bJ N (fW si aj):=
 ⟨fun x hx=>T.iV (hs.lt _ (T.iV hx)),fun x y hx hy e=>by
  have h1:=congrArg aj e;unfold fW at h1;rw[T.tt,T.tt]at h1;have h2:=hs.inj _ _ (T.iV hx) (T.iV hy) h1;have h3:=congrArg aj h2;rwa [T.tt,T.tt]at h3⟩
theorem bE.rG(T:bE N si al aj h g H G)(k:Nat):fW si aj (G k)=h (k+1):=by
 unfold fW;rw[T.vk,T.s1,show k+2=(k+1)+1 from rfl,T.t2]
theorem bE.rH(T:bE N si al aj h g H G)(k:Nat):fW si aj (H k)=G (k+2):=by
 unfold fW;rw[T.t3,T.s4,T.t1]
theorem bE.rg(T:bE N si al aj h g H G)(k:Nat):fW si aj (g k)=H (k+1):=by
 unfold fW;rw[T.vj,T.s3,show k+2=(k+1)+1 from rfl,T.t4]
theorem bE.rh(T:bE N si al aj h g H G)(k:Nat):fW si aj (h k)=g (k+2):=by
 unfold fW;rw[T.t1,T.s2,T.t3]
theorem bE.r0(T:bE N si al aj h g H G)(hs:bJ N si){x:Nat}(hx:x<N)(h0:∀k,x≠h k/\x≠g k/\x≠H k/\x≠G k):fW si aj x=si x/\ ∀k,si x≠h k/\si x≠g k/\si x≠H k/\si x≠G k:=by
 have key:∀k,si x≠h k/\si x≠g k/\si x≠H k/\si x≠G k:=fun k=>by
  refine⟨fun e=>?_,fun e=>?_,fun e=>?_,fun e=>?_⟩
  ·exact(h0 k).2.1 (hs.inj _ _ hx (T.lt k).2.1 (by rw[T.s4];exact e))
  ·exact(h0 k).2.2.1 (hs.inj _ _ hx (T.lt k).2.2.1 (by rw[T.s3];exact e))
  ·exact(h0 k).2.2.2 (hs.inj _ _ hx (T.lt k).2.2.2 (by rw[T.s2];exact e))
  ·exact(h0 k).1 (hs.inj _ _ hx (T.lt k).1 (by rw[T.s1];exact e))
 unfold fW;rw[T.t0 x h0,T.t0 _ key];exact⟨rfl,key⟩
theorem Sf{f aj:Nat->Nat}(ht:∀x,aj (aj x)=x){x y:Nat}:SC (fun x=>aj (f (aj x))) x y↔SC f (aj x) (aj y):=by
 have key:∀k x,aj (aS (fun x=>aj (f (aj x))) k x)=aS f k (aj x):=by
  intro k
  induction k with
  |zero=>intro x;rfl
  |succ k ih=>intro x;show aj (aj (f (aj (aS _ k x))))=f (aS f k (aj x));rw[ht,ih]
 constructor
 ·rintro⟨k,rfl⟩;exact⟨k,(key k x).symm⟩
 ·rintro⟨k,e⟩;refine⟨k,?_⟩
  have:=congrArg aj ((key k x).trans e)
  rwa [ht,ht]at this
section
variable{gS nF:Nat->Nat}{A B:Nat->Prop}
structure D3(N:Nat)(gS nF:Nat->Nat)(A B:Nat->Prop):Prop where
 p:bJ N gS
 q:bJ N nF
 ab:∀x,A x->¬B x
 a:∀x,x<N->A x->A (gS x)
 b:∀x,x<N->B x->¬A (gS x)/\ ¬B (gS x)
 w:∀x,x<N->¬A x->¬B x->¬A (gS x)/\(B (gS x)->SC nF x (gS (gS x)))/\(¬B (gS x)->SC nF x (gS x))
open Classical in
theorem D3.le(R:D3 N gS nF A B){x y:Nat}(hx:x<N)(hy:y<N)(ax:¬A x)(bx:¬B x)(ay:¬A y)(byy:¬B y)(h:SC gS x y):SC nF x y:=by
 let io:Nat->Nat:=fun x=>if B x then gS x else x
 have FV:∀x,x<N->io x<N:=fun x hx=>by
  show (if B x then gS x else x)<N
  split
  ·exact R.p.lt x hx
  ·exact hx
 have hE:dG N (fun x y=>(A x/\A y)\/(¬A x/\ ¬A y/\SC nF (io x) (io y))):=by
  refine⟨fun x hx=>?_,fun x y hx hy h=>?_,fun x y z hx hy hz h k=>?_⟩
  ·by_cases a:A x
   ·exact .inl ⟨a,a⟩
   ·exact .inr ⟨a,a,.refl _ _⟩
  ·rcases h with ⟨h1,h2⟩|⟨h1,h2,h3⟩
   ·exact .inl ⟨h2,h1⟩
   ·exact .inr ⟨h2,h1,h3.symm R.q (FV x hx)⟩
  ·rcases h with ⟨h1,h2⟩|⟨h1,h2,h3⟩<;>rcases k with ⟨k1,k2⟩|⟨k1,k2,k3⟩
   ·exact .inl ⟨h1,k2⟩
   ·exact zzA h2 k1
   ·exact zzA k1 h2
   ·exact .inr ⟨h1,k2,h3.trans k3⟩
 have:=Eb R.p hE (fun z hz=>by
  by_cases a:A z
  ·exact .inl ⟨a,R.a z hz a⟩
  ·refine .inr ?_;by_cases b:B z
   ·obtain⟨h1,h2⟩:=R.b z hz b;refine⟨a,h1,?_⟩;show SC nF (if B z then gS z else z) (if B (gS z) then gS (gS z) else gS z);rw[zM b,zL h2];exact .refl _ _
   ·obtain⟨h1,h2,h3⟩:=R.w z hz a b;refine⟨a,h1,?_⟩;show SC nF (if B z then gS z else z) (if B (gS z) then gS (gS z) else gS z);rw[zL b];by_cases c:B (gS z)
    ·rw[zM c];exact h2 c
    ·rw[zL c];exact h3 c) hx h
 rcases this with ⟨h1,_⟩|⟨_,_,h3⟩
 ·exact zzA h1 ax
 ·have e1:io x=x:=zL bx;have e2:io y=y:=zL byy;rwa [e1,e2]at h3
theorem y62(R:D3 N gS nF A B)(S:D3 N nF gS B A){a b:Nat}(ha:a<N/\A a)(hb:b<N/\B b)(hA:∀x,A x->SC gS a x)(hB:∀x,B x->SC nF b x){U:Nat->Prop}(u1:∀x,x<N->(U x↔U (gS x)))(u2:∀x,x<N->(U x↔U (nF x)))
  (hU:∀x y,A x\/B x->A y\/B y->(U x↔U y)) {l l':List Nat} (h:Tr N U (SC gS) l) (h':Tr N U (SC nF) l'):l.length=l'.length:=by
 have hE:=SC.eqv R.p;have bX:=SC.eqv R.q;have uu:∀x y,x<N->SC gS x y->(U x↔U y):=fun x y hx k=>Eb (E:=fun x y=>(U x↔U y)) R.p ⟨fun _ _=>Iff.rfl,fun _ _ _ _ h=>h.symm,fun _ _ _ _ _ _ h k=>h.trans k⟩ u1 hx k;have tn:∀x y,x<N->SC gS x y->(A x->A y):=fun x y hx k ax=>by
  obtain⟨n,rfl⟩:=k
  induction n with
  |zero=>exact ax
  |succ n ih=>exact R.a _ (R.p.bW hx n) ih
 have tm:∀x y,x<N->SC nF x y->(B x->B y):=fun x y hx k bx=>by
  obtain⟨n,rfl⟩:=k
  induction n with
  |zero=>exact bx
  |succ n ih=>exact S.a _ (R.q.bW hx n) ih
 by_cases rB:U a
 ·have GR:U b:=(hU a b (.inl ha.2) (.inr hb.2)).1 rB;obtain⟨lW,h1,h2⟩:=Tr.tM (U:=fun x=>U x/\ ¬A x) (W:=fun x=>¬B x) hE (fun x hx ⟨g1,g2⟩=>by
   by_cases c:B x
   ·obtain⟨k1,k2⟩:=R.b x hx c;exact⟨gS x,R.p.lt x hx,⟨(u1 x hx).1 g1,k1⟩,k2,.step _ _⟩
   ·exact⟨x,hx,⟨g1,g2⟩,c,.refl _ _⟩)
  have e1:Tr N U (SC gS) (lW++[a]):=by
   have t2:Tr N (fun x=>U x/\A x) (SC gS) [a]:=⟨fun x hx=>by rw[zP.1 hx];exact⟨ha.1,rB,ha.2⟩,by simp,fun x hx y hy _=>by rw[zP.1 hx,zP.1 hy],fun x hx ⟨_,g2⟩=>⟨a,by simp,(hA x g2).symm R.p ha.1⟩⟩;refine(h1.append t2 (fun x y hx hy g1 g2=>⟨fun k=>?_,fun k=>?_⟩) (fun x hx g1 g2=>g1.2 g2.2)).aZ (fun x hx=>?_) (fun _ _ _ _ _ _=>Iff.rfl)
   ·exact g1.2 (tn y x hy (k.symm R.p hx) g2.2)
   ·exact g1.2 (tn y x hy k g2.2)
   ·constructor
    ·rintro (g|g)<;>exact g.1
    ·intro g;by_cases c:A x
     ·exact .inr ⟨g,c⟩
     ·exact .inl ⟨g,c⟩
  have t1':Tr N (fun x=>U x/\ ¬B x) (SC nF) lW:=by
   refine⟨fun x hx=>⟨(h1.mem x hx).1,(h1.mem x hx).2.1,h2 x hx⟩,h1.nodup,fun x hx y hy k=>?_,fun x hx ⟨g1,g2⟩=>?_⟩
   ·exact h1.apart x hx y hy (S.le (h1.mem x hx).1 (h1.mem y hy).1 (h2 x hx) (h1.mem x hx).2.2 (h2 y hy) (h1.mem y hy).2.2 k)
   ·have key:∃y,y<N/\U y/\ ¬A y/\ ¬B y/\SC nF x y:=by
     by_cases c:A x
     ·obtain⟨k1,k2⟩:=S.b x hx c;exact⟨nF x,R.q.lt x hx,(u2 x hx).1 g1,k2,k1,.step _ _⟩
     ·exact⟨x,hx,g1,c,g2,.refl _ _⟩
    obtain⟨y,y1,y2,y3,y4,y5⟩:=key;obtain⟨z,z1,z2⟩:=h1.all y y1 ⟨y2,y3⟩;exact⟨z,z1,y5.trans (R.le y1 (h1.mem z z1).1 y3 y4 (h1.mem z z1).2.2 (h2 z z1) z2)⟩
  have e2:Tr N U (SC nF) (lW++[b]):=by
   have t2:Tr N (fun x=>U x/\B x) (SC nF) [b]:=⟨fun x hx=>by rw[zP.1 hx];exact⟨hb.1,GR,hb.2⟩,by simp,fun x hx y hy _=>by rw[zP.1 hx,zP.1 hy],fun x hx ⟨_,g2⟩=>⟨b,by simp,(hB x g2).symm R.q hb.1⟩⟩;refine(t1'.append t2 (fun x y hx hy g1 g2=>⟨fun k=>?_,fun k=>?_⟩) (fun x hx g1 g2=>g1.2 g2.2)).aZ (fun x hx=>?_) (fun _ _ _ _ _ _=>Iff.rfl)
   ·exact g1.2 (tm y x hy (k.symm R.q hx) g2.2)
   ·exact g1.2 (tm y x hy k g2.2)
   ·constructor
    ·rintro (g|g)<;>exact g.1
    ·intro g;by_cases c:B x
     ·exact .inr ⟨g,c⟩
     ·exact .inl ⟨g,c⟩
  have l1:=h.bd hE e1;have l2:=h'.bd bX e2;simp only[zG,List.length_singleton]at l1 l2;omega
 ·have hn:∀x,U x->¬A x/\ ¬B x:=fun x hx=>⟨fun c=>rB ((hU x a (.inl c) (.inl ha.2)).1 hx),fun c=>rB ((hU x a (.inr c) (.inl ha.2)).1 hx)⟩
  have:Tr N U (SC nF) l:=h.aZ (fun _ _=>Iff.rfl) fun x y hx hy ux uy=>⟨fun k=>R.le hx hy (hn x ux).1 (hn x ux).2 (hn y uy).1 (hn y uy).2 k,fun k=>S.le hx hy (hn x ux).2 (hn x ux).1 (hn y uy).2 (hn y uy).1 k⟩
  exact this.bd bX h'
end
end
section
variable{N:Nat}{si al aj:Nat->Nat}{h g H G:Nat->Nat}
theorem bE.link(T:bE N si al aj h g H G)(hs:bJ N si)(ha:bI N al){x:Nat}(hx:x<N):KK si al N x (aj x):=by
 have hE:=bH hs ha;have e1:∀k,KK si al N (h k) (G k):=fun k=>by rw[<-T.s1];exact cw hs ha (T.lt k).1
 have e2:∀k,KK si al N (G k) (H k):=fun k=>by rw[<-T.s2];exact cw hs ha (T.lt k).2.2.2
 have e3:∀k,KK si al N (H k) (g k):=fun k=>by rw[<-T.s3];exact cw hs ha (T.lt k).2.2.1
 have e4:∀k,KK si al N (h k) (g (k+1)):=fun k=>by rw[<-T.a1];exact bS hs ha (T.lt k).1
 have f1:∀k,KK si al N (h k) (G (k+1)):=fun k=>hE.trans _ _ _ (T.lt _).1 (T.lt _).2.1 (T.lt _).2.2.2 (e4 k) (hE.symm _ _ (T.lt _).2.2.2 (T.lt _).2.1 (hE.trans _ _ _ (T.lt _).2.2.2 (T.lt _).2.2.1 (T.lt _).2.1 (e2 _) (e3 _)))
 have f2:∀k,KK si al N (H k) (g (k+1)):=fun k=>hE.trans _ _ _ (T.lt _).2.2.1 (T.lt _).1 (T.lt _).2.1 (hE.symm _ _ (T.lt _).1 (T.lt _).2.2.1 (hE.trans _ _ _ (T.lt _).1 (T.lt _).2.2.2 (T.lt _).2.2.1 (e1 k) (e2 k))) (e4 k);rcases T.cases x with ⟨k,rfl⟩|⟨k,rfl⟩|⟨k,rfl⟩|⟨k,rfl⟩|fT
 ·rw[T.t1];exact f1 k
 ·rw[T.vj]
  have:=hE.symm _ _ (T.lt _).2.2.1 (T.lt _).2.1 (f2 (k+2))
  rwa [show k+2+1=k+3 from rfl,(T.fD k).2.1]at this
 ·rw[T.t3];exact f2 k
 ·rw[T.vk]
  have:=hE.symm _ _ (T.lt _).1 (T.lt _).2.2.2 (f1 (k+2))
  rwa [show k+2+1=k+3 from rfl,(T.fD k).2.2.2]at this
 ·rw[T.t0 x fT];exact hE.rfl' _ hx
theorem bE.Ah(T:bE N si al aj h g H G)(hs:bJ N si)(ha:bI N al){x:Nat}(hx:x<N):KK (fW si aj) al N x (aj x):=by
 have a7:=T.perm hs;have hE:=bH a7 ha;have e1:∀k,KK (fW si aj) al N (G k) (h (k+1)):=fun k=>by rw[<-T.rG];exact cw a7 ha (T.lt k).2.2.2
 have e2:∀k,KK (fW si aj) al N (h (k+1)) (g k):=fun k=>by
  have:=cw a7 ha (T.lt (k+1)).1
  rwa [T.rh,show k+1+2=k+3 from rfl,(T.fD k).2.1]at this
 have e3:∀k,KK (fW si aj) al N (g k) (H (k+1)):=fun k=>by rw[<-T.rg];exact cw a7 ha (T.lt k).2.1
 have e4:∀k,KK (fW si aj) al N (h k) (g (k+1)):=fun k=>by rw[<-T.a1];exact bS a7 ha (T.lt k).1
 have f1:∀k,KK (fW si aj) al N (h k) (G (k+1)):=fun k=>hE.trans _ _ _ (T.lt _).1 (T.lt _).2.1 (T.lt _).2.2.2 (e4 k) (hE.symm _ _ (T.lt _).2.2.2 (T.lt _).2.1 (hE.trans _ _ _ (T.lt _).2.2.2 (T.lt _).1 (T.lt _).2.1 (e1 _) (e2 _)))
 have f2:∀k,KK (fW si aj) al N (H (k+1)) (g (k+2)):=fun k=>hE.trans _ _ _ (T.lt _).2.2.1 (T.lt (k+1)).1 (T.lt _).2.1 (hE.symm _ _ (T.lt _).1 (T.lt _).2.2.1 (hE.trans _ _ _ (T.lt _).1 (T.lt _).2.1 (T.lt _).2.2.1 (e2 k) (e3 k))) (e4 (k+1));have Xo:∀k,KK (fW si aj) al N (H k) (g (k+1)):=fun k=>by
  have:=f2 (k+2)
  rwa [show k+2+1=k+3 from rfl,show k+2+2=k+1+3 from rfl,(T.fD k).2.2.1,(T.fD (k+1)).2.1]at this
 rcases T.cases x with ⟨k,rfl⟩|⟨k,rfl⟩|⟨k,rfl⟩|⟨k,rfl⟩|fT
 ·rw[T.t1];exact f1 k
 ·rw[T.vj]
  have:=hE.symm _ _ (T.lt _).2.2.1 (T.lt _).2.1 (Xo (k+2))
  rwa [show k+2+1=k+3 from rfl,(T.fD k).2.1]at this
 ·rw[T.t3];exact Xo k
 ·rw[T.vk]
  have:=hE.symm _ _ (T.lt _).1 (T.lt _).2.2.2 (f1 (k+2))
  rwa [show k+2+1=k+3 from rfl,(T.fD k).2.2.2]at this
 ·rw[T.t0 x fT];exact hE.rfl' _ hx
theorem bE.kE(T:bE N si al aj h g H G)(hs:bJ N si)(ha:bI N al){x y:Nat}(hx:x<N)(hy:y<N):KK si al N x y↔KK (fW si aj) al N x y:=by
 have a7:=T.perm hs;have hE:=bH hs ha;have bX:=bH a7 ha;constructor
 ·refine fun k=>bb hs ha bX (fun z hz=>?_) (fun z hz=>bS a7 ha hz) hx hy k;have e:si z=aj (fW si aj (aj z)):=by unfold fW;rw[T.tt,T.tt]
  rw[e];have z1:=T.iV hz;have z2:=a7.lt _ z1;exact bX.trans _ _ _ hz z1 (T.iV z2) (T.Ah hs ha hz) (bX.trans _ _ _ z1 z2 (T.iV z2) (cw a7 ha z1) (T.Ah hs ha z2))
 ·refine fun k=>bb a7 ha hE (fun z hz=>?_) (fun z hz=>bS hs ha hz) hx hy k;have z1:=T.iV hz;have z2:=hs.lt _ z1;exact hE.trans _ _ _ hz z1 (T.iV z2) (T.link hs ha hz) (hE.trans _ _ _ z1 z2 (T.iV z2) (cw hs ha z1) (T.link hs ha z2))
theorem bE.ret(T:bE N si al aj h g H G)(hs:bJ N si)(ha:bI N al):D3 N (aM si al N) (aM (fW si aj) al N) (fun x=>∃k,x=h k) (fun x=>∃k,x=g k) where
 p:=aN hs ha N (zA _)
 q:=aN (T.perm hs) ha N (zA _)
 ab x:=fun ⟨k,e⟩ ⟨j,f⟩=>(T.dis k j).1 (e▸f)
 a x hx:=fun ⟨k,e⟩=>⟨k+1,by subst e;rw[aX ha hx,T.a1,T.s4]⟩
 b x hx:=fun ⟨k,e⟩=>by
   subst e
   have:aM si al N (g k)=G (k+2):=by rw[aX ha hx,T.oF,T.s1]
   rw[this];exact⟨fun ⟨j,f⟩=>(T.dis j (k+2)).2.2.1 f.symm,fun ⟨j,f⟩=>(T.dis j (k+2)).2.2.2.2.1 f.symm⟩
 w x hx na nb:=by
   have tb:=ha.lt x hx;have e0:=aX (si:=si) ha hx;have e1:=aX (si:=fW si aj) ha hx;rcases T.cases (al x) with ⟨k,e⟩|⟨k,e⟩|⟨k,e⟩|⟨k,e⟩|h0
   ·exact zzA ⟨k+1,by rw[<-ha.inv x hx,e,T.a1]⟩ nb
   ·exact zzA ⟨k+2,by rw[<-ha.inv x hx,e,T.oF]⟩ na
   ·have f0:aM si al N x=g k:=by rw[e0,e,T.s3]
    have f1:aM (fW si aj) al N x=G (k+2):=by rw[e1,e,T.rH]
    have f2:aM si al N (g k)=G (k+2):=by rw[aX ha (T.lt k).2.1,T.oF,T.s1]
    rw[f0];refine⟨fun ⟨j,f⟩=>(T.dis j k).1 f.symm,fun _=>?_,fun c=>zzA ⟨k,rfl⟩ c⟩;rw[f2,<-f1];exact .step _ _
   ·have f0:aM si al N x=H k:=by rw[e0,e,T.s2]
    rw[f0];refine⟨fun ⟨j,f⟩=>(T.dis j k).2.1 f.symm,fun ⟨j,f⟩=>zzA f.symm (T.dis j k).2.2.2.1,fun _=>?_⟩
    ·exact⟨2,by
      show aM (fW si aj) al N (aM (fW si aj) al N x)=H k;rw[e1,e,T.rG,aX ha (T.lt _).1,T.a1,T.rg,show k+1+1+1=k+3 from rfl,(T.fD k).2.2.1]⟩
   ·obtain⟨r1,r2⟩:=T.r0 hs tb h0;rw[e0];refine⟨fun ⟨j,f⟩=>(r2 j).1 f,fun ⟨j,f⟩=>zzA f (r2 j).2.1,fun _=>?_⟩;rw[<-r1,<-e1];exact .step _ _
theorem bE.NS(T:bE N si al aj h g H G)(hs:bJ N si)(ha:bI N al):D3 N (aM (fW si aj) al N) (aM si al N) (fun x=>∃k,x=g k) (fun x=>∃k,x=h k) where
 p:=aN (T.perm hs) ha N (zA _)
 q:=aN hs ha N (zA _)
 ab x:=fun ⟨k,e⟩ ⟨j,f⟩=>(T.dis j k).1 (f▸e)
 a x hx:=fun ⟨k,e⟩=>⟨k+1,by subst e;rw[aX ha hx,T.oF,T.rh,show k+2+2=k+1+3 from rfl,(T.fD (k+1)).2.1]⟩
 b x hx:=fun ⟨k,e⟩=>by
   subst e
   have:aM (fW si aj) al N (h k)=H (k+2):=by rw[aX ha hx,T.a1,T.rg]
   rw[this];exact⟨fun ⟨j,f⟩=>(T.dis j (k+2)).2.2.2.1 f.symm,fun ⟨j,f⟩=>(T.dis j (k+2)).2.1 f.symm⟩
 w x hx nb na:=by
   have tb:=ha.lt x hx;have e0:=aX (si:=si) ha hx;have e1:=aX (si:=fW si aj) ha hx;rcases T.cases (al x) with ⟨k,e⟩|⟨k,e⟩|⟨k,e⟩|⟨k,e⟩|h0
   ·exact zzA ⟨k+1,by rw[<-ha.inv x hx,e,T.a1]⟩ nb
   ·exact zzA ⟨k+2,by rw[<-ha.inv x hx,e,T.oF]⟩ na
   ·have f1:aM (fW si aj) al N x=G (k+2):=by rw[e1,e,T.rH]
    rw[f1];refine⟨fun ⟨j,f⟩=>(T.dis j (k+2)).2.2.2.2.1 f.symm,fun ⟨j,f⟩=>zzA f.symm (T.dis j (k+2)).2.2.1,fun _=>?_⟩;exact⟨2,by
     show aM si al N (aM si al N x)=G (k+2);rw[e0,e,T.s3,aX ha (T.lt k).2.1,T.oF,T.s1]⟩
   ·have f1:aM (fW si aj) al N x=h (k+1):=by rw[e1,e,T.rG]
    have f2:aM (fW si aj) al N (h (k+1))=H k:=by rw[aX ha (T.lt _).1,T.a1,T.rg,show k+1+1+1=k+3 from rfl,(T.fD k).2.2.1]
    rw[f1];refine⟨fun ⟨j,f⟩=>(T.dis (k+1) j).1 f,fun _=>?_,fun c=>zzA ⟨k+1,rfl⟩ c⟩;rw[f2];have f3:aM si al N x=H k:=by rw[e0,e,T.s2]
    rw[<-f3];exact .step _ _
   ·obtain⟨r1,r2⟩:=T.r0 hs tb h0;rw[e1,r1];refine⟨fun ⟨j,f⟩=>(r2 j).2.1 f,fun ⟨j,f⟩=>zzA f (r2 j).1,fun _=>?_⟩;rw[<-e0];exact .step _ _
theorem bE.NM(T:bE N si al aj h g H G)(hS:cb N si al):cb N (fW si aj) al:=by
 have hs:=hS.perm;have ha:=hS.aW;have a7:=T.perm hs;refine⟨a7,ha,fun r hr lV lF hV hF=>?_⟩;obtain⟨FH,yR⟩:=Tr.exists (SC.eqv (aN hs ha N (zA _))) (KK si al N r);have hU:∀x,x<N->(KK (fW si aj) al N r x↔KK si al N r x):=fun x hx=>(T.kE hs ha hr hx).symm;have wH:Tr N (KK si al N r) (SC si) (lV.map aj):=by
  have hE:=bH hs ha;have ut:∀x,x<N->(KK si al N r x↔KK si al N r (aj x)):=fun x hx=>⟨fun k=>hE.trans _ _ _ hr hx (T.iV hx) k (T.link hs ha hx),fun k=>hE.trans _ _ _ hr (T.iV hx) hx k (hE.symm _ _ hx (T.iV hx) (T.link hs ha hx))⟩;refine⟨fun x hx=>?_,?_,fun x hx y hy e=>?_,fun x hx hU'=>?_⟩
  ·obtain⟨z,hz,rfl⟩:=zzE.1 hx;have hm:=hV.mem z hz;exact⟨T.iV hm.1,(ut z hm.1).1 ((hU z hm.1).1 hm.2)⟩
  ·rw[List.nodup_iff_pairwise_ne,List.pairwise_map];exact(List.nodup_iff_pairwise_ne.1 hV.nodup).imp fun {a b} aJ e=>aJ (by rw[<-T.tt a,e,T.tt b])
  ·obtain⟨z,hz,rfl⟩:=zzE.1 hx;obtain⟨u,hu,rfl⟩:=zzE.1 hy;exact congrArg aj (hV.apart z hz u hu ((Sf (f:=si) T.tt).2 e))
  ·have fT:=T.iV hx;obtain⟨y,hy,k⟩:=hV.all (aj x) fT ((hU _ fT).2 ((ut x hx).1 hU'));refine⟨aj y,zzE.2 ⟨y,hy,rfl⟩,?_⟩
   have:=(Sf (f:=si) T.tt).1 k
   rwa [T.tt]at this
 have wK:Tr N (KK si al N r) (SC (aM (fW si aj) al N)) lF:=hF.aZ hU fun _ _ _ _ _ _=>Iff.rfl;have h1:=hS.eq r hr _ _ wH yR;have pR:=T.ret hs ha;have pS:=T.NS hs ha;have hE:=bH hs ha;have DZ:∀x,x<N->∀y,y<N->KK si al N x y->(KK si al N r x↔KK si al N r y):=fun x hx y hy k=>⟨fun g=>hE.trans _ _ _ hr hx hy g k,fun g=>hE.trans _ _ _ hr hy hx g (hE.symm _ _ hx hy k)⟩
 have db:∀x,((∃k,x=h k)\/ ∃k,x=g k)->x<N/\KK si al N (h 0) x:=fun x hx=>by
  have st:∀k,KK si al N (h k) (h (k+1)):=fun k=>by
   have e1:=bS hs ha (T.lt k).1;rw[T.a1]at e1;have e2:=cw hs ha (T.lt (k+1)).2.1;rw[T.s4]at e2;exact hE.trans _ _ _ (T.lt _).1 (T.lt _).2.1 (T.lt _).1 e1 e2
  have all:∀k,KK si al N (h 0) (h k):=fun k=>by
   induction k with
   |zero=>exact hE.rfl' _ (T.lt 0).1
   |succ k ih=>exact hE.trans _ _ _ (T.lt _).1 (T.lt _).1 (T.lt _).1 ih (st k)
  rcases hx with ⟨k,rfl⟩|⟨k,rfl⟩
  ·exact⟨(T.lt k).1,all k⟩
  ·refine⟨(T.lt k).2.1,hE.trans _ _ _ (T.lt _).1 (T.lt _).1 (T.lt _).2.1 (all k) ?_⟩;have e2:=cw hs ha (T.lt k).2.1;rw[T.s4]at e2;exact hE.symm _ _ (T.lt _).2.1 (T.lt _).1 e2
 have h2:=y62 pR pS (a:=h 0) (b:=g 0) ⟨(T.lt 0).1,0,rfl⟩ ⟨(T.lt 0).2.1,0,rfl⟩ (fun x ⟨k,e⟩=>by
  subst e;refine⟨k,?_⟩
  induction k with
  |zero=>rfl
  |succ k ih=>show aM si al N (aS _ k _)=_;rw[ih ⟨k,rfl⟩,aX ha (T.lt k).1,T.a1,T.s4]) (fun x ⟨k,e⟩=>by
  subst e;refine⟨k,?_⟩
  induction k with
  |zero=>rfl
  |succ k ih=>show aM (fW si aj) al N (aS _ k _)=_;rw[ih ⟨k,rfl⟩,aX ha (T.lt k).2.1,T.oF,T.rh,show k+2+2=k+1+3 from rfl,(T.fD (k+1)).2.1])
  (U:=KK si al N r) (fun x hx=>DZ x hx _ (pR.p.lt x hx) (nV hs ha hx (.step _ _))) (fun x hx=>DZ x hx _ (pR.q.lt x hx) ((T.kE hs ha hx (pR.q.lt x hx)).2 (nV a7 ha hx (.step _ _))))
  (fun x y hx hy=>by
   obtain⟨x1,x2⟩:=db x hx;obtain⟨y1,y2⟩:=db y hy;exact DZ x x1 y y1 (hE.trans _ _ _ x1 (T.lt 0).1 y1 (hE.symm _ _ (T.lt 0).1 x1 x2) y2)) yR wK
 rw[List.length_map]at h1;rw[<-h2,h1];congr 1;exact xR fun x hx=>by rw[hU x hx]
theorem bE.qk(T:bE N si al aj h g H G)(hS:cb N si al):cb N si fun x=>aj (al (aj x)):=by
 have hs:=hS.perm;have ha:=hS.aW;refine(T.NM hS).tf (io:=aj) (fun x hx=>T.iV hx) (fun x y _ _ e=>by rw[<-T.tt x,e,T.tt y]) hs.lt (fun x hx=>T.iV (ha.lt _ (T.iV hx))) (fun x hx=>?_) (fun x hx=>?_)
 ·unfold fW;rw[T.tt]
 ·exact T.tt _
end
end Sp
theorem Ml{s m:List Int}{L:Int}(fM:s.length<=64)(hl:m.length=4*s.length)(l0:0<=L)(mj:L<=64)(se:vd s s.length)(mt:xd s m (4*s.length))(hS:Sp.cb (4*s.length) Sp.ai (Sp.ae m)):bG s m L=true:=by
 have hD:Sp.bm m s.length:=⟨⟨⟨hl,fun i hi=>⟨(mt i hi).1,(mt i hi).2.1⟩⟩,fun i hi=>(mt i hi).2.2.2.1⟩,fun i hi=>(mt i hi).2.2.1⟩;rw[Mt];unfold Ee;rw[zV];refine⟨?_,hD.qk.2 hS⟩;unfold xc;rw[decide_eq_true_iff];exact⟨fM,hl,l0,mj,se,mt⟩
namespace Hs
open Sp (cb ai bJ aS ae bE)
def oL(m:List Int)(n:Nat)(aj:Nat->Nat):List Int:=(List.range (4*n)).map fun x=>((aj (ae m (aj x)):Nat):Int)
theorem Se(m:List Int)(n:Nat)(aj:Nat->Nat):(oL m n aj).length=4*n:=by simp[oL]
theorem jz(m:List Int){n:Nat}(aj:Nat->Nat){x:Nat}(hx:x<4*n):(oL m n aj).getD x 0=((aj (ae m (aj x)):Nat):Int):=by
 unfold oL;rw[zB,zR,List.getElem?_range hx];rfl
theorem lT(m:List Int){n:Nat}(aj:Nat->Nat){x:Nat}(hx:x<4*n):ae (oL m n aj) x=aj (ae m (aj x)):=by
 unfold ae;rw[jz m aj hx,zD];rfl
theorem xN(x:Nat):Sp.af x=ai (ai x):=by unfold Sp.af ai;omega
theorem Ix{s:List Int}(hs:vd s s.length){x:Nat}(hx:x<4*s.length):aB s ((Sp.af x:Nat):Int)= !aB s (x:Int):=by
 obtain⟨a0,a1,a2,a3⟩:=ZZ s (x/4);have hc:x/4<s.length:=by omega
 have e:x=4*(x/4)\/x=4*(x/4)+1\/x=4*(x/4)+2\/x=4*(x/4)+3:=by omega
 generalize x/4=c at*;rcases e with e|e|e|e<;>subst e
 ·rw[show Sp.af (4*c)=4*c+2 by unfold Sp.af;omega,a2,a0];rfl
 ·rw[show Sp.af (4*c+1)=4*c+3 by unfold Sp.af;omega,a3,a1];rcases hs c hc with h|h<;>rw[h]<;>rfl
 ·rw[show Sp.af (4*c+2)=4*c by unfold Sp.af;omega,a2,a0];rfl
 ·rw[show Sp.af (4*c+3)=4*c+1 by unfold Sp.af;omega,a3,a1];rcases hs c hc with h|h<;>rw[h]<;>rfl
section
variable{s m:List Int}{L:Int}{aj h g H G:Nat->Nat}
theorem QG(T:bE (4*s.length) ai (ae m) aj h g H G)(k:Nat):Sp.af (h k)=H k/\Sp.af (g k)=G k/\Sp.af (H k)=h k/\Sp.af (G k)=g k:=by
 exact⟨by rw[xN,T.s1,T.s2],by rw[xN,T.s4,T.s1],by rw[xN,T.s3,T.s4],by rw[xN,T.s2,T.s3]⟩
theorem Sd(v:Ed s m L)(T:bE (4*s.length) ai (ae m) aj h g H G){x:Nat}(hx:x<4*s.length):aB s ((aj x:Nat):Int)=aB s (x:Int):=by
 have gh:∀k,aB s ((g (k+1):Nat):Int)= !aB s ((h k:Nat):Int):=fun k=>by
  have:=(sL v (T.lt k).1).2.2
  rw[T.a1]at this;exact this
 have hH:∀k,aB s ((H k:Nat):Int)= !aB s ((h k:Nat):Int):=fun k=>by
  rw[<-(QG T k).1,Ix v.sg (T.lt k).1]
 have gG:∀k,aB s ((G k:Nat):Int)= !aB s ((g k:Nat):Int):=fun k=>by
  rw[<-(QG T k).2.1,Ix v.sg (T.lt k).2.1]
 rcases T.cases x with ⟨k,rfl⟩|⟨k,rfl⟩|⟨k,rfl⟩|⟨k,rfl⟩|fT
 ·rw[T.t1,gG,gh,Bool.not_not]
 ·rw[T.vj,hH,<-gh,(T.fD k).2.1]
 ·rw[T.t3,gh,hH]
 ·rw[T.vk,gG,<-(T.fD k).2.1,gh,Bool.not_not]
 ·rw[T.t0 x fT]
theorem YE(hv:bG s m L=true)(T:bE (4*s.length) ai (ae m) aj h g H G):bG s (oL m s.length aj) L=true:=by
 have v:=gP hv;obtain⟨hd,gX⟩:=Sp.aE hv;have hS:=hd.qk.1 gX;have yO:=T.qk hS;have hm:∀x,x<4*s.length->aj (ae m (aj x))=ae (oL m s.length aj) x:=fun x hx=>(lT m aj hx).symm;refine Ml v.s64 (Se _ _ _) v.l0 v.mj v.sg (fun x hx=>?_) ?_
 ·have hl:=hS.aW.lt _ (T.iV hx);have e:=jz m aj hx;have e2:=jz m aj (T.iV hl);rw[e,zD,e2,T.tt,hS.aW.inv _ (T.iV hx),T.tt];have aJ:=yO.aW.ne x hx
  have:=T.iV hl
  refine⟨by omega,by omega,fun e=>aJ (by omega),rfl,?_⟩;rw[Sd v T hl,(sL v (T.iV hx)).2.2,Sd v T hx];cases aB s (x:Int)<;>simp
 ·refine yO.tf (io:=fun x=>x) (fun x hx=>hx) (fun x y _ _ e=>e) (Sp.aH _).lt (fun x hx=>?_) (fun x hx=>rfl) (fun x hx=>(lT m aj hx));rw[lT m aj hx];exact T.iV (hS.aW.lt _ (T.iV hx))
end
open Sp (cb ai bJ aS ae af)
theorem n8(x:Nat):af (af x)=x:=by unfold Sp.af;omega
theorem kr(x:Nat):af x/4=x/4:=by unfold Sp.af;omega
inductive TH(al P:Nat->Nat)(Q:Nat->Bool):Nat->Nat->Prop
 |stop {z:Nat} (h:Q (z/4)=false):TH al P Q z z
 |go {z v:Nat} (h:Q (z/4)=true) (k:TH al P Q (al (P z)) v):TH al P Q z v
theorem TH.gw{al P:Nat->Nat}{Q:Nat->Bool}{w v v':Nat}(h:TH al P Q w v)(h':TH al P Q w v'):v=v':=by
 induction h with
 |stop h1=>cases h' with
  |stop _=>rfl
  |go h2 _=>rw[h1]at h2;cases h2
 |go h1 _ ih=>cases h' with
  |stop h2=>rw[h1]at h2;cases h2
  |go _ k=>exact ih k
theorem TH.off{al P:Nat->Nat}{Q:Nat->Bool}{w v:Nat}(h:TH al P Q w v):Q (v/4)=false:=by
 induction h with
 |stop h=>exact h
 |go _ _ ih=>exact ih
def aR(c x:Nat):Nat:=if x/4<c then x else x+4
theorem rK(c x:Nat):aR c x/4=bo c (x/4):=by unfold aR bo;split<;>omega
theorem CO{c x y:Nat}(h:aR c x=aR c y):x=y:=by unfold aR at h;split at h<;>split at h<;>omega
section
variable{s m s' m':List Int}{L L':Int}
end
structure kj(m:List Int)(c p q:Nat):Prop where
 pc:p/4=c
 qc:q/4=c
 pq:ae m p=q
 ne:q≠p
 no:q≠af p
structure gy(m:List Int)(p1 p2 q1 q2:Nat):Prop where
 pp:p2/4=p1/4
 qq:q2/4=q1/4
 pq:p1/4≠q1/4
 a1:ae m p1=q1
 a2:ae m p2=q2
 pn:p2 % 2≠p1 % 2
 qn:q2 % 2≠q1 % 2
 par:p1 % 2=q1 % 2
section
variable{s m s' m':List Int}{L L':Int}
def Cv(m:List Int)(p1 p2 q1 q2:Nat):Nat:=(if ae m (af p1)=af q1 then 1 else 0)+(if ae m (af p2)=af q2 then 1 else 0)+(if (ae m (af p1)=af p2/\ae m (af q1)=af q2)\/(ae m (af p1)=af q2/\ae m (af q1)=af p2) then 1 else 0)
theorem QF{P R:Prop}[Decidable P][Decidable R](h:P↔R):(if P then 1 else 0:Nat)=if R then 1 else 0:=by
 by_cases g:P
 ·rw[zM g,zM (h.1 g)]
 ·rw[zL g,zL fun k=>g (h.2 k)]
end
open Sp (cb ai bJ aS ae af bI bm)
def cl(al:Nat->Nat)(a b x:Nat):Nat:=if al a=b then al x else if x=al a then al b else if x=al b then al a else al x
section
variable{N:Nat}{al P:Nat->Nat}{Q:Nat->Bool}
theorem Sc(ha:bI N al){a b:Nat}(la:a<N)(lb:b<N)(x:Nat):cl al a b x=cl al b a x:=by
 have i1:al a=b↔al b=a:=⟨fun e=>by rw[<-e,ha.inv a la],fun e=>by rw[<-e,ha.inv b lb]⟩;unfold cl;by_cases h:al a=b
 ·rw[zM h,zM (i1.1 h)]
 ·rw[zL h,zL fun g=>h (i1.2 g)];by_cases h1:x=al a
  ·by_cases h2:x=al b
   ·rw[zM h1,zM h2,<-h1,<-h2]
   ·rw[zM h1,zL h2,zM h1]
  ·rw[zL h1];by_cases h2:x=al b
   ·rw[zM h2,zM h2]
   ·rw[zL h2,zL h2,zL h1]
theorem D9{a b x:Nat}(h1:x≠al a)(h2:x≠al b):cl al a b x=al x:=by
 unfold cl;by_cases h:al a=b
 ·rw[zM h]
 ·rw[zL h,zL h1,zL h2]
structure xG(al P:Nat->Nat)(Q:Nat->Bool)(u w:Nat):Prop where
 f:∀v,TH al P Q (al w) v->TH al P Q u v
 b:∀v,TH al P Q (al u) v->TH al P Q w v
theorem xG.symm{u w:Nat}(M:xG al P Q u w):xG al P Q w u:=⟨M.b,M.f⟩
theorem Tv(ha:bI N al){u w:Nat}(hu:u<N)(hw:w<N)(qu:Q (u/4)=true)(qw:Q (w/4)=true)(M:xG al P Q u w)(kz:∀z,z<N->Q (z/4)=true->z=u\/z=w\/Q (al z/4)=true/\al z≠u/\al z≠w){y:Nat}(hy:y<N)(qy:Q (y/4)=false):TH al P Q (al y) (cl al u w y):=by
 have iv:=ha.inv;have ne:∀z,Q (z/4)=true->y≠z:=fun z hz e=>by rw[e,hz]at qy;cases qy
 have i1:∀a b,a<N->b<N->al a=b->al b=a:=fun a b la lb e=>by rw[<-e,iv a la]
 have key:∀u w,u<N->w<N->Q (u/4)=true->Q (w/4)=true->xG al P Q u w->(∀z,z<N->Q (z/4)=true->z=u\/z=w\/Q (al z/4)=true/\al z≠u/\al z≠w)->y=al u->TH al P Q (al y) (cl al u w y):=fun u w hu hw qu qw M kz h1=>by
  have hn:al u≠w:=fun e=>ne w qw (h1.trans e);unfold cl;rw[zL hn,zM h1,h1,iv u hu];refine M.f _ (.stop ?_);cases g:Q (al w/4) with
  |false=>rfl
  |true=>
   exfalso;rcases kz _ (ha.lt w hw) g with e|e|⟨_,_,e⟩
   ·exact hn (i1 _ _ hw hu e)
   ·exact ha.ne w hw e
   ·exact e (iv w hw)
 by_cases h1:y=al u
 ·exact key u w hu hw qu qw M kz h1
 by_cases h2:y=al w
 ·rw[Sc ha hu hw];exact key w u hw hu qw qu M.symm (fun z hz qz=>by
   rcases kz z hz qz with e|e|⟨e1,e2,e3⟩
   ·exact .inr (.inl e)
   ·exact .inl e
   ·exact .inr (.inr ⟨e1,e3,e2⟩)) h2
 have e:cl al u w y=al y:=D9 h1 h2;rw[e];refine .stop ?_;cases g:Q (al y/4) with
 |false=>rfl
 |true=>
  exfalso;rcases kz _ (ha.lt y hy) g with e|e|⟨e,_,_⟩
  ·exact h1 (i1 _ _ hy hu e).symm
  ·exact h2 (i1 _ _ hy hw e).symm
  ·rw[iv y hy]at e;rw[e]at qy;cases qy
structure mY(N:Nat)(al P:Nat->Nat)(Q:Nat->Bool)(u w u2 w2:Nat):Prop where
 lu:u<N
 lw:w<N
 lu2:u2<N
 lw2:w2<N
 qu:Q (u/4)=true
 qw:Q (w/4)=true
 qu2:Q (u2/4)=true
 qw2:Q (w2/4)=true
 d:u≠w/\u≠u2/\u≠w2/\w≠u2/\w≠w2/\u2≠w2
 M:xG al P Q u w
 M2:xG al P Q u2 w2
 kz:∀z,z<N->Q (z/4)=true->z=u\/z=w\/z=u2\/z=w2\/Q (al z/4)=true/\al z≠u/\al z≠w/\al z≠u2/\al z≠w2
theorem mY.G7{u w u2 w2:Nat}(h:mY N al P Q u w u2 w2):mY N al P Q w u u2 w2:=by
 obtain⟨h1,h2,h3,h4,h5,h6,h7,h8,⟨d1,d2,d3,d4,d5,d6⟩,AL,uT,DT⟩:=h;refine⟨h2,h1,h3,h4,h6,h5,h7,h8,⟨Ne.symm d1,d4,d5,d2,d3,d6⟩,AL.symm,uT,fun z hz qz=>?_⟩;rcases DT z hz qz with e|e|e|e|⟨e,e1,e2,e3,e4⟩
 ·exact .inr (.inl e)
 ·exact .inl e
 ·exact .inr (.inr (.inl e))
 ·exact .inr (.inr (.inr (.inl e)))
 ·exact .inr (.inr (.inr (.inr ⟨e,e2,e1,e3,e4⟩)))
theorem mY.G6{u w u2 w2:Nat}(h:mY N al P Q u w u2 w2):mY N al P Q u w w2 u2:=by
 obtain⟨h1,h2,h3,h4,h5,h6,h7,h8,⟨d1,d2,d3,d4,d5,d6⟩,AL,uT,DT⟩:=h;refine⟨h1,h2,h4,h3,h5,h6,h8,h7,⟨d1,d3,d2,d5,d4,Ne.symm d6⟩,AL,uT.symm,fun z hz qz=>?_⟩;rcases DT z hz qz with e|e|e|e|⟨e,e1,e2,e3,e4⟩
 ·exact .inl e
 ·exact .inr (.inl e)
 ·exact .inr (.inr (.inr (.inl e)))
 ·exact .inr (.inr (.inl e))
 ·exact .inr (.inr (.inr (.inr ⟨e,e1,e2,e4,e3⟩)))
theorem MQ(ha:bI N al){u w u2 w2:Nat}(h:mY N al P Q u w u2 w2){y:Nat}(hy:y<N)(qy:Q (y/4)=false):TH al P Q (al y) (cl (cl al u w) u2 w2 y):=by
 have iv:=ha.inv;have ne:∀z,Q (z/4)=true->y≠z:=fun z hz e=>by rw[e,hz]at qy;cases qy
 have i1:∀a b,a<N->al a=b->al b=a:=fun a b la e=>by rw[<-e,iv a la]
 have out:∀{u w u2 w2:Nat},mY N al P Q u w u2 w2->∀z,z<N->(z=u\/z=w\/z=u2\/z=w2)->Q (al z/4)=true->al z=u\/al z=w\/al z=u2\/al z=w2:=fun {u w u2 w2} h z hz ho g=>by
  rcases h.kz _ (ha.lt z hz) g with e|e|e|e|⟨_,e1,e2,e3,e4⟩
  ·exact .inl e
  ·exact .inr (.inl e)
  ·exact .inr (.inr (.inl e))
  ·exact .inr (.inr (.inr e))
  ·rw[iv z hz]at e1 e2 e3 e4;rcases ho with e|e|e|e
   ·exact zzA e e1
   ·exact zzA e e2
   ·exact zzA e e3
   ·exact zzA e e4
 have FM:∀{u w u2 w2:Nat},mY N al P Q u w u2 w2->y=al u->TH al P Q (al y) (cl (cl al u w) u2 w2 y):=fun {u w u2 w2} h h1=>by
  obtain⟨d1,d2,d3,d4,d5,d6⟩:=h.d;have hn:al u≠w:=fun e=>ne w h.qw (h1.trans e);have c1:cl al u w y=al w:=by unfold cl;rw[zL hn,zM h1]
  have yu:al y=u:=by rw[h1,iv u h.lu]
  have nz:∀z,z<N->z≠u->y≠al z:=fun z hz iE e=>iE (by rw[<-yu,e,iv z hz]);have start:∀v,TH al P Q (al w) v->TH al P Q (al y) v:=fun v k=>by rw[yu];exact h.M.f v k
  have AQ:cl al u w u2=if u2=al w then y else al u2:=by
   unfold cl;rw[zL hn,zL (by rw[<-h1];exact Ne.symm (ne _ h.qu2)),<-h1]
  have cw2:cl al u w w2=if w2=al w then y else al w2:=by
   unfold cl;rw[zL hn,zL (by rw[<-h1];exact Ne.symm (ne _ h.qw2)),<-h1]
  cases g:Q (al w/4) with
  |false=>
   have e1:u2≠al w:=fun e=>by rw[<-e,h.qu2]at g;cases g
   have e2:w2≠al w:=fun e=>by rw[<-e,h.qw2]at g;cases g
   rw[zL e1]at AQ;rw[zL e2]at cw2;have e3:cl (cl al u w) u2 w2 y=al w:=by
    show (if cl al u w u2=w2 then cl al u w y else if y=cl al u w u2 then cl al u w w2 else if y=cl al u w w2 then cl al u w u2 else cl al u w y)=_;rw[AQ,cw2,c1]
    split
    ·rfl
    ·rw[zL (nz u2 h.lu2 (Ne.symm d2)),zL (nz w2 h.lw2 (Ne.symm d3))]
   rw[e3];exact start _ (.stop g)
  |true=>
   rcases out h w h.lw (.inr (.inl rfl)) g with e|e|e|e
   ·exact zzA (i1 _ _ h.lw e) hn
   ·exact zzA e (ha.ne w h.lw)
   ·rw[zM e.symm]at AQ;rw[zL (by rw[e];exact Ne.symm d6)]at cw2;have e3:cl (cl al u w) u2 w2 y=al w2:=by
     show (if cl al u w u2=w2 then cl al u w y else if y=cl al u w u2 then cl al u w w2 else if y=cl al u w w2 then cl al u w u2 else cl al u w y)=_;rw[AQ,cw2,zL (ne _ h.qw2),zM rfl]
    rw[e3];refine start _ ?_;rw[e];refine h.M2.f _ (.stop ?_);cases g2:Q (al w2/4) with
    |false=>rfl
    |true=>
     exfalso;rcases out h w2 h.lw2 (.inr (.inr (.inr rfl))) g2 with k|k|k|k
     ·exact nz w2 h.lw2 (Ne.symm d3) (by have:=i1 _ _ h.lw2 k;exact zzA (h1.trans this) (ne _ h.qw2))
     ·have:=i1 _ _ h.lw2 k
      rw[e]at this;exact d6 this
     ·have:=i1 _ _ h.lw2 k
      have k2:=i1 _ _ h.lw e;rw[k2]at this;exact d5 this
     ·exact ha.ne w2 h.lw2 k
   ·rw[zL (by rw[e];exact d6)]at AQ;rw[zM e.symm]at cw2;have n3:al u2≠w2:=fun k=>by
     have:=i1 _ _ h.lu2 k
     have k2:=i1 _ _ h.lw e;rw[k2]at this;exact d4 this
    have e3:cl (cl al u w) u2 w2 y=al u2:=by
     show (if cl al u w u2=w2 then cl al u w y else if y=cl al u w u2 then cl al u w w2 else if y=cl al u w w2 then cl al u w u2 else cl al u w y)=_;rw[AQ,cw2,zL n3,zL (nz u2 h.lu2 (Ne.symm d2)),zM rfl]
    rw[e3];refine start _ ?_;rw[e];refine h.M2.b _ (.stop ?_);cases g2:Q (al u2/4) with
    |false=>rfl
    |true=>
     exfalso;rcases out h u2 h.lu2 (.inr (.inr (.inl rfl))) g2 with k|k|k|k
     ·have:=i1 _ _ h.lu2 k
      exact zzA (h1.trans this) (ne _ h.qu2)
     ·have:=i1 _ _ h.lu2 k
      rw[e]at this;exact d6 this.symm
     ·exact ha.ne u2 h.lu2 k
     ·exact n3 k
 have FL:∀{u w u2 w2:Nat},mY N al P Q u w u2 w2->y=al u2->TH al P Q (al y) (cl (cl al u w) u2 w2 y):=fun {u w u2 w2} h h1=>by
  obtain⟨d1,d2,d3,d4,d5,d6⟩:=h.d;have yu:al y=u2:=by rw[h1,iv u2 h.lu2]
  have nz:∀z,z<N->z≠u2->y≠al z:=fun z hz iE e=>iE (by rw[<-yu,e,iv z hz]);have start:∀v,TH al P Q (al w2) v->TH al P Q (al y) v:=fun v k=>by rw[yu];exact h.M2.f v k
  have nu:u2≠al u:=fun e=>by
   have:=i1 _ _ h.lu e.symm
   exact ne _ h.qu (h1.trans this)
  have nw:u2≠al w:=fun e=>by
   have:=i1 _ _ h.lw e.symm
   exact ne _ h.qw (h1.trans this)
  have AQ:cl al u w u2=y:=by rw[D9 nu nw,h1]
  have e3:cl (cl al u w) u2 w2 y=cl al u w w2:=by
   show (if cl al u w u2=w2 then cl al u w y else if y=cl al u w u2 then cl al u w w2 else if y=cl al u w w2 then cl al u w u2 else cl al u w y)=_;rw[AQ,zL (ne _ h.qw2),zM rfl]
  rw[e3];refine start _ ?_;have yw:y≠w2:=ne _ h.qw2;cases g:Q (al w2/4) with
  |false=>
   have e1:w2≠al u:=fun e=>by rw[e,iv u h.lu,h.qu]at g;cases g
   have e2:w2≠al w:=fun e=>by rw[e,iv w h.lw,h.qw]at g;cases g
   have:cl al u w w2=al w2:=D9 e1 e2
   rw[this];exact .stop g
  |true=>
   have off:∀z,z<N->(z=u\/z=w\/z=u2\/z=w2)->al z≠u->al z≠w->al z≠u2->al z≠w2->Q (al z/4)=false:=fun z hz ho a1 a2 a3 a4=>by
    cases g2:Q (al z/4) with
    |false=>rfl
    |true=>
     exfalso;rcases out h z hz ho g2 with k|k|k|k
     ·exact a1 k
     ·exact a2 k
     ·exact a3 k
     ·exact a4 k
   rcases out h w2 h.lw2 (.inr (.inr (.inr rfl))) g with e|e|e|e
   ·have e':=i1 _ _ h.lw2 e;have hn:al u≠w:=by rw[e'];exact Ne.symm d5
    have:cl al u w w2=al w:=by
     unfold cl;rw[zL hn,zM e'.symm]
    rw[this,e];refine h.M.f _ (.stop (off w h.lw (.inr (.inl rfl)) (fun k=>hn (i1 _ _ h.lw k)) (ha.ne w h.lw) (Ne.symm nw) fun k=>?_))
    have:=i1 _ _ h.lw k
    rw[e]at this;exact d1 this
   ·have e':=i1 _ _ h.lw2 e;have hn:al u≠w:=fun k=>by
     have:=i1 _ _ h.lu k
     rw[e']at this;exact d3 this.symm
    have:cl al u w w2=al u:=by
     unfold cl;rw[zL hn,zL fun k=>?_,zM e'.symm]
     have:=i1 _ _ h.lu k.symm
     rw[e]at this;exact d1 this.symm
    rw[this,e];refine h.M.b _ (.stop (off u h.lu (.inl rfl) (ha.ne u h.lu) hn (Ne.symm nu) fun k=>?_))
    have:=i1 _ _ h.lu k
    rw[e]at this;exact d1 this.symm
   ·have:=i1 _ _ h.lw2 e
    exact zzA (h1.trans this) yw
   ·exact zzA e (ha.ne w2 h.lw2)
 have c1:cl al u w=cl al w u:=funext fun x=>Sc ha h.lu h.lw x;have c2:cl (cl al u w) u2 w2 y=cl (cl al u w) w2 u2 y\/y≠al w2:=by
  by_cases e:y=al w2
  ·left;have xu:cl al u w w2=y:=by
    have nu:w2≠al u:=fun e'=>by
     have:=i1 _ _ h.lu e'.symm
     exact ne _ h.qu (e.trans this)
    have nw:w2≠al w:=fun e'=>by
     have:=i1 _ _ h.lw e'.symm
     exact ne _ h.qw (e.trans this)
    rw[D9 nu nw,e]
   show (if cl al u w u2=w2 then cl al u w y else if y=cl al u w u2 then cl al u w w2 else if y=cl al u w w2 then cl al u w u2 else cl al u w y)=(if cl al u w w2=u2 then cl al u w y else if y=cl al u w w2 then cl al u w u2 else if y=cl al u w u2 then cl al u w w2 else cl al u w y);rw[xu,zL (ne _ h.qu2),zM rfl,zM rfl];by_cases k:cl al u w u2=w2
   ·exfalso;unfold cl at k;have back:∀z,z<N->al z=w2->y=z:=fun z hz k=>by rw[e,<-k,iv z hz]
    split at k
    ·exact ne _ h.qu2 (back _ h.lu2 k)
    ·split at k
     ·exact ne _ h.qw (back _ h.lw k)
     ·split at k
      ·exact ne _ h.qu (back _ h.lu k)
      ·exact ne _ h.qu2 (back _ h.lu2 k)
   ·rw[zL k]
    split
    ·rename_i k2;rw[<-k2]
    ·rfl
  ·exact .inr e
 by_cases h1:y=al u
 ·exact FM h h1
 by_cases h2:y=al w
 ·rw[c1];exact FM h.G7 h2
 by_cases h3:y=al u2
 ·exact FL h h3
 by_cases h4:y=al w2
 ·rw[c2.resolve_right fun k=>k h4];exact FL h.G6 h4
 have b1:cl al u w y=al y:=D9 h1 h2;have b2:y≠cl al u w u2/\y≠cl al u w w2:=by
  unfold cl;refine⟨fun e=>?_,fun e=>?_⟩<;>(repeat' split at e)<;>first|exact h1 e|exact h2 e|exact h3 e|exact h4 e
 have b3:cl (cl al u w) u2 w2 y=al y:=by
  show (if cl al u w u2=w2 then cl al u w y else if y=cl al u w u2 then cl al u w w2 else if y=cl al u w w2 then cl al u w u2 else cl al u w y)=_;rw[zL b2.1,zL b2.2,b1]
  split<;>rfl
 rw[b3];refine .stop ?_;cases g:Q (al y/4) with
 |false=>rfl
 |true=>
  exfalso;rcases h.kz _ (ha.lt y hy) g with e|e|e|e|⟨e,_⟩
  ·exact h1 (i1 _ _ hy e).symm
  ·exact h2 (i1 _ _ hy e).symm
  ·exact h3 (i1 _ _ hy e).symm
  ·exact h4 (i1 _ _ hy e).symm
  ·rw[iv y hy]at e;rw[e]at qy;cases qy
end
def dC(b:Bool)(x:Nat):Nat:=x-x % 4+(x % 4+if decide (x % 2=1)=b then 1 else 3)% 4
theorem D8(b:Bool)(x:Nat):bV b (x:Int)=(dC b x:Nat):=by
 unfold bV dC;rw[u6,ur];by_cases h:x % 2=1
 ·have h':(x:Int)% 2=1:=by omega
  simp only[h,h',decide_true];cases b<;>simp<;>omega
 ·have h':¬(x:Int)% 2=1:=by omega
  simp only[h,h',decide_false];cases b<;>simp<;>omega
theorem A8(b:Bool)(x:Nat):dC b x/4=x/4:=by unfold dC;omega
theorem K3{x y:Nat}(h:y/4=x/4)(hp:y % 2≠x % 2):∃b,dC b x=y/\dC b y=x/\dC b (af x)=af y/\dC b (af y)=af x:=by
 by_cases g:y % 4=(x % 4+1)% 4
 ·refine⟨decide (x % 2=1),?_⟩;have e1:decide (y % 2=1)= !decide (x % 2=1):=by
   by_cases k:x % 2=1
   ·rw[decide_eq_true k,decide_eq_false (by omega)];rfl
   ·rw[decide_eq_false k,decide_eq_true (by omega)];rfl
  have e2:decide (af x % 2=1)=decide (x % 2=1):=by rw[show af x % 2=x % 2 by unfold Sp.af;omega]
  have e3:decide (af y % 2=1)= !decide (x % 2=1):=by rw[<-e1,show af y % 2=y % 2 by unfold Sp.af;omega]
  unfold dC;rw[e1,e2,e3,zM rfl,zL (by cases decide (x % 2=1)<;>simp)];unfold Sp.af;omega
 ·refine⟨!decide (x % 2=1),?_⟩;have e1:decide (y % 2=1)= !decide (x % 2=1):=by
   by_cases k:x % 2=1
   ·rw[decide_eq_true k,decide_eq_false (by omega)];rfl
   ·rw[decide_eq_false k,decide_eq_true (by omega)];rfl
  have e2:decide (af x % 2=1)=decide (x % 2=1):=by rw[show af x % 2=x % 2 by unfold Sp.af;omega]
  have e3:decide (af y % 2=1)= !decide (x % 2=1):=by rw[<-e1,show af y % 2=y % 2 by unfold Sp.af;omega]
  unfold dC;rw[e1,e2,e3,zM rfl,zL (by cases decide (x % 2=1)<;>simp)];unfold Sp.af;omega
section
variable{m:List Int}{n:Nat}
theorem QD(hd:bm m n){b:Bool}{c:Nat}(hc:c<n):∀(f z v:Nat),z<4*n->TH (ae m) (dC b) (fun i=>i==c) z v->fk m b c f z/4≠(c:Int)->fk m b c f z=v
 |0,z,v,hz,h,hn=>by
  have tP:¬z/4=c:=fun e=>hn (by show (z:Int)/4=c;omega);cases h with
  |stop _=>rfl
  |go g _=>exact zzA (by simpa using g) tP
 |f+1,z,v,hz,h,hn=>by
  by_cases e:z/4=c
  ·have e':(z:Int)/4=(c:Int):=by omega
   rw[LO e']at hn⊢;have hl:dC b z<4*n:=by have:=A8 b z;omega
   have ec:m.getD (bV b (z:Int)).toNat 0=(ae m (dC b z):Nat):=by
    rw[D8,zD,hd.cast hl]
   rw[ec]at hn⊢;cases h with
   |stop g=>exfalso;simp[e]at g
   |go _ k=>exact QD hd hc f _ v (hd.aW.lt _ hl) k hn
  ·have e':¬(z:Int)/4=(c:Int):=by omega
   rw[LN e'];cases h with
   |stop _=>rfl
   |go g _=>exact zzA (by simpa using g) e
theorem U1(hd:bm m n){b:Bool}{c:Nat}(hc:c<n){x v:Nat}(hx:x<4*(n-1))(h:TH (ae m) (dC b) (fun i=>i==c) (ae m (aR c x)) v):aR c (ae (ks (kc m b c (4*n)) c n) x)=v:=by
 obtain⟨wl,wg⟩:=Sp.oJ (E:=kc m b c (4*n)) (c:=c) n;rw[zM hc]at wl wg;have hy:aR c x<4*n:=by unfold aR;split<;>omega
 have xt:aR c x/4≠c:=by rw[rK];exact zd _ _
 have g1:=wg x hx;have dw:=hd.prd.ok.1;have g2:(kc m b c (4*n)).getD (aR c x) 0=fk m b c 5 (m.getD (aR c x) 0):=Sp.xZ xt _ (by omega) hy;have dV:=Ms (b:=b) hd.prd hc hy xt;rw[<-hd.cast hy]at g2 dV;have g3:=QD hd hc 5 _ v (hd.aW.lt _ hy) h dV;rw[g3]at g2 dV;have g4:(ks (kc m b c (4*n)) c n).getD x 0=if (c:Int)<(v:Int)/4 then (v:Int)-4 else v:=by
  rw[g1];unfold q7
  have:(if x/4<c then x else x+4)=aR c x:=rfl
  rw[this,g2]
 unfold Sp.ae;rw[g4];unfold aR
 split<;>split<;>omega
theorem Lk{N:Nat}{al al':Nat->Nat}(h:cb N ai al)(e:∀x,x<N->al' x=al x):cb N ai al':=
 h.tf (io:=fun x=>x) (fun x hx=>hx) (fun x y _ _ e=>e) h.perm.lt (fun x hx=>by rw[e x hx];exact h.aW.lt x hx) (fun x hx=>rfl) e
theorem ZC(hd:bm m n)(hS:cb (4*n) ai (ae m)){c:Nat}(hc:c<n)(b:Bool){al':Nat->Nat}(h:∀x,x<4*(n-1)->TH (ae m) (dC b) (fun i=>i==c) (ae m (aR c x)) (aR c (al' x))):cb (4*(n-1)) ai al':=by
 obtain⟨h1,h2⟩:=Sp.iW (b:=b) hd hc (hd.qk.2 hS);exact Lk (h1.qk.1 h2) fun x hx=>(CO (U1 hd hc hx (h x hx))).symm
end
section
variable{m:List Int}{n:Nat}
theorem QC(hd:bm m n){b:Bool}{c:Nat}(hc:c<n):∀(f z:Nat),z<4*n->fk m b c f z/4≠(c:Int)->∃v,TH (ae m) (dC b) (fun i=>i==c) z v
 |0,z,hz,hn=>⟨z,.stop (by
  have tP:¬z/4=c:=fun e=>hn (by show (z:Int)/4=c;omega);simpa using tP)⟩
 |f+1,z,hz,hn=>by
  by_cases e:z/4=c
  ·have e':(z:Int)/4=(c:Int):=by omega
   rw[LO e']at hn;have hl:dC b z<4*n:=by have:=A8 b z;omega
   have ec:m.getD (bV b (z:Int)).toNat 0=(ae m (dC b z):Nat):=by
    rw[D8,zD,hd.cast hl]
   rw[ec]at hn;obtain⟨v,hv⟩:=QC hd hc f _ (hd.aW.lt _ hl) hn;exact⟨v,.go (by simpa using e) hv⟩
  ·exact⟨z,.stop (by simpa using e)⟩
theorem QB(hd:bm m n){b:Bool}{c:Nat}(hc:c<n){x:Nat}(hx:x<4*(n-1)):TH (ae m) (dC b) (fun i=>i==c) (ae m (aR c x)) (aR c (ae (ks (kc m b c (4*n)) c n) x)):=by
 have hy:aR c x<4*n:=by unfold aR;split<;>omega
 have xt:aR c x/4≠c:=by rw[rK];exact zd _ _
 have dV:=Ms (b:=b) hd.prd hc hy xt;rw[<-hd.cast hy]at dV;obtain⟨v,hv⟩:=QC hd hc 5 _ (hd.aW.lt _ hy) dV;rw[U1 hd hc hx hv];exact hv
theorem QA{al P P2:Nat->Nat}{Q Q2:Nat->Bool}(hP:∀z,Q (z/4)=true->Q2 (z/4)=true/\P2 z=P z){z u v:Nat}(h:TH al P Q z u)(k:TH al P2 Q2 u v):TH al P2 Q2 z v:=by
 induction h with
 |stop _=>exact k
 | @go z u h1 _ ih=>
   obtain⟨g1,g2⟩:=hP z h1;refine .go g1 ?_;rw[g2];exact ih k
theorem ZB{N1:Nat}{al al1 Phi Plo P2:Nat->Nat}{lo hi:Nat}(jK:lo<hi)(gJ:hi<=N1)(h1:∀x,x<4*N1->TH al Phi (fun i=>i==hi) (al (aR hi x)) (aR hi (al1 x)))(l1:∀x,x<4*N1->al1 x<4*N1)(AH:∀z,z/4=hi->P2 z=Phi z)(xB:∀z,z/4=lo->P2 z=Plo z/\Plo z/4=lo):
  ∀{w v:Nat},TH al1 Plo (fun i=>i==lo) w v->w<4*N1->TH al P2 (Q2 lo hi) (aR hi w) (aR hi v):=fun {w v} h=>by
 induction h with
 | @stop w h=>
   intro _;refine .stop ?_;have g1:aR hi w/4≠hi:=by rw[rK];exact zd _ _
   have g2:¬w/4=lo:=by simpa using h
   have g3:aR hi w/4≠lo:=by
    rw[rK];unfold bo
    split<;>omega
   simp[Q2,g1,g3]
 | @go w v h _ ih=>
   intro hw;have g2:w/4=lo:=by simpa using h
   obtain⟨p1,p2⟩:=xB w g2;have e1:aR hi w=w:=zM (by omega);have e2:aR hi (Plo w)=Plo w:=zM (by omega);have hl:Plo w<4*N1:=by omega
   rw[e1];refine .go (by simp[Q2,g2]) ?_;rw[p1];have k:=h1 _ hl;rw[e2]at k;exact QA (fun z hz=>by
    have g:z/4=hi:=by simpa using hz
    exact⟨by simp[Q2,g],AH z g⟩) k (ih (l1 _ hl))
theorem gy.at{p1 p2 q1 q2:Nat}(h:gy m p1 p2 q1 q2){z:Nat}(hz:z/4=p1/4):z=p1\/z=p2\/z=af p1\/z=af p2:=by
 have:=h.pp
 have:=h.pn
 unfold Sp.af;omega
theorem gy.Dk{p1 p2 q1 q2:Nat}(h:gy m p1 p2 q1 q2):af p1≠af q1/\af p1≠af p2/\af p1≠af q2/\af q1≠af p2/\af q1≠af q2/\af p2≠af q2:=by
 have e1:=h.pp;have e2:=h.qq;have e3:=h.pq;have e4:=h.pn;have e5:=h.qn;have inj:∀x y,x≠y->af x≠af y:=fun x y hn e=>hn (by rw[<-n8 x,e,n8]);refine⟨inj _ _ ?_,inj _ _ ?_,inj _ _ ?_,inj _ _ ?_,inj _ _ ?_,inj _ _ ?_⟩<;>intro e<;>subst e
 ·exact e3 rfl
 ·exact e4 rfl
 ·exact e3 e2
 ·exact e3 e1.symm
 ·exact e5 rfl
 ·exact e3 (e1.symm.trans e2)
theorem gy.oY{p1 p2 q1 q2:Nat}(h:gy m p1 p2 q1 q2){w:Nat}(hw:w=p1\/w=p2\/w=q1\/w=q2):w≠af p1/\w≠af q1/\w≠af p2/\w≠af q2:=by
 have e1:=h.pp;have e2:=h.qq;have e3:=h.pq;have e4:=h.pn;have e5:=h.qn;have dv:∀x y,x/4≠y/4->x≠af y:=fun x y hn e=>hn (by rw[e,kr]);have md:∀x y,x % 2≠y % 2->x≠af y:=fun x y hn e=>hn (by rw[e];unfold Sp.af;omega);have sf:∀x,x≠af x:=fun x=>by unfold Sp.af;omega
 rcases hw with e|e|e|e<;>subst e
 ·exact⟨sf _,dv _ _ e3,md _ _ (Ne.symm e4),dv _ _ (by rw[e2];exact e3)⟩
 ·exact⟨md _ _ e4,dv _ _ (by rw[e1];exact e3),sf _,dv _ _ (by rw[e1,e2];exact e3)⟩
 ·exact⟨dv _ _ (Ne.symm e3),sf _,dv _ _ (by rw[e1];exact Ne.symm e3),md _ _ (Ne.symm e5)⟩
 ·exact⟨dv _ _ (by rw[e2];exact Ne.symm e3),md _ _ e5,dv _ _ (by rw[e1,e2];exact Ne.symm e3),sf _⟩
theorem aG{x n:Nat}(h:x<4*n):af x<4*n:=by have:=kr x;omega
theorem gy.xj{p1 p2 q1 q2 lo hi:Nat}(hd:bm m n)(hp:p1<4*n)(h:gy m p1 p2 q1 q2)(dS:(p1/4=lo/\q1/4=hi)\/(p1/4=hi/\q1/4=lo)){P:Nat->Nat}
  (hP:(P (af p1)=p1/\P (af p2)=p2/\P (af q1)=q1/\P (af q2)=q2/\P p1=af p1/\P p2=af p2/\P q1=af q1/\P q2=af q2)\/(P (af p1)=p2/\P (af p2)=p1/\P (af q1)=q2/\P (af q2)=q1/\P p1=af p2/\P p2=af p1/\P q1=af q2/\P q2=af q1)):
  mY (4*n) (ae m) P (Q2 lo hi) (af p1) (af q1) (af p2) (af q2):=by
 have ha:=hd.aW;have l3:q1<4*n:=by rw[<-h.a1];exact ha.lt _ hp
 have l2:p2<4*n:=by have:=h.pp;omega
 have l4:q2<4*n:=by have:=h.qq;omega
 have b1:ae m q1=p1:=by rw[<-h.a1,ha.inv _ hp]
 have b2:ae m q2=p2:=by rw[<-h.a2,ha.inv _ l2]
 have qp:∀z,z/4=p1/4->Q2 lo hi (z/4)=true:=fun z hz=>by
  rw[hz];rcases dS with ⟨e,_⟩|⟨e,_⟩<;>rw[e]<;>simp[Q2]
 have qq:∀z,z/4=q1/4->Q2 lo hi (z/4)=true:=fun z hz=>by
  rw[hz];rcases dS with ⟨_,e⟩|⟨_,e⟩<;>rw[e]<;>simp[Q2]
 have k1:=kr p1;have k2:=kr p2;have k3:=kr q1;have k4:=kr q2;have e1:=h.pp;have e2:=h.qq;have two:∀{x y z v:Nat},Q2 lo hi (x/4)=true->Q2 lo hi (z/4)=true->ae m (P x)=z->ae m (P z)=y->TH (ae m) P (Q2 lo hi) y v->TH (ae m) P (Q2 lo hi) x v:=fun {x y z v} hx hz g1 g2 k=>by
  refine .go hx ?_;rw[g1];refine .go hz ?_;rw[g2];exact k
 have N5:=qp (af p1) k1;have N4:=qp (af p2) (k2.trans e1);have NZ:=qq (af q1) k3;have NY:=qq (af q2) (k4.trans e2);have NX:=qp p1 rfl;have NW:=qp p2 e1;have NV:=qq q1 rfl;have NU:=qq q2 e2;refine⟨aG hp,aG l3,aG l2,aG l4,N5,NZ,N4,NY,h.Dk,?_,?_,fun z hz hq=>?_⟩
 ·rcases hP with ⟨P1,P2,P3,P4,P5,P6,P7,P8⟩|⟨P1,P2,P3,P4,P5,P6,P7,P8⟩
  ·exact⟨fun v k=>two N5 NV (by rw[P1,h.a1]) (by rw[P7]) k,fun v k=>two NZ NX (by rw[P3,b1]) (by rw[P5]) k⟩
  ·exact⟨fun v k=>two N5 NU (by rw[P1,h.a2]) (by rw[P8]) k,fun v k=>two NZ NW (by rw[P3,b2]) (by rw[P6]) k⟩
 ·rcases hP with ⟨P1,P2,P3,P4,P5,P6,P7,P8⟩|⟨P1,P2,P3,P4,P5,P6,P7,P8⟩
  ·exact⟨fun v k=>two N4 NU (by rw[P2,h.a2]) (by rw[P8]) k,fun v k=>two NY NW (by rw[P4,b2]) (by rw[P6]) k⟩
  ·exact⟨fun v k=>two N4 NV (by rw[P2,h.a1]) (by rw[P7]) k,fun v k=>two NY NX (by rw[P4,b1]) (by rw[P5]) k⟩
 ·clear hP two;have iE:z/4=p1/4\/z/4=q1/4:=by
   simp only[Q2,Bool.or_eq_true,beq_iff_eq]at hq;rcases dS with ⟨g1,g2⟩|⟨g1,g2⟩
   ·rw[g1,g2];exact hq
   ·rw[g1,g2];exact hq.symm
  rcases iE with g|g
  ·rcases h.at g with e|e|e|e
   ·rw[e,h.a1];exact .inr (.inr (.inr (.inr ⟨NV,h.oY (.inr (.inr (.inl rfl)))⟩)))
   ·rw[e,h.a2];exact .inr (.inr (.inr (.inr ⟨NU,h.oY (.inr (.inr (.inr rfl)))⟩)))
   ·exact .inl e
   ·exact .inr (.inr (.inl e))
  ·have hq:z=q1\/z=q2\/z=af q1\/z=af q2:=by
    have:=h.qn
    clear dS hq h;unfold Sp.af;omega
   rcases hq with e|e|e|e
   ·rw[e,b1];exact .inr (.inr (.inr (.inr ⟨NX,h.oY (.inl rfl)⟩)))
   ·rw[e,b2];exact .inr (.inr (.inr (.inr ⟨NW,h.oY (.inr (.inl rfl))⟩)))
   ·exact .inr (.inl e)
   ·exact .inr (.inr (.inr (.inl e)))
theorem y3a(hd:bm m n)(hS:cb (4*n) ai (ae m)){lo hi p1 p2 q1 q2:Nat}(jK:lo<hi)(gJ:hi<n)(K:gy m p1 p2 q1 q2)(dS:(p1/4=lo/\q1/4=hi)\/(p1/4=hi/\q1/4=lo)){al':Nat->Nat}
  (h:∀x,x<4*(n-2)->aR hi (aR lo (al' x))=cl (cl (ae m) (af p1) (af q1)) (af p2) (af q2) (aR hi (aR lo x))):cb (4*(n-2)) ai al':=by
 have hp:p1<4*n:=by rcases dS with g|g<;>omega
 obtain⟨bp,c1,c2,c3,c4⟩:=K3 (x:=af p1) (y:=p2) (by rw[kr];exact K.pp) (by rw[show af p1 % 2=p1 % 2 by unfold Sp.af;omega];exact K.pn);obtain⟨bq,d1,d2,d3,d4⟩:=K3 (x:=af q1) (y:=q2) (by rw[kr];exact K.qq) (by rw[show af q1 % 2=q1 % 2 by unfold Sp.af;omega];exact K.qn);rw[n8]at c3 c4 d3 d4;obtain⟨P,Xa⟩:∃P:Nat->Nat,P=fun z=>if z/4=p1/4 then dC bp z else dC bq z:=⟨_,rfl⟩
 have Pp:∀z,z/4=p1/4->P z=dC bp z:=fun z hz=>by rw[Xa];exact zM hz
 have Pq:∀z,z/4=q1/4->P z=dC bq z:=fun z hz=>by rw[Xa];exact zL (by rw[hz];exact Ne.symm K.pq)
 have W:=K.xj (P:=P) hd hp dS (.inr ⟨by rw[Pp _ (kr _),c1],by rw[Pp _ ((kr _).trans K.pp),c4],by rw[Pq _ (kr _),d1],by rw[Pq _ ((kr _).trans K.qq),d4],by rw[Pp _ rfl,c3],by rw[Pp _ K.pp,c2],by rw[Pq _ rfl,d3],by rw[Pq _ K.qq,d2]⟩);obtain⟨bh,bl,hh,hl⟩:∃bh bl,(∀z,z/4=hi->P z=dC bh z)/\ ∀z,z/4=lo->P z=dC bl z:=by
  rcases dS with ⟨e1,e2⟩|⟨e1,e2⟩
  ·exact⟨bq,bp,fun z hz=>Pq z (hz.trans e2.symm),fun z hz=>Pp z (hz.trans e1.symm)⟩
  ·exact⟨bp,bq,fun z hz=>Pp z (hz.trans e1.symm),fun z hz=>Pq z (hz.trans e2.symm)⟩
 obtain⟨dW,sV⟩:=Sp.iW (b:=bh) hd gJ (hd.qk.2 hS);obtain⟨m1,s6⟩:∃m1,m1=ks (kc m bh hi (4*n)) hi n:=⟨_,rfl⟩;have t1:∀x,x<4*(n-1)->TH (ae m) (dC bh) (fun i=>i==hi) (ae m (aR hi x)) (aR hi (ae m1 x)):=fun x hx=>by rw[s6];exact QB hd gJ hx
 rw[<-s6]at dW sV;have sr:lo<n-1:=by omega
 obtain⟨im,jI⟩:=Sp.iW (b:=bl) dW sr sV;obtain⟨m2,J8⟩:∃m2,m2=ks (kc m1 bl lo (4*(n-1))) lo (n-1):=⟨_,rfl⟩;have t2:∀x,x<4*(n-1-1)->TH (ae m1) (dC bl) (fun i=>i==lo) (ae m1 (aR lo x)) (aR lo (ae m2 x)):=fun x hx=>by rw[J8];exact QB dW sr hx
 rw[<-J8]at im jI;have e12:n-1-1=n-2:=by omega
 rw[e12]at im jI t2;refine Lk (im.qk.1 jI) fun x hx=>?_;have vK:aR lo x<4*(n-1):=by unfold aR;split<;>omega
 have kf:aR hi (aR lo x)<4*n:=by unfold aR;split<;>split<;>omega
 have a1:=ZB (al:=ae m) (al1:=ae m1) (Phi:=dC bh) (Plo:=dC bl) (P2:=P) jK (by omega) t1 dW.aW.lt hh (fun z hz=>⟨hl z hz,by rw[A8];exact hz⟩) (t2 x hx) (dW.aW.lt _ vK);have a2:=QA (P2:=P) (Q2:=Q2 lo hi) (fun z hz=>by
  have g:z/4=hi:=by simpa using hz
  exact⟨by simp[Q2,g],hh z g⟩) (t1 _ vK) a1
 have off:Q2 lo hi (aR hi (aR lo x)/4)=false:=by
  have g1:aR hi (aR lo x)/4≠hi:=by rw[rK];exact zd _ _
  have g2:aR hi (aR lo x)/4≠lo:=by unfold aR;split<;>split<;>omega
  simp[Q2,g1,g2]
 have a3:=MQ hd.aW W kf off
 have:=a3.gw a2
 rw[<-h x hx]at this;exact CO (CO this)
end
end Hs
def aY(m:List Int)(a b:Int):List Int:=(m.set a.toNat b).set b.toNat a
def bB(m:List Int)(a b:Nat):List Int:=if m.getD a 0=b then m else aY m (m.getD a 0) (m.getD b 0)
def bY(gone:List Int)(h:Int):Int:=h-4*((gone.countP fun c=>decide (c<h/4):Nat):Int)
def fC(s:List Int)(g:Nat->Bool):Nat->List Int
 |0=>[]
 |k+1=>if g k then fC s g k else fC s g k++[s.getD k 0]
def dI(m:List Int)(g:Nat->Bool)(f:Int->Int):Nat->List Int
 |0=>[]
 |k+1=>if g k then dI m g f k else dI m g f k++[f (m.getD (4*k) 0),f (m.getD (4*k+1) 0),f (m.getD (4*k+2) 0),f (m.getD (4*k+3) 0)]
namespace Hs
open Sp (cb ai bJ aS ae af bI bm)
theorem ba(m:List Int)(a b:Int):(aY m a b).length=m.length:=by simp[aY]
theorem xb{m:List Int}{a b:Nat}(ha:a<m.length)(hb:b<m.length)(x:Nat):(aY m a b).getD x 0=if x=b then (a:Int) else if x=a then (b:Int) else m.getD x 0:=by
 unfold aY;rw[zD,zD];have s9:b<(m.set a (b:Int)).length:=by rw[zzF];exact hb
 rw[zB,List.getElem?_set];by_cases h:b=x
 ·rw[zM h,zM s9,zM h.symm];rfl
 ·rw[zL h,zL (Ne.symm h),List.getElem?_set];by_cases h2:a=x
  ·rw[zM h2,zM ha,zM h2.symm];rfl
  ·rw[zL h2,zL (Ne.symm h2),<-zB]
theorem jR(m:List Int)(a b:Nat):(bB m a b).length=m.length:=by unfold bB;split<;>simp[ba]
def y6(m:List Int)(n:Nat):Prop:=m.length=4*n/\ ∀x,x<4*n->((ae m x:Nat):Int)=m.getD x 0/\ae m x<4*n
theorem vA{m:List Int}{n:Nat}(hd:bm m n):y6 m n:=⟨hd.prd.ok.1,fun x hx=>⟨hd.cast hx,hd.aW.lt x hx⟩⟩
theorem jk{m:List Int}{n:Nat}(h:y6 m n){a b:Nat}(ha:a<4*n)(hb:b<4*n){x:Nat}(hx:x<4*n)(inj:ae m a=ae m b->a=b)(gL:a≠b):ae (bB m a b) x=cl (ae m) a b x/\((ae (bB m a b) x:Nat):Int)=(bB m a b).getD x 0/\ae (bB m a b) x<4*n:=by
 obtain⟨a1,a2⟩:=h.2 a ha;obtain⟨b1,b2⟩:=h.2 b hb;obtain⟨x1,x2⟩:=h.2 x hx;have e:(bB m a b).getD x 0=(cl (ae m) a b x:Nat)/\cl (ae m) a b x<4*n:=by
  unfold bB cl;by_cases g:ae m a=b
  ·rw[zM (by rw[<-a1,g]),zM g];exact⟨x1.symm,x2⟩
  ·rw[zL (by rw[<-a1];omega),zL g,<-a1,<-b1,xb (by rw[h.1];exact a2) (by rw[h.1];exact b2)];by_cases h1:x=ae m a
   ·have h2:x≠ae m b:=fun e=>gL (inj (h1.symm.trans e));rw[zL h2,zM h1,zM h1];exact⟨rfl,b2⟩
   ·rw[zL h1,zL h1];by_cases h2:x=ae m b
    ·rw[zM h2,zM h2];exact⟨rfl,a2⟩
    ·rw[zL h2,zL h2];exact⟨x1.symm,x2⟩
 have e2:ae (bB m a b) x=cl (ae m) a b x:=by
  unfold Sp.ae at e⊢;rw[e.1,zD]
 exact⟨e2,by rw[e2,e.1],by rw[e2];exact e.2⟩
theorem LF{s:List Int}{g:Nat->Bool}{U:Nat->Nat}{r:Nat->Nat}(hr:∀k,r (k+1)=if g k then r k else r k+1)(h0:r 0=0)(hU:∀k,g k=false->U (r k)=k):∀k,(fC s g k).length=r k/\ ∀i,i<r k->(fC s g k).getD i 0=s.getD (U i) 0
 |0=>⟨h0.symm,fun i hi=>by omega⟩
 |k+1=>by
  obtain⟨h1,h2⟩:=LF (s:=s) hr h0 hU k;rw[hr k];unfold fC;cases hg:g k with
  |true=>exact⟨h1,h2⟩
  |false=>
   refine⟨by show (fC s g k++[s.getD k 0]).length=r k+1;rw[zG,h1];rfl,fun i hi=>?_⟩;have uM:i<r k+1:=hi;show (fC s g k++[s.getD k 0]).getD i 0=_;by_cases h:i<r k
   ·rw[Sp.bR _ _ _ (by rw[h1];exact h)];exact h2 i h
   ·rw[Sp.cL _ _ _ (by omega),h1,show i-r k=0 by omega,show i=r k by omega,hU k hg];rfl
theorem LD{m:List Int}{g:Nat->Bool}{f:Int->Int}{U:Nat->Nat}{r:Nat->Nat}(hr:∀k,r (k+1)=if g k then r k else r k+1)(h0:r 0=0)(hU:∀k,g k=false->U (r k)=k):∀k,(dI m g f k).length=4*r k/\ ∀x,x<4*r k->(dI m g f k).getD x 0=f (m.getD (4*U (x/4)+x % 4) 0)
 |0=>⟨by rw[h0];rfl,fun x hx=>by omega⟩
 |k+1=>by
  obtain⟨h1,h2⟩:=LD (m:=m) (f:=f) hr h0 hU k;rw[hr k];unfold dI;cases hg:g k with
  |true=>exact⟨h1,h2⟩
  |false=>
   refine⟨by show (dI m g f k++[_,_,_,_]).length=4*(r k+1);rw[zG,h1];rfl,fun x hx=>?_⟩;have fT:x<4*(r k+1):=hx;show (dI m g f k++[_,_,_,_]).getD x 0=_;by_cases h:x<4*r k
   ·rw[Sp.bR _ _ _ (by rw[h1];exact h)];exact h2 x h
   ·rw[Sp.cL _ _ _ (by omega),h1,show x/4=r k by omega,hU k hg];rcases (show x-4*r k=0\/x-4*r k=1\/x-4*r k=2\/x-4*r k=3 by omega) with e|e|e|e
    ·rw[e,show x % 4=0 by omega];rfl
    ·rw[e,show x % 4=1 by omega];rfl
    ·rw[e,show x % 4=2 by omega];rfl
    ·rw[e,show x % 4=3 by omega];rfl
theorem Qz(c k:Nat):(fun i=>i==c) k=false->bo c (if c<k then k-1 else k)=k:=fun h=>by
 have:k≠c:=by simpa using h
 unfold bo;(repeat' split)<;>omega
theorem D7(s m:List Int){n c:Nat}(hc:c<n):(fC s (fun i=>i==c) n).length=n-1/\(∀i,i<n-1->(fC s (fun i=>i==c) n).getD i 0=s.getD (bo c i) 0)/\(dI m (fun i=>i==c) (bY [(c:Int)]) n).length=4*(n-1)/\ ∀x,x<4*(n-1)->(dI m (fun i=>i==c) (bY [(c:Int)]) n).getD x 0=bY [(c:Int)] (m.getD (aR c x) 0):=by
 have hr:∀k,(fun k=>if c<k then k-1 else k) (k+1)=if (fun i=>i==c) k=true then (fun k=>if c<k then k-1 else k) k else (fun k=>if c<k then k-1 else k) k+1:=fun k=>by
  show (if c<k+1 then k+1-1 else k+1)=if (k==c)=true then (if c<k then k-1 else k) else (if c<k then k-1 else k)+1;by_cases h:k=c
  ·subst h;simp
  ·rw[zL (show¬(k==c)=true by simpa using h)]
   split<;>split<;>omega
 have h1:=LF (s:=s) hr rfl (U:=bo c) (Qz c) n;have h2:=LD (m:=m) (f:=bY [(c:Int)]) hr rfl (U:=bo c) (Qz c) n;rw[zM hc]at h1 h2;refine⟨h1.1,h1.2,h2.1,fun x hx=>?_⟩;rw[h2.2 x hx,show 4*bo c (x/4)+x % 4=aR c x by unfold bo aR;split<;>omega]
theorem D6(s m:List Int){n lo hi:Nat}(jK:lo<hi)(gJ:hi<n):(fC s (Q2 lo hi) n).length=n-2/\(∀i,i<n-2->(fC s (Q2 lo hi) n).getD i 0=s.getD (bo hi (bo lo i)) 0)/\(dI m (Q2 lo hi) (bY [(lo:Int),(hi:Int)]) n).length=4*(n-2)/\ ∀x,x<4*(n-2)->(dI m (Q2 lo hi) (bY [(lo:Int),(hi:Int)]) n).getD x 0=bY [(lo:Int),(hi:Int)] (m.getD (aR hi (aR lo x)) 0):=by
 have hr:∀k,(fun k=>if hi<k then k-2 else if lo<k then k-1 else k) (k+1)=if Q2 lo hi k=true then (fun k=>if hi<k then k-2 else if lo<k then k-1 else k) k else (fun k=>if hi<k then k-2 else if lo<k then k-1 else k) k+1:=fun k=>by
  show (if hi<k+1 then k+1-2 else if lo<k+1 then k+1-1 else k+1)=if Q2 lo hi k=true then (if hi<k then k-2 else if lo<k then k-1 else k) else (if hi<k then k-2 else if lo<k then k-1 else k)+1;by_cases h1:k=lo
  ·rw[zM (show Q2 lo hi k=true by simp[Q2,h1])];(repeat' split)<;>omega
  ·by_cases h2:k=hi
   ·rw[zM (show Q2 lo hi k=true by simp[Q2,h2])];(repeat' split)<;>omega
   ·rw[zL (show¬Q2 lo hi k=true by simp[Q2,h1,h2])];(repeat' split)<;>omega
 have hU:∀k,Q2 lo hi k=false->bo hi (bo lo ((fun k=>if hi<k then k-2 else if lo<k then k-1 else k) k))=k:=fun k hk=>by
  have Az:k≠lo/\k≠hi:=by simpa [Q2] using hk
  show bo hi (bo lo (if hi<k then k-2 else if lo<k then k-1 else k))=k;unfold bo;(repeat' split)<;>omega
 have h1:=LF (s:=s) hr rfl (U:=fun i=>bo hi (bo lo i)) hU n;have h2:=LD (m:=m) (f:=bY [(lo:Int),(hi:Int)]) hr rfl (U:=fun i=>bo hi (bo lo i)) hU n;rw[zM gJ]at h1 h2;refine⟨h1.1,h1.2,h2.1,fun x hx=>?_⟩;rw[h2.2 x hx,show 4*bo hi (bo lo (x/4))+x % 4=aR hi (aR lo x) by unfold bo aR;(repeat' split)<;>omega]
theorem y63{c v:Nat}(h:v/4≠c):∃w:Nat,bY [(c:Int)] (v:Int)=(w:Int)/\aR c w=v:=by
 refine⟨if c<v/4 then v-4 else v,?_,by unfold aR;(repeat' split)<;>omega⟩;unfold bY;by_cases g:c<v/4
 ·have:((c:Int)<(v:Int)/4):=by omega
  simp[this,g];omega
 ·have:¬((c:Int)<(v:Int)/4):=by omega
  simp[this,g]
theorem y64{lo hi v:Nat}(jK:lo<hi)(h1:v/4≠lo)(h2:v/4≠hi):∃w:Nat,bY [(lo:Int),(hi:Int)] (v:Int)=(w:Int)/\aR hi (aR lo w)=v:=by
 refine⟨if hi<v/4 then v-8 else if lo<v/4 then v-4 else v,?_,by unfold aR;(repeat' split)<;>omega⟩;unfold bY;by_cases g:hi<v/4
 ·have a1:((hi:Int)<(v:Int)/4):=by omega
  have a2:((lo:Int)<(v:Int)/4):=by omega
  simp[a1,a2,g];omega
 ·have a1:¬((hi:Int)<(v:Int)/4):=by omega
  by_cases g2:lo<v/4
  ·have a2:((lo:Int)<(v:Int)/4):=by omega
   simp[a1,a2,g,g2];omega
  ·have a2:¬((lo:Int)<(v:Int)/4):=by omega
   simp[a1,a2,g,g2]
section
variable{s m s' m':List Int}{L L':Int}
theorem ZA(v:Ed s m L){Q:Nat->Bool}{z w:Nat}(h:TH (ae m) af Q z w)(hz:z<4*s.length):w<4*s.length/\aB s (w:Int)=aB s (z:Int):=by
 induction h with
 |stop _=>exact⟨hz,rfl⟩
 | @go z w _ _ ih=>
   have hl:=aG hz;have h3:=sL v hl;obtain⟨i1,i2⟩:=ih h3.1;exact⟨i1,by rw[i2,h3.2.2,Ix v.sg hz,Bool.not_not]⟩
theorem Tc(hv:bG s m L=true){U C:Nat->Nat}{Q:Nat->Bool}(WY:∀x,U x/4=C (x/4)/\U x % 4=x % 4)(hn:s'.length<=s.length)(hC:∀i,i<s'.length->C i<s.length)(se:∀i,i<s'.length->s'.getD i 0=s.getD (C i) 0)(hl:m'.length=4*s'.length)
  (hS:cb (4*s'.length) ai (ae m')) (fL:∀x,x<4*s'.length->((ae m' x:Nat):Int)=m'.getD x 0) (hth:∀x,x<4*s'.length->TH (ae m) af Q (ae m (U x)) (U (ae m' x))) (l0:0<=L') (mj:L'<=64):bG s' m' L'=true:=by
 have v:=gP hv;have hU:∀x,x<4*s'.length->U x<4*s.length:=fun x hx=>by
  have:=hC (x/4) (by omega)
  have:=WY x
  omega
 have dV:∀x,x<4*s'.length->aB s' (x:Int)=aB s ((U x:Nat):Int):=fun x hx=>by
  obtain⟨e1,e2⟩:=WY x;have e3:=se (x/4) (by omega);unfold aB;rw[show ((U x:Nat):Int)% 4=(x:Int)% 4 by omega,show (((U x:Nat):Int)/4).toNat=C (x/4) by omega,show ((x:Int)/4).toNat=x/4 by omega,e3]
 have ha:=hS.aW;refine Ml (by have:=v.s64;omega) hl l0 mj (fun i hi=>by rw[se i hi];exact v.sg _ (hC i hi)) (fun x hx=>?_) hS;have h1:=ha.lt x hx;have h2:=ha.ne x hx;have h3:=ha.inv x hx;rw[<-fL x hx,zD,<-fL _ h1,h3];refine⟨by omega,by omega,by omega,rfl,?_⟩;have hl:=hU x hx;have g:=sL v hl;obtain⟨_,k⟩:=ZA v (hth x hx) g.1;rw[dV x hx,dV _ h1,k,g.2.2]
 cases aB s ((U x:Nat):Int)<;>simp
theorem kj.xj{n c p q:Nat}(hd:bm m n)(hc:c<n)(K:kj m c p q):xG (ae m) af (fun i=>i==c) (af p) (af q)/\ ∃b,xG (ae m) (dC b) (fun i=>i==c) (af p) (af q):=by
 have gq:p<4*n:=by have:=K.pc;omega
 have b1:ae m q=p:=by rw[<-K.pq,hd.aW.inv _ gq]
 have k1:(fun i=>i==c) (af p/4)=true:=by rw[kr,K.pc];simp
 have k2:(fun i=>i==c) (af q/4)=true:=by rw[kr,K.qc];simp
 have k3:(fun i=>i==c) (p/4)=true:=by rw[K.pc];simp
 have k4:(fun i=>i==c) (q/4)=true:=by rw[K.qc];simp
 refine⟨⟨fun v h=> .go k1 ?_,fun v h=> .go k2 ?_⟩,?_⟩
 ·rw[n8,K.pq];exact .go k4 h
 ·rw[n8,b1];exact .go k3 h
 ·have e1:=K.pc;have e2:=K.qc;have e3:=K.ne;have e4:=K.no;have pp:af q % 2≠af p % 2:=by unfold Sp.af at*;omega
  obtain⟨b,c1,c2,_,_⟩:=K3 (x:=af p) (y:=af q) (by rw[kr,kr,e1,e2]) pp;exact⟨b,⟨fun v h=> .go k1 (by rw[c1];exact h),fun v h=> .go k2 (by rw[c2];exact h)⟩⟩
theorem kj.kz{n c p q:Nat}(hd:bm m n)(hc:c<n)(K:kj m c p q)(z:Nat)(hz:z<4*n)(hq:(fun i=>i==c) (z/4)=true):z=af p\/z=af q\/(fun i=>i==c) (ae m z/4)=true/\ae m z≠af p/\ae m z≠af q:=by
 have gq:p<4*n:=by have:=K.pc;omega
 have b1:ae m q=p:=by rw[<-K.pq,hd.aW.inv _ gq]
 have hz4:z/4=c:=by simpa using hq
 have e1:=K.pc;have e2:=K.qc;have e3:=K.ne;have e4:=K.no;have four:z=p\/z=q\/z=af p\/z=af q:=by unfold Sp.af at*;omega
 have f1:q≠af q/\p≠af p/\p≠af q:=by unfold Sp.af at*;omega
 rcases four with g|g|g|g
 ·rw[g,K.pq];exact .inr (.inr ⟨by rw[e2];simp,e4,f1.1⟩)
 ·rw[g,b1];exact .inr (.inr ⟨by rw[e1];simp,f1.2.1,f1.2.2⟩)
 ·exact .inl g
 ·exact .inr (.inl g)
theorem MP{n c p q:Nat}(hd:bm m n)(hc:c<n)(K:kj m c p q){x:Nat}(hx:x<4*(n-1)):
  aR c (ae (dI (bB m (af p) (af q)) (fun i=>i==c) (bY [(c:Int)]) n) x)=cl (ae m) (af p) (af q) (aR c x)/\((ae (dI (bB m (af p) (af q)) (fun i=>i==c) (bY [(c:Int)]) n) x:Nat):Int)=(dI (bB m (af p) (af q)) (fun i=>i==c) (bY [(c:Int)]) n).getD x 0:=by
 obtain⟨_,_,_,g⟩:=D7 [] (bB m (af p) (af q)) hc;have gq:p<4*n:=by have:=K.pc;omega
 have qJ:q<4*n:=by have:=K.qc;omega
 have hy:aR c x<4*n:=by unfold aR;split<;>omega
 have qy:(fun i=>i==c) (aR c x/4)=false:=by
  have:=zd c (x/4)
  rw[rK];simpa using this
 have ha:=hd.aW;have aJ:af p≠af q:=fun e=>K.ne (by rw[<-n8 q,<-e,n8]);obtain⟨c1,c2,c3⟩:=jk (vA hd) (aG gq) (aG qJ) hy (fun e=>by rw[<-ha.inv _ (aG gq),e,ha.inv _ (aG qJ)]) aJ;have th:=Tv ha (aG gq) (aG qJ) (Q:=fun i=>i==c) (by rw[kr,K.pc];simp) (by rw[kr,K.qc];simp) (K.xj hd hc).1 (K.kz hd hc) hy qy;have off:=th.off;rw[<-c1]at off
 obtain⟨w,w1,w2⟩:=y63 (c:=c) (v:=ae (bB m (af p) (af q)) (aR c x)) (by simpa using off);have e:(dI (bB m (af p) (af q)) (fun i=>i==c) (bY [(c:Int)]) n).getD x 0=(w:Int):=by rw[g x hx,<-c2,w1]
 have e2:ae (dI (bB m (af p) (af q)) (fun i=>i==c) (bY [(c:Int)]) n) x=w:=by
  unfold Sp.ae at*;rw[e,zD]
 rw[e2,w2,c1];exact⟨rfl,e.symm⟩
theorem Uo{n c p q:Nat}(hd:bm m n)(hc:c<n)(K:kj m c p q){P:Nat->Nat}(M:xG (ae m) P (fun i=>i==c) (af p) (af q)){x:Nat}(hx:x<4*(n-1)):
  TH (ae m) P (fun i=>i==c) (ae m (aR c x)) (aR c (ae (dI (bB m (af p) (af q)) (fun i=>i==c) (bY [(c:Int)]) n) x)):=by
 have gq:p<4*n:=by have:=K.pc;omega
 have qJ:q<4*n:=by have:=K.qc;omega
 rw[(MP hd hc K hx).1];refine Tv hd.aW (aG gq) (aG qJ) (by rw[kr,K.pc];simp) (by rw[kr,K.qc];simp) M (K.kz hd hc) (by unfold aR;split<;>omega) ?_
 have:=zd c (x/4)
 rw[rK];simpa using this
theorem Y2(hv:bG s m L=true){c p q:Nat}(hc:c<s.length)(K:kj m c p q)(hL:L'=L+(if ae m (af p)=af q then 1 else 0))(mj:L'<=64):
  bG (fC s (fun i=>i==c) s.length) (dI (bB m (af p) (af q)) (fun i=>i==c) (bY [(c:Int)]) s.length) L'=true:=by
 have v:=gP hv;obtain⟨hd,gX⟩:=Sp.aE hv;have hS:=hd.qk.1 gX;obtain⟨g1,g2,g3,g4⟩:=D7 s (bB m (af p) (af q)) hc;obtain⟨b,M2⟩:=(K.xj hd hc).2;have wc:=v.l0;have Xf:0<=L':=by rw[hL];split<;>omega
 refine Tc hv (U:=aR c) (C:=bo c) (Q:=fun i=>i==c) (fun x=>⟨rK c x,by unfold aR;split<;>omega⟩) (by omega) (fun i hi=>by unfold bo;split<;>omega) (fun i hi=>g2 i (by omega)) (by rw[g3,g1]) ?_ (fun x hx=>(MP hd hc K (by rw[<-g1];exact hx)).2) (fun x hx=>Uo hd hc K (K.xj hd hc).1 (by rw[<-g1];exact hx)) Xf mj;rw[g1];exact ZC hd hS hc b fun x hx=>Uo hd hc K M2 hx
end
theorem wS{N:Nat}{al:Nat->Nat}(ha:bI N al){a b x y:Nat}(la:a<N)(lb:b<N)(hx:x<N)(hy:y<N)(x1:x≠a)(x2:x≠b)(y1:y≠a)(y2:y≠b)(e:cl al a b x=cl al a b y):x=y:=by
 have inj:∀p q,p<N->q<N->al p=al q->p=q:=fun p q hp hq e=>by rw[<-ha.inv p hp,e,ha.inv q hq]
 unfold cl at e;by_cases h:al a=b
 ·rw[zM h,zM h]at e;exact inj _ _ hx hy e
 rw[zL h,zL h]at e;by_cases h1:x=al a
 ·by_cases h2:y=al a
  ·rw[h1,h2]
  ·rw[zM h1,zL h2]at e;by_cases h3:y=al b
   ·rw[zM h3]at e
    have:=inj _ _ lb la e
    rw[h1,h3,this]
   ·rw[zL h3]at e;exact zzA (inj _ _ lb hy e).symm y2
 ·rw[zL h1]at e;by_cases yT:x=al b
  ·rw[zM yT]at e;by_cases h2:y=al a
   ·rw[zM h2]at e
    have:=inj _ _ la lb e
    rw[yT,h2,this]
   ·rw[zL h2]at e;by_cases h3:y=al b
    ·rw[yT,h3]
    ·rw[zL h3]at e;exact zzA (inj _ _ la hy e).symm y1
  ·rw[zL yT]at e;by_cases h2:y=al a
   ·rw[zM h2]at e;exact zzA (inj _ _ hx lb e) x2
   ·rw[zL h2]at e;by_cases h3:y=al b
    ·rw[zM h3]at e;exact zzA (inj _ _ hx la e) x1
    ·rw[zL h3]at e;exact inj _ _ hx hy e
section
variable{s m s' m':List Int}{L L':Int}
theorem Jf{n lo hi p1 p2 q1 q2:Nat}(hd:bm m n)(jK:lo<hi)(gJ:hi<n)(K:gy m p1 p2 q1 q2)(dS:(p1/4=lo/\q1/4=hi)\/(p1/4=hi/\q1/4=lo)){x:Nat}(hx:x<4*(n-2)):
  aR hi (aR lo (ae (dI (bB (bB m (af p1) (af q1)) (af p2) (af q2)) (Q2 lo hi) (bY [(lo:Int),(hi:Int)]) n) x))=cl (cl (ae m) (af p1) (af q1)) (af p2) (af q2) (aR hi (aR lo x))/\
  ((ae (dI (bB (bB m (af p1) (af q1)) (af p2) (af q2)) (Q2 lo hi) (bY [(lo:Int),(hi:Int)]) n) x:Nat):Int)=(dI (bB (bB m (af p1) (af q1)) (af p2) (af q2)) (Q2 lo hi) (bY [(lo:Int),(hi:Int)]) n).getD x 0:=by
 obtain⟨_,_,_,g⟩:=D6 [] (bB (bB m (af p1) (af q1)) (af p2) (af q2)) jK gJ;have hp:p1<4*n:=by rcases dS with g|g<;>omega
 have ha:=hd.aW;have l3:q1<4*n:=by rw[<-K.a1];exact ha.lt _ hp
 have l2:p2<4*n:=by have:=K.pp;omega
 have l4:q2<4*n:=by have:=K.qq;omega
 have W:=K.xj (P:=af) hd hp dS (.inl ⟨n8 _,n8 _,n8 _,n8 _,rfl,rfl,rfl,rfl⟩);obtain⟨d1,d2,d3,d4,d5,d6⟩:=K.Dk;have hy:aR hi (aR lo x)<4*n:=by unfold aR;(repeat' split)<;>omega
 have qy:Q2 lo hi (aR hi (aR lo x)/4)=false:=by
  have g1:aR hi (aR lo x)/4≠hi:=by rw[rK];exact zd _ _
  have g2:aR hi (aR lo x)/4≠lo:=by unfold aR;(repeat' split)<;>omega
  simp[Q2,g1,g2]
 have n4:=vA hd
 have c0:∀z,z<4*n->ae (bB m (af p1) (af q1)) z=cl (ae m) (af p1) (af q1) z/\((ae (bB m (af p1) (af q1)) z:Nat):Int)=(bB m (af p1) (af q1)).getD z 0/\ae (bB m (af p1) (af q1)) z<4*n:=fun z hz=>
  jk n4 (aG hp) (aG l3) hz (fun e=>by rw[<-ha.inv _ (aG hp),e,ha.inv _ (aG l3)]) d1
 have n41:y6 (bB m (af p1) (af q1)) n:=⟨by rw[jR];exact n4.1,fun z hz=>(c0 z hz).2⟩;obtain⟨c1,c2,c3⟩:=jk n41 (aG l2) (aG l4) hy (fun e=>by
  rw[(c0 _ (aG l2)).1,(c0 _ (aG l4)).1]at e;exact wS ha (aG hp) (aG l3) (aG l2) (aG l4) (Ne.symm d2) (Ne.symm d4) (Ne.symm d3) (Ne.symm d5) e) d6
 have e0:cl (ae (bB m (af p1) (af q1))) (af p2) (af q2) (aR hi (aR lo x))=cl (cl (ae m) (af p1) (af q1)) (af p2) (af q2) (aR hi (aR lo x)):=by
  show (if ae (bB m (af p1) (af q1)) (af p2)=af q2 then ae (bB m (af p1) (af q1)) (aR hi (aR lo x)) else if aR hi (aR lo x)=ae (bB m (af p1) (af q1)) (af p2) then ae (bB m (af p1) (af q1)) (af q2) else if aR hi (aR lo x)=ae (bB m (af p1) (af q1)) (af q2) then ae (bB m (af p1) (af q1)) (af p2) else ae (bB m (af p1) (af q1)) (aR hi (aR lo x)))=_
  rw[(c0 _ (aG l2)).1,(c0 _ (aG l4)).1,(c0 _ hy).1];rfl
 rw[e0]at c1;have th:=MQ ha W hy qy;have off:=th.off;rw[<-c1]at off;have nG:ae (bB (bB m (af p1) (af q1)) (af p2) (af q2)) (aR hi (aR lo x))/4≠lo/\ae (bB (bB m (af p1) (af q1)) (af p2) (af q2)) (aR hi (aR lo x))/4≠hi:=by simpa [Q2] using off
 obtain⟨w,w1,w2⟩:=y64 jK nG.1 nG.2;have e:(dI (bB (bB m (af p1) (af q1)) (af p2) (af q2)) (Q2 lo hi) (bY [(lo:Int),(hi:Int)]) n).getD x 0=(w:Int):=by rw[g x hx,<-c2,w1]
 have e2:ae (dI (bB (bB m (af p1) (af q1)) (af p2) (af q2)) (Q2 lo hi) (bY [(lo:Int),(hi:Int)]) n) x=w:=by
  unfold Sp.ae at*;rw[e,zD]
 rw[e2,w2,c1];exact⟨rfl,e.symm⟩
theorem Jv{n lo hi p1 p2 q1 q2:Nat}(hd:bm m n)(hp:p1<4*n)(K:gy m p1 p2 q1 q2):
  (if ae m (af p1)=af q1 then 1 else 0)+(if cl (ae m) (af p1) (af q1) (af p2)=af q2 then 1 else 0)=Cv m p1 p2 q1 q2:=by
 have ha:=hd.aW;have l3:q1<4*n:=by rw[<-K.a1];exact ha.lt _ hp
 have l2:p2<4*n:=by have:=K.pp;omega
 have l4:q2<4*n:=by have:=K.qq;omega
 obtain⟨d1,d2,d3,d4,d5,d6⟩:=K.Dk;have i1:∀{a b},a<4*n->ae m a=b->ae m b=a:=fun {a b} la e=>by rw[<-e,ha.inv a la]
 unfold Cv;rw[Nat.add_assoc];congr 1;unfold cl;by_cases h:ae m (af p1)=af q1
 ·rw[zM h];have h':=i1 (aG hp) h;rw[zL (c:=(_\/_))]
  ·omega
  ·rintro (⟨g,_⟩|⟨g,_⟩)
   ·rw[g]at h;exact d4 h.symm
   ·rw[g]at h;exact d5 h.symm
 ·rw[zL h];by_cases h1:af p2=ae m (af p1)
  ·rw[zM h1];have yT:=i1 (aG hp) h1.symm;rw[zL (show¬ae m (af p2)=af q2 by rw[yT];exact d3),Nat.zero_add];refine QF ⟨fun g=> .inl ⟨h1.symm,g⟩,?_⟩;rintro (⟨_,g⟩|⟨g,_⟩)
   ·exact g
   ·rw[<-h1]at g;exact zzA g d6
  ·rw[zL h1];by_cases h2:af p2=ae m (af q1)
   ·rw[zM h2];have AK:=i1 (aG l3) h2.symm;rw[zL (show¬ae m (af p2)=af q2 by rw[AK];exact d5),Nat.zero_add];refine QF ⟨fun g=> .inr ⟨g,h2.symm⟩,?_⟩;rintro (⟨g,_⟩|⟨g,_⟩)
    ·exact zzA g.symm h1
    ·exact g
   ·rw[zL h2];rw[zL (c:=(_\/_)),Nat.add_zero];rintro (⟨g,_⟩|⟨_,g⟩)
    ·exact h1 g.symm
    ·exact h2 g.symm
theorem UE{n lo hi p1 p2 q1 q2:Nat}(hd:bm m n)(hp:p1<4*n)(K:gy m p1 p2 q1 q2):
  (if ae m (af p1)=af q1 then 1 else 0)+(if ae (bB m (af p1) (af q1)) (af p2)=af q2 then 1 else 0)=Cv m p1 p2 q1 q2:=by
 have ha:=hd.aW;have l3:q1<4*n:=by rw[<-K.a1];exact ha.lt _ hp
 have l2:p2<4*n:=by have:=K.pp;omega
 have l4:q2<4*n:=by have:=K.qq;omega
 obtain⟨d1,d2,d3,d4,d5,d6⟩:=K.Dk;have c:=(jk (vA hd) (aG hp) (aG l3) (aG l2) (fun e=>by rw[<-ha.inv _ (aG hp),e,ha.inv _ (aG l3)]) d1).1;rw[c];exact Jv (lo:=lo) (hi:=hi) hd hp K
theorem YD{n lo hi p1 p2 q1 q2:Nat}(hd:bm m n)(jK:lo<hi)(gJ:hi<n)(K:gy m p1 p2 q1 q2)(dS:(p1/4=lo/\q1/4=hi)\/(p1/4=hi/\q1/4=lo)){x:Nat}(hx:x<4*(n-2)):
  TH (ae m) af (Q2 lo hi) (ae m (aR hi (aR lo x))) (aR hi (aR lo (ae (dI (bB (bB m (af p1) (af q1)) (af p2) (af q2)) (Q2 lo hi) (bY [(lo:Int),(hi:Int)]) n) x))):=by
 have hp:p1<4*n:=by rcases dS with g|g<;>omega
 have W:=K.xj (P:=af) hd hp dS (.inl ⟨n8 _,n8 _,n8 _,n8 _,rfl,rfl,rfl,rfl⟩);rw[(Jf hd jK gJ K dS hx).1];refine MQ hd.aW W (by unfold aR;(repeat' split)<;>omega) ?_;have k1:aR hi (aR lo x)/4≠hi:=by rw[rK];exact zd _ _
 have k2:aR hi (aR lo x)/4≠lo:=by unfold aR;(repeat' split)<;>omega
 simp[Q2,k1,k2]
theorem Y1(hv:bG s m L=true){lo hi p1 p2 q1 q2:Nat}(jK:lo<hi)(gJ:hi<s.length)(K:gy m p1 p2 q1 q2)(dS:(p1/4=lo/\q1/4=hi)\/(p1/4=hi/\q1/4=lo))
  (hL:L<=L') (mj:L'<=64):
  bG (fC s (Q2 lo hi) s.length) (dI (bB (bB m (af p1) (af q1)) (af p2) (af q2)) (Q2 lo hi) (bY [(lo:Int),(hi:Int)]) s.length) L'=true:=by
 have v:=gP hv;obtain⟨hd,gX⟩:=Sp.aE hv;have hS:=hd.qk.1 gX;obtain⟨g1,g2,g3,g4⟩:=D6 s (bB (bB m (af p1) (af q1)) (af p2) (af q2)) jK gJ;have wc:=v.l0
 refine Tc hv (U:=fun x=>aR hi (aR lo x)) (C:=fun i=>bo hi (bo lo i)) (Q:=Q2 lo hi) (fun x=>⟨by rw[rK,rK],by unfold aR;(repeat' split)<;>omega⟩) (by omega) (fun i hi=>by unfold bo;(repeat' split)<;>omega) (fun i hi=>g2 i (by omega)) (by rw[g3,g1]) ?_ (fun x hx=>(Jf hd jK gJ K dS (by rw[<-g1];exact hx)).2) (fun x hx=>YD hd jK gJ K dS (by rw[<-g1];exact hx)) (by omega) mj;rw[g1]
 exact y3a hd hS jK gJ K dS fun x hx=>(Jf hd jK gJ K dS hx).1
end
end Hs
namespace Sp
open Classical
section
variable{N:Nat}{si al al':Nat->Nat}
theorem cb.Ch(h:cb N si al)(cG:bI N al'){x y:Nat}(hx:x<N)(hy:y<N)(Dx:SC (aM si al N) x y)(n1:y≠x)(n2:y≠al x)(e1:al' x=al y)(e2:al' (al y)=x)(e3:al' y=al x)(e4:al' (al x)=y)
  (e5:∀z,z<N->z≠x->z≠y->z≠al x->z≠al y->al' z=al z) (ry:KK si al' N x (al x)) (Am:KK si al' N y (al y)):cb N si al':=by
 have hs:=h.perm;have ha:=h.aW;have hE:=bH hs ha;have bX:=bH hs cG;obtain⟨p,ep⟩:∃p,al x=p:=⟨_,rfl⟩;obtain⟨q,eq⟩:∃q,al y=q:=⟨_,rfl⟩;rw[ep]at ry e3 e4 e5 n2;rw[eq]at Am e1 e2 e5;have lp:p<N:=ep▸ha.lt x hx;have lq:q<N:=eq▸ha.lt y hy;have ip:al p=x:=by rw[<-ep];exact ha.inv x hx
 have iq:al q=y:=by rw[<-eq];exact ha.inv y hy
 have FI:KK si al N x y:=nV hs ha hx Dx;have xp:KK si al N x p:=ep▸bS hs ha hx;have Bs:KK si al N y q:=eq▸bS hs ha hy;have JN:KK si al N x q:=hE.trans _ _ _ hx hy lq FI Bs;have yd:p≠x:=ep▸ha.ne x hx;have Fz:q≠y:=eq▸ha.ne y hy;have FC:p≠y:=Ne.symm n2;have FA:q≠x:=fun e=>n2 (by rw[<-ep,<-e,iq]);have jX:p≠q:=fun e=>n1 (by rw[<-ip,e,iq])
 have cs:∀z,z<N->z=x\/z=y\/z=p\/z=q\/(z≠x/\z≠y/\z≠p/\z≠q/\al' z=al z):=fun z hz=>by
  by_cases h1:z=x
  ·exact .inl h1
  ·by_cases h2:z=y
   ·exact .inr (.inl h2)
   ·by_cases h3:z=p
    ·exact .inr (.inr (.inl h3))
    ·by_cases h4:z=q
     ·exact .inr (.inr (.inr (.inl h4)))
     ·exact .inr (.inr (.inr (.inr ⟨h1,h2,h3,h4,e5 z hz h1 h2 h3 h4⟩)))
 have cF:∀a b,a<N->b<N->KK si al N a b->KK si al' N a b:=fun a b br hb hk=>by
  refine bb hs ha bX (fun z hz=>cw hs cG hz) (fun z hz=>?_) br hb hk;rcases cs z hz with rfl|rfl|rfl|rfl|⟨_,_,_,_,e⟩
  ·rw[ep];exact ry
  ·rw[eq];exact Am
  ·rw[ip];exact bX.symm _ _ hx hz ry
  ·rw[iq];exact bX.symm _ _ hy hz Am
  ·rw[<-e];exact bS hs cG hz
 have vM:∀a b,a<N->b<N->KK si al' N a b->KK si al N a b:=fun a b br hb hk=>by
  refine bb hs cG hE (fun z hz=>cw hs ha hz) (fun z hz=>?_) br hb hk;rcases cs z hz with rfl|rfl|rfl|rfl|⟨_,_,_,_,e⟩
  ·rw[e1];exact JN
  ·rw[e3];exact hE.trans _ _ _ hz hx lp (hE.symm _ _ hx hz FI) xp
  ·rw[e4];exact hE.trans _ _ _ hz hx hy (hE.symm _ _ hx hz xp) FI
  ·rw[e2];exact hE.symm _ _ hx hz JN
  ·rw[e];exact bS hs ha hz
 have Oq:∀a b,a<N->b<N->(KK si al' N a b↔KK si al N a b):=fun a b br hb=>⟨vM a b br hb,cF a b br hb⟩;have dL:=aN hs ha N (zA _);have eO:=aN hs cG N (zA _);have dM:=sM dL hx hy;have ow:=sM dM lp lq;have sk:∀z,z<N->swp (swp (aM si al N) x y) p q z=aM si al' N z:=fun z hz=>by
  rw[aX cG hz];rcases cs z hz with rfl|rfl|rfl|rfl|⟨h1,h2,h3,h4,e⟩
  ·unfold swp;rw[zL (Ne.symm yd),zL (Ne.symm FA),zM rfl,aX ha hy,eq,e1]
  ·unfold swp;rw[zL (Ne.symm FC),zL (Ne.symm Fz),zL n1,zM rfl,aX ha hx,ep,e3]
  ·unfold swp;rw[zM rfl,zL FA,zL Fz,aX ha lq,iq,e4]
  ·unfold swp;rw[zL (Ne.symm jX),zM rfl,zL yd,zL FC,aX ha lp,ip,e2]
  ·unfold swp;rw[zL h3,zL h4,zL h1,zL h2,aX ha hz,e]
 refine⟨hs,cG,fun r hr kV kF kg jd=>?_⟩;have ik:∀z,z<N->(KK si al' N r z↔KK si al N r z):=fun z hz=>Oq r z hr hz;have t1:Tr N (KK si al N r) (SC si) kV:=kg.aZ ik (fun _ _ _ _ _ _=>Iff.rfl);obtain⟨xF,FZ⟩:=Tr.exists (SC.eqv dL) (KK si al N r);have q1:=h.eq r hr kV xF t1 FZ;have c1:=tD ha (dX hs ha hr).2;have c3:=tD cG (dX hs cG hr).2
 have c4:cU (KK si al' N r) N=cU (KK si al N r) N:=EK ik;by_cases hrx:KK si al N r x
 ·have ux:KK si al N r x:=hrx;have uy:KK si al N r y:=hE.trans _ _ _ hr hx hy hrx FI;have up:KK si al N r p:=hE.trans _ _ _ hr hx lp hrx xp;have uq:KK si al N r q:=hE.trans _ _ _ hr hx lq hrx JN;obtain⟨F1,p8⟩:=Tr.exists (SC.eqv dM) (KK si al N r);have cP:=vf dL hx (Ne.symm n1) Dx;have hj:=pT dM hx hy cP;rw[vc]at hj;have b1:=p8.join (SC.eqv dM) hx hy ux uy cP (FZ.congr hj)
  have we:Tr N (KK si al N r) (SC (swp (swp (aM si al N) x y) p q)) kF:=jd.aZ ik (fun a b br hb _ _=>(uA ow sk br).symm);have b2:F1.length<=kF.length+1:=by
   by_cases iF:SC (swp (aM si al N) x y) p q
   ·have hn:=vf dM lp jX iF;have hj:=pT ow lp lq hn;rw[vc]at hj
    have:=we.join (SC.eqv ow) lp lq up uq hn (p8.congr hj)
    omega
   ·have:=p8.join (SC.eqv dM) lp lq up uq iF (we.congr (pT dM lp lq iF))
    omega
  have b3:=CH hs cG hr kg jd;omega
 ·have o9:∀z,z<N->KK si al N r z->al' z=al z:=fun z hz e=>by
   have hb:∀w,w<N->KK si al N x w->z≠w:=fun w hw f g=>hrx (hE.trans _ _ _ hr hz hx e (hE.symm _ _ hx hz (g▸f)));exact e5 z hz (hb x hx (hE.rfl' _ hx)) (hb y hy FI) (hb p lp xp) (hb q lq JN)
  have iF:∀a b,a<N->KK si al N r a->(SC (aM si al' N) a b↔SC (aM si al N) a b):=fun a b br hU=>by
   have hi:∀k,KK si al N r (aS (aM si al' N) k a)/\aS (aM si al' N) k a=aS (aM si al N) k a:=fun k=>by
    induction k with
    |zero=>exact⟨hU,rfl⟩
    |succ k ih=>
     have lt:=eO.bW br k;have e:aM si al' N (aS (aM si al' N) k a)=aM si al N (aS (aM si al' N) k a):=by rw[aX cG lt,aX ha lt,o9 _ lt ih.1]
     refine⟨?_,by simp only[aS];rw[e,ih.2]⟩;simp only[aS];rw[e,aX ha lt];exact((dX hs ha hr).1 _ (ha.lt _ lt)).1 (((dX hs ha hr).2 _ lt).1 ih.1)
   constructor
   ·rintro⟨k,rfl⟩;exact⟨k,(hi k).2.symm⟩
   ·rintro⟨k,rfl⟩;exact⟨k,(hi k).2⟩
  have t2:Tr N (KK si al N r) (SC (aM si al N)) kF:=jd.aZ ik (fun a b br _ hU _=>iF a b br ((ik a br).1 hU));have q2:=h.eq r hr kV kF t1 t2;omega
end
end Sp
namespace Hs
open Sp (cb ai bJ aS ae af bI bm KK SC aM)
def dh(al:Nat->Nat)(x y z:Nat):Nat:=if z=x then al y else if z=al y then x else if z=y then al x else if z=al x then y else al z
section
variable{s m s' m':List Int}{L L':Int}
theorem LC{N:Nat}{al:Nat->Nat}(ha:bI N al){x y:Nat}(hx:x<N)(hy:y<N)(h1:y≠x)(h2:y≠al x):dh al x y x=al y/\dh al x y (al y)=x/\dh al x y y=al x/\dh al x y (al x)=y:=by
 have a1:al y≠x:=fun e=>h2 (by rw[<-e,ha.inv y hy]);have a2:al x≠x:=ha.ne x hx;have a3:al y≠y:=ha.ne y hy;have a4:al x≠al y:=fun e=>h1 (by rw[<-ha.inv y hy,<-e,ha.inv x hx]);unfold dh;refine⟨zM rfl,?_,?_,?_⟩
 ·rw[zL a1,zM rfl]
 ·rw[zL h1,zL (Ne.symm a3),zM rfl]
 ·rw[zL a2,zL a4,zL (Ne.symm h2),zM rfl]
theorem Be{al:Nat->Nat}{x y z:Nat}(h1:z≠x)(h2:z≠y)(h3:z≠al x)(h4:z≠al y):dh al x y z=al z:=by
 unfold dh;rw[zL h1,zL h4,zL h2,zL h3]
theorem Tb{N:Nat}{al:Nat->Nat}(ha:bI N al){x y:Nat}(hx:x<N)(hy:y<N)(h1:y≠x)(h2:y≠al x):bI N (dh al x y):=by
 obtain⟨c1,c2,c3,c4⟩:=LC ha hx hy h1 h2;have lx:=ha.lt x hx;have ly:=ha.lt y hy;have a1:al y≠x:=fun e=>h2 (by rw[<-e,ha.inv y hy]);have cs:∀z,z=x\/z=y\/z=al x\/z=al y\/(z≠x/\z≠y/\z≠al x/\z≠al y):=fun z=>by
  by_cases g1:z=x
  ·exact .inl g1
  ·by_cases g2:z=y
   ·exact .inr (.inl g2)
   ·by_cases g3:z=al x
    ·exact .inr (.inr (.inl g3))
    ·by_cases g4:z=al y
     ·exact .inr (.inr (.inr (.inl g4)))
     ·exact .inr (.inr (.inr (.inr ⟨g1,g2,g3,g4⟩)))
 refine⟨fun z hz=>?_,fun z hz=>?_,fun z hz=>?_⟩
 ·rcases cs z with rfl|rfl|rfl|rfl|⟨g1,g2,g3,g4⟩
  ·rw[c1];exact ly
  ·rw[c3];exact lx
  ·rw[c4];exact hy
  ·rw[c2];exact hx
  ·rw[Be g1 g2 g3 g4];exact ha.lt z hz
 ·rcases cs z with rfl|rfl|rfl|rfl|⟨g1,g2,g3,g4⟩
  ·rw[c1,c2]
  ·rw[c3,c4]
  ·rw[c4,c3]
  ·rw[c2,c1]
  ·have inv:=ha.inv z hz;rw[Be g1 g2 g3 g4,Be (fun e=>g3 (by rw[<-e,inv])) (fun e=>g4 (by rw[<-e,inv])) (fun e=>g1 (by rw[<-inv,e,ha.inv x hx])) (fun e=>g2 (by rw[<-inv,e,ha.inv y hy])),inv]
 ·rcases cs z with rfl|rfl|rfl|rfl|⟨g1,g2,g3,g4⟩
  ·rw[c1];exact a1
  ·rw[c3];exact Ne.symm h2
  ·rw[c4];exact h2
  ·rw[c2];exact Ne.symm a1
  ·rw[Be g1 g2 g3 g4];exact ha.ne z hz
theorem Ta(hv:bG s m L=true){al':Nat->Nat}(cG:bI (4*s.length) al'){x y:Nat}(hx:x<4*s.length)(hy:y<4*s.length)(cP:¬KK ai (ae m) (4*s.length) x y)
  (e5:∀z,z<4*s.length->z≠x->z≠y->z≠ae m x->z≠ae m y->al' z=ae m z):KK ai al' (4*s.length) x (ae m x):=by
 have v:=gP hv;obtain⟨hd,gX⟩:=Sp.aE hv;have ha:=hd.aW;have hs:=Sp.aH s.length;have hE:=Sp.bH hs ha;have bX:=Sp.bH hs cG;obtain⟨t,ht⟩:∃t:Nat->Nat,t=fun z=>af (ae m z):=⟨_,rfl⟩;have tz:∀z,t z=af (ae m z):=fun z=>by rw[ht]
 have tp:bJ (4*s.length) t:=⟨fun z hz=>by rw[tz];exact aG (ha.lt z hz),fun a b la lb e=>by
  rw[tz,tz]at e
  have:=congrArg af e
  rw[n8,n8]at this;rw[<-ha.inv a la,this,ha.inv b lb]⟩
 have top:∀z,z<4*s.length->aB s ((t z:Nat):Int)=aB s (z:Int):=fun z hz=>by
  rw[tz,Ix v.sg (ha.lt z hz),(sL v hz).2.2,Bool.not_not]
 have Dh:∀{al:Nat->Nat},bI (4*s.length) al->∀z,z<4*s.length->KK ai al (4*s.length) z (af z):=fun {al} hm z hz=>by
  rw[xN];exact(Sp.bH hs hm).trans _ _ _ hz (hs.lt _ hz) (hs.lt _ (hs.lt _ hz)) (Sp.cw hs hm hz) (Sp.cw hs hm (hs.lt _ hz))
 have tk:∀z,z<4*s.length->KK ai (ae m) (4*s.length) z (t z):=fun z hz=>by
  rw[tz];exact hE.trans _ _ _ hz (ha.lt z hz) (aG (ha.lt z hz)) (Sp.bS hs ha hz) (Dh ha _ (ha.lt z hz))
 obtain⟨k,k0,k1,k2⟩:=Sp.mX tp hx;have step:∀j,j<k->aS t (j+1) x<4*s.length/\KK ai (ae m) (4*s.length) x (aS t (j+1) x)/\aB s ((aS t (j+1) x:Nat):Int)=aB s (x:Int)/\KK ai al' (4*s.length) (t x) (aS t (j+1) x):=fun j=>by
  induction j with
  |zero=>
   intro _;exact⟨tp.lt x hx,tk x hx,top x hx,bX.rfl' _ (tp.lt x hx)⟩
  |succ j ih=>
   intro hj;obtain⟨i1,i2,i3,i4⟩:=ih (by omega);have e:aS t (j+1+1) x=t (aS t (j+1) x):=rfl;rw[e];refine⟨tp.lt _ i1,hE.trans _ _ _ hx i1 (tp.lt _ i1) i2 (tk _ i1),by rw[top _ i1,i3],bX.trans _ _ _ (tp.lt x hx) i1 (tp.lt _ i1) i4 ?_⟩;have same:al' (aS t (j+1) x)=ae m (aS t (j+1) x):=by
    refine e5 _ i1 (k2 (j+1) (by omega) hj) (fun g=>cP (g▸i2)) (fun g=>?_) (fun g=>cP ?_)
    ·rw[g,(sL v hx).2.2]at i3;revert i3;cases aB s (x:Int)<;>simp
    ·rw[g]at i2;exact hE.trans _ _ _ hx (ha.lt y hy) hy i2 (hE.symm _ _ hy (ha.lt y hy) (Sp.bS hs ha hy))
   rw[tz,<-same];exact bX.trans _ _ _ i1 (cG.lt _ i1) (aG (cG.lt _ i1)) (Sp.bS hs cG i1) (Dh cG _ (cG.lt _ i1))
 obtain⟨i1,_,_,i4⟩:=step (k-1) (by omega);rw[show k-1+1=k by omega,k1]at i4;rw[tz]at i4;have lx:=ha.lt x hx;exact bX.symm _ _ lx hx (bX.trans _ _ _ lx (aG lx) hx (Dh cG _ lx) i4)
theorem Nl{x y:Nat}(hv:bG s m L=true)(hl:m'.length=4*s.length)(fL:∀z,z<4*s.length->m'.getD z 0=(dh (ae m) x y z:Nat))(hx:x<4*s.length)(hy:y<4*s.length)(h1:y≠x)(h2:y≠ae m x)(ho:aB s (x:Int)=aB s (y:Int))
  (hc:¬KK ai (ae m) (4*s.length) x y\/SC (aM ai (ae m) (4*s.length)) x y/\KK ai (dh (ae m) x y) (4*s.length) x (ae m x)/\KK ai (dh (ae m) x y) (4*s.length) y (ae m y)):bG s m' L=true:=by
 have v:=gP hv;obtain⟨hd,gX⟩:=Sp.aE hv;have hS:=hd.qk.1 gX;have ha:=hd.aW;have cG:=Tb ha hx hy h1 h2;obtain⟨c1,c2,c3,c4⟩:=LC ha hx hy h1 h2;have e5:∀z,z<4*s.length->z≠x->z≠y->z≠ae m x->z≠ae m y->dh (ae m) x y z=ae m z:=fun z _ g1 g2 g3 g4=>Be g1 g2 g3 g4;have hS':cb (4*s.length) ai (dh (ae m) x y):=by
  rcases hc with hc|⟨hc,k1,k2⟩
  ·refine hS.Hr cG hx hy hc c1 c2 c3 c4 e5 (Ta hv cG hx hy hc e5) (Ta hv cG hy hx (fun k=>hc ((Sp.bH hS.perm ha).symm _ _ hy hx k)) fun z hz g1 g2 g3 g4=>e5 z hz g2 g1 g4 g3)
  ·exact hS.Ch cG hx hy hc h1 h2 c1 c2 c3 c4 e5 k1 k2
 have br:∀z,z<4*s.length->ae m' z=dh (ae m) x y z:=fun z hz=>by
  show (m'.getD z 0).toNat=_;rw[fL z hz,zD]
 refine Ml v.s64 hl v.l0 v.mj v.sg (fun z hz=>?_) (Lk hS' br);have l1:=cG.lt z hz;have l2:=cG.ne z hz;have l3:=cG.inv z hz;rw[fL z hz,zD,fL _ l1,l3];refine⟨by omega,by omega,by omega,rfl,?_⟩;have ox:=(sL v hx).2.2;have oy:=(sL v hy).2.2;by_cases g1:z=x
 ·rw[g1,c1,oy,ho];cases aB s (y:Int)<;>simp
 by_cases g2:z=y
 ·rw[g2,c3,ox,ho];cases aB s (y:Int)<;>simp
 by_cases g3:z=ae m x
 ·rw[g3,c4,ox,ho];cases aB s (y:Int)<;>simp
 by_cases g4:z=ae m y
 ·rw[g4,c2,oy,ho];cases aB s (y:Int)<;>simp
 rw[Be g1 g2 g3 g4,(sL v hz).2.2];cases aB s (z:Int)<;>simp
end
end Hs
structure sI(sg:Int)(i0 o0 i1 o1:Nat):Prop where
 l:i0<4/\o0<4/\i1<4/\o1<4
 p0:o0=(i0+2)% 4
 p1:o1=(i1+2)% 4
 par:i0 % 2≠i1 % 2
 val:bG [sg] (aY (aY [0,0,0,0] o0 i1) o1 i0) 0=true
 out:aB [sg] (o1:Int)=true
def rX(pos ov:Bool):Nat:=if ov then (if pos then 3 else 1) else 0
def rV(pos ov:Bool):Nat:=if ov then (if pos then 1 else 3) else 2
def rW(pos ov:Bool):Nat:=if ov then 0 else (if pos then 3 else 1)
def rU(pos ov:Bool):Nat:=if ov then 2 else (if pos then 1 else 3)
theorem CN(pos ov:Bool):sI (if pos then 1 else-1) (rX pos ov) (rV pos ov) (rW pos ov) (rU pos ov):=by
 cases pos<;>cases ov<;>exact⟨by decide,by decide,by decide,by decide,by decide,by decide⟩
def u5(m:List Int)(n i0 o0 i1 o1:Nat):List Int:=aY (aY (m++[0,0,0,0]) ((4*n+o0:Nat):Int) ((4*n+i1:Nat):Int)) ((4*n+o1:Nat):Int) ((4*n+i0:Nat):Int)
def uk(m:List Int)(n i0 o0 i1 o1 x:Nat):List Int:=aY (aY (aY (m++[0,0,0,0]) ((4*n+o0:Nat):Int) ((4*n+i1:Nat):Int)) ((4*n+o1:Nat):Int) (m.getD x 0)) (x:Int) ((4*n+i0:Nat):Int)
theorem Mk{a b:List Int}(hl:a.length=b.length)(h:∀x,x<a.length->a.getD x 0=b.getD x 0):a=b:=by
 refine List.ext_getElem hl fun i h1 h2=>?_
 have:=h i h1
 rw[zB,zB,zJ h1,zJ h2]at this;simpa using this
namespace Hs
open Sp (cb ai bJ aS ae af bI bm KK SC aM)
section
variable{s m m1 m2:List Int}{L:Int}
theorem Er{L':Int}(hv:bG s m L=true)(l0:0<=L')(mj:L'<=64):bG s m L'=true:=by
 obtain⟨⟨h1,h2,_,_,h5,h6⟩,h7⟩:=Ng.1 hv;exact Ng.2 ⟨⟨h1,h2,l0,mj,h5,h6⟩,h7⟩
theorem wY{m:List Int}{z w:Nat}(h:m.getD z 0=(w:Nat)):ae m z=w:=by unfold Sp.ae;rw[h,zD]
theorem y9{n1 n2:Nat}(dW:bm m1 n1)(im:bm m2 n2){z:Nat}(hz:z<4*(n1+n2)):ae (Sp.gR m1 m2) z=(if z<4*n1 then ae m1 z else 4*n1+ae m2 (z-4*n1))/\(Sp.gR m1 m2).getD z 0=(ae (Sp.gR m1 m2) z:Nat):=by
 have l1:=dW.prd.ok.1;have l2:=im.prd.ok.1;by_cases h:z<4*n1
 ·have e:=Sp.zw (m2:=m2) (m1:=m1) (i:=z) (by omega);have c:=dW.cast h;rw[zM h]
  have:ae (Sp.gR m1 m2) z=ae m1 z:=by unfold Sp.ae;rw[e]
  rw[this,e];exact⟨rfl,c.symm⟩
 ·have e:=Sp.zu (m1:=m1) (m2:=m2) (i:=z-4*n1) (by omega);rw[show m1.length+(z-4*n1)=z by omega]at e;have c:=im.cast (x:=z-4*n1) (by omega);rw[zL h]
  have:ae (Sp.gR m1 m2) z=4*n1+ae m2 (z-4*n1):=by
   show ((Sp.gR m1 m2).getD z 0).toNat=_;rw[e];omega
  rw[this,e];exact⟨rfl,by omega⟩
theorem U0{n1 n2:Nat}(dW:bm m1 n1)(im:bm m2 n2)(hm:bI (4*(n1+n2)) (ae (Sp.gR m1 m2))){x y:Nat}(hx:x<4*n1)(hy:4*n1<=y)(xu:y<4*(n1+n2)):¬KK ai (ae (Sp.gR m1 m2)) (4*(n1+n2)) x y:=fun hk=>by
 have:=Sp.bb (R:=fun a b=>(a<4*n1↔b<4*n1)) (Sp.aH _) hm ⟨fun _ _=>Iff.rfl,fun _ _ _ _ h=>h.symm,fun _ _ _ _ _ _ h k=>h.trans k⟩ (fun z _=>by have:=Sp.bU z;omega) (fun z hz=>by
  have e:=(y9 dW im hz).1;by_cases h:z<4*n1
  ·rw[zM h]at e
   have:=dW.aW.lt z h
   omega
  ·rw[zL h]at e;omega) (by omega) xu hk
 omega
theorem Iw{sg:Int}{i0 o0 i1 o1:Nat}(K:sI sg i0 o0 i1 o1):bm (aY (aY [0,0,0,0] o0 i1) o1 i0) 1/\ae (aY (aY [0,0,0,0] o0 i1) o1 i0) o0=i1/\ae (aY (aY [0,0,0,0] o0 i1) o1 i0) i1=o0/\ae (aY (aY [0,0,0,0] o0 i1) o1 i0) o1=i0/\ae (aY (aY [0,0,0,0] o0 i1) o1 i0) i0=o1:=by
 have hd:=(Sp.aE K.val).1;have hl:=K.l;have e0:=K.p0;have e1:=K.p1;have e2:=K.par;have g:∀z:Nat,(aY (aY [0,0,0,0] (o0:Int) i1) o1 i0).getD z 0=if z=i0 then (o1:Int) else if z=o1 then (i0:Int) else if z=i1 then (o0:Int) else if z=o0 then (i1:Int) else ([0,0,0,0]:List Int).getD z 0:=fun z=>by
  rw[xb (by rw[ba];exact hl.2.2.2) (by rw[ba];exact hl.1),xb (by exact hl.2.1) (by exact hl.2.2.1)]
 refine⟨hd,?_,?_,?_,?_⟩
 ·exact wY (by rw[g,zL (by omega),zL (by omega),zL (by omega),zM rfl])
 ·exact wY (by rw[g,zL (by omega),zL (by omega),zM rfl])
 ·exact wY (by rw[g,zL (by omega),zM rfl])
 ·exact wY (by rw[g,zM rfl])
theorem S9{sg:Int}{i0 o0 i1 o1:Nat}(K:sI sg i0 o0 i1 o1)(hv:bG s m L=true)(hn:s.length+1<=64)(hL:1<=L):
  bG (s++[sg]) (u5 m s.length i0 o0 i1 o1) (L-1)=true/\(∀z,z<4*(s.length+1)->ae (u5 m s.length i0 o0 i1 o1) z=if z<4*s.length then ae m z else 4*s.length+ae (aY (aY [0,0,0,0] o0 i1) o1 i0) (z-4*s.length)):=by
 have v:=gP hv;obtain⟨dW,_⟩:=Sp.aE hv;obtain⟨im,a1,a2,a3,a4⟩:=Iw K;have hU:=Sp.fh hv K.val (show s.length+1<=64 from hn) (by have:=v.mj;omega);have hl:=K.l;have e0:=K.p0;have e1:=K.p1;have e2:=K.par;have dw:=v.len;have e:u5 m s.length i0 o0 i1 o1=Sp.gR m (aY (aY [0,0,0,0] o0 i1) o1 i0):=by
  refine Mk (by unfold u5 Sp.gR;simp[ba]) fun z hz=>?_;have tP:z<4*(s.length+1):=by
   have:(u5 m s.length i0 o0 i1 o1).length=4*(s.length+1):=by unfold u5;simp[ba,dw];omega
   omega
  rw[(y9 dW im tP).2,(y9 dW im tP).1];unfold u5;rw[xb (by rw[ba,zG,dw];show 4*s.length+o1<4*s.length+4;omega) (by rw[ba,zG,dw];show 4*s.length+i0<4*s.length+4;omega),xb (by rw[zG,dw];show 4*s.length+o0<4*s.length+4;omega) (by rw[zG,dw];show 4*s.length+i1<4*s.length+4;omega)];by_cases h:z<4*s.length
  ·rw[zL (by omega),zL (by omega),zL (by omega),zL (by omega),zM h,Sp.bR _ _ _ (by omega),dW.cast h]
  ·rw[zL h];rcases (show z-4*s.length=i0\/z-4*s.length=o1\/z-4*s.length=i1\/z-4*s.length=o0 by omega) with g|g|g|g
   ·rw[g,a4,zM (by omega)]
   ·rw[g,a3,zL (by omega),zM (by omega)]
   ·rw[g,a2,zL (by omega),zL (by omega),zM (by omega)]
   ·rw[g,a1,zL (by omega),zL (by omega),zL (by omega),zM (by omega)]
 rw[e];exact⟨Er hU (by omega) (by have:=v.mj;omega),fun z hz=>(y9 dW im hz).1⟩
theorem S8{sg:Int}{i0 o0 i1 o1 x:Nat}(K:sI sg i0 o0 i1 o1)(hv:bG s m L=true)(hn:s.length+1<=64)(hx:x<4*s.length)(ho:aB s (x:Int)=true):
  bG (s++[sg]) (uk m s.length i0 o0 i1 o1 x) L=true/\(∀z,z<4*(s.length+1)->ae (uk m s.length i0 o0 i1 o1 x) z=dh (fun z=>if z<4*s.length then ae m z else 4*s.length+ae (aY (aY [0,0,0,0] o0 i1) o1 i0) (z-4*s.length)) x (4*s.length+o1) z):=by
 have v:=gP hv;obtain⟨dW,_⟩:=Sp.aE hv;obtain⟨im,a1,a2,a3,a4⟩:=Iw K;have hU:=Sp.fh hv K.val (show s.length+1<=64 from hn) (by have:=v.mj;omega);have ij:(s++[sg]).length=s.length+1:=by simp
 have hl:=K.l;have e0:=K.p0;have e1:=K.p1;have e2:=K.par;have dw:=v.len;have tb:=dW.aW.lt x hx;have hai:=dW.aW.ne x hx;obtain⟨GH,_⟩:=Sp.aE hU;rw[ij]at GH;have hu:=fun z hz=>y9 dW im (z:=z) hz;have uX:ae (Sp.gR m (aY (aY [0,0,0,0] o0 i1) o1 i0)) x=ae m x:=by rw[(hu x (by omega)).1,zM hx]
 have uy:ae (Sp.gR m (aY (aY [0,0,0,0] o0 i1) o1 i0)) (4*s.length+o1)=4*s.length+i0:=by rw[(hu _ (by omega)).1,zL (by omega),show 4*s.length+o1-4*s.length=o1 by omega,a3]
 have fL:∀z,z<4*(s.length+1)->(uk m s.length i0 o0 i1 o1 x).getD z 0=(dh (ae (Sp.gR m (aY (aY [0,0,0,0] o0 i1) o1 i0))) x (4*s.length+o1) z:Nat):=fun z hz=>by
  have c:=dW.cast hx;unfold uk
  rw[<-c,xb (by rw[ba,ba,zG,dw];show x<4*s.length+4;omega) (by rw[ba,ba,zG,dw];show 4*s.length+i0<4*s.length+4;omega),xb (by rw[ba,zG,dw];show 4*s.length+o1<4*s.length+4;omega) (by rw[ba,zG,dw];show ae m x<4*s.length+4;omega),xb (by rw[zG,dw];show 4*s.length+o0<4*s.length+4;omega) (by rw[zG,dw];show 4*s.length+i1<4*s.length+4;omega)]
  unfold dh;rw[uX,uy];by_cases g1:z=x
  ·rw[zL (by omega),zM g1,zM g1]
  rw[zL g1 (α:=Nat)];by_cases g2:z=4*s.length+i0
  ·rw[zM g2,zM g2]
  rw[zL g2,zL g1,zL g2];by_cases g3:z=ae m x
  ·rw[zM g3,zL (by omega),zM g3]
  rw[zL g3];by_cases g4:z=4*s.length+o1
  ·rw[zM g4,zM g4]
  rw[zL g4,zL g4,zL g3,(hu z hz).1];by_cases h:z<4*s.length
  ·rw[zL (by omega),zL (by omega),zM h,Sp.bR _ _ _ (by omega),dW.cast h]
  ·rw[zL h];rcases (show z-4*s.length=i1\/z-4*s.length=o0 by omega) with g|g
   ·rw[g,a2,zM (by omega)]
   ·rw[g,a1,zL (by omega),zM (by omega)]
 have hlen:(uk m s.length i0 o0 i1 o1 x).length=4*(s.length+1):=by unfold uk;simp[ba,dw];omega
 have oy:aB (s++[sg]) ((4*s.length+o1:Nat):Int)=true:=by
  rw[show ((4*s.length+o1:Nat):Int)=(o1:Int)+4*s.length by omega,Sp.lX (by omega)];exact K.out
 refine⟨?_,fun z hz=>?_⟩
 ·have:=Nl (m':=uk m s.length i0 o0 i1 o1 x) (x:=x) (y:=4*s.length+o1) hU (by rw[ij];exact hlen) (fun z hz=>fL z (by rw[<-ij];exact hz)) (by rw[ij];omega) (by rw[ij];omega) (by omega) (by rw[uX];omega) (by rw[oy,Sp.lY (by omega) (by omega),ho]) (.inl (by rw[ij];exact U0 dW im GH.aW hx (by omega) (by omega)))
  rw[Int.add_zero]at this;exact this
 ·rw[wY (fL z hz)];unfold dh;rw[(hu z hz).1,(hu x (by omega)).1,(hu (4*s.length+o1) (by omega)).1]
end
section
variable{s m:List Int}{L:Int}
theorem H6{al:Nat->Nat}{x y p q:Nat}(hp:al x=p)(hq:al y=q)(z:Nat):dh al x y z=if z=x then q else if z=q then x else if z=y then p else if z=p then y else al z:=by
 subst hp hq;rfl
structure Cr(n:Nat)(al al':Nat->Nat)(i0 o0 i1 o1 k:Nat):Prop where
 a0:al' (4*n+o0)=4*n+i1
 cl:∀x,x<4*n->cl al' (4*n+i0) (4*n+o1) x=al x
 k:(if al' (4*n+i0)=4*n+o1 then 1 else 0)=k
theorem Xx{sg:Int}{i0 o0 i1 o1:Nat}(K:sI sg i0 o0 i1 o1)(hv:bG s m L=true)(hn:s.length+1<=64)(hL:1<=L):Cr s.length (ae m) (ae (u5 m s.length i0 o0 i1 o1)) i0 o0 i1 o1 1:=by
 obtain⟨h1,h2⟩:=S9 K hv hn hL;obtain⟨_,a1,a2,a3,a4⟩:=Iw K;have hl:=K.l;have g:∀t,t<4->ae (u5 m s.length i0 o0 i1 o1) (4*s.length+t)=4*s.length+ae (aY (aY [0,0,0,0] o0 i1) o1 i0) t:=fun t ht=>by
  rw[h2 _ (by omega),zL (by omega),show 4*s.length+t-4*s.length=t by omega]
 have g0:ae (u5 m s.length i0 o0 i1 o1) (4*s.length+i0)=4*s.length+o1:=by rw[g i0 hl.1,a4]
 refine⟨by rw[g o0 hl.2.1,a1],fun x hx=>?_,zM g0⟩;unfold Hs.cl;rw[zM g0,h2 x (by omega),zM hx]
theorem XM{sg:Int}{i0 o0 i1 o1 x:Nat}(K:sI sg i0 o0 i1 o1)(hv:bG s m L=true)(hn:s.length+1<=64)(hx:x<4*s.length)(ho:aB s (x:Int)=true):Cr s.length (ae m) (ae (uk m s.length i0 o0 i1 o1 x)) i0 o0 i1 o1 0:=by
 obtain⟨h1,h2⟩:=S8 K hv hn hx ho;obtain⟨_,a1,a2,a3,a4⟩:=Iw K;have hl:=K.l;have e0:=K.p0;have e1:=K.p1;have e2:=K.par;have ha:=(Sp.aE hv).1.aW;have lx:=ha.lt x hx;have nx:=ha.ne x hx
 have A:∀t,t<4->(if 4*s.length+t<4*s.length then ae m (4*s.length+t) else 4*s.length+ae (aY (aY [0,0,0,0] o0 i1) o1 i0) (4*s.length+t-4*s.length))=4*s.length+ae (aY (aY [0,0,0,0] o0 i1) o1 i0) t:=fun t ht=>by
  rw[zL (by omega),show 4*s.length+t-4*s.length=t by omega]
 have B:∀z,z<4*(s.length+1)->ae (uk m s.length i0 o0 i1 o1 x) z=if z=x then 4*s.length+i0 else if z=4*s.length+i0 then x else if z=4*s.length+o1 then ae m x else if z=ae m x then 4*s.length+o1 else if z<4*s.length then ae m z else 4*s.length+ae (aY (aY [0,0,0,0] o0 i1) o1 i0) (z-4*s.length):=fun z hz=>by
  rw[h2 z hz];exact H6 (al:=fun z=>if z<4*s.length then ae m z else 4*s.length+ae (aY (aY [0,0,0,0] o0 i1) o1 i0) (z-4*s.length)) (zM hx) ((A o1 hl.2.2.2).trans (by rw[a3])) z
 have g0:ae (uk m s.length i0 o0 i1 o1 x) (4*s.length+i0)=x:=by rw[B _ (by omega),zL (by omega),zM rfl]
 have g1:ae (uk m s.length i0 o0 i1 o1 x) (4*s.length+o1)=ae m x:=by rw[B _ (by omega),zL (by omega),zL (by omega),zM rfl]
 refine⟨?_,fun z hz=>?_,by rw[g0,zL (by omega)]⟩
 ·rw[B _ (by omega),zL (by omega),zL (by omega),zL (by omega),zL (by omega),zL (by omega),show 4*s.length+o0-4*s.length=o0 by omega,a1]
 ·unfold Hs.cl;rw[g0,g1,zL (by omega)];by_cases k1:z=x
  ·rw[zM k1,k1]
  ·rw[zL k1];by_cases k2:z=ae m x
   ·rw[zM k2,k2,ha.inv x hx]
   ·rw[zL k2,B z (by omega),zL k1,zL (by omega),zL (by omega),zL k2,zM hz]
end
end Hs
def VB(m:List Int)(PE PN QN QW:Nat):List Int:=aY (aY m (PN:Int) (QN:Int)) (QW:Int) (PE:Int)
def VD(PE PN PW PS QE QN QW QS:Nat):List Int:=aY (aY (VB [0,0,0,0,0,0,0,0] PE PN QN QW) (QE:Int) (PW:Int)) (PS:Int) (QS:Int)
def VC(PE PN PW PS QE QN QW QS:Nat):List Int:=aY (aY (VB [0,0,0,0,0,0,0,0] PE PN QN QW) (QS:Int) (QE:Int)) (PW:Int) (PS:Int)
structure Pk(a b:Int)(PE PN PW PS QE QN QW QS:Nat)(fX fY:Bool):Prop where
 l:PE<4/\PN<4/\PW<4/\PS<4/\4<=QE/\QE<8/\4<=QN/\QN<8/\4<=QW/\QW<8/\4<=QS/\QS<8
 o1:PW=(PE+2)% 4
 o2:PS=(PN+2)% 4
 o3:QE=4+(QW+2)% 4
 o4:QS=4+(QN+2)% 4
 r1:PN=(PE+1)% 4
 r2:QN=4+(QE+1)% 4
 par:PE % 2=QW % 2
 v0:bG [a,b] (VD PE PN PW PS QE QN QW QS) 0=true
 v1:fX=fY->bG [a,b] (VC PE PN PW PS QE QN QW QS) 0=true
 oW:aB [a,b] (PW:Int)=fY
 oS:aB [a,b] (QS:Int)=fX
def slot(side first:Nat):Nat:=(side+4-first)% 4
def JD(fY:Bool):Nat:=if fY then 0 else 2
def Vz(fX:Bool):Nat:=if fX then 3 else 1
def Fu(fX:Bool):Nat:=if fX then 1 else 3
def gW(fX fY ov:Bool):Nat:=if ov then JD fY else Vz fX
def cK(fX fY ov:Bool):Nat:=if ov then JD fY else Fu fX
def tJ(fX fY ov:Bool):Int:=if slot (if ov then Vz fX else JD fY) (gW fX fY ov)=3 then 1 else-1
def Cu(fX fY ov:Bool):Int:=if slot (if ov then Fu fX else JD fY) (cK fX fY ov)=3 then 1 else-1
theorem AU(fX fY ov:Bool):Pk (tJ fX fY ov) (Cu fX fY ov) (slot 0 (gW fX fY ov)) (slot 1 (gW fX fY ov)) (slot 2 (gW fX fY ov)) (slot 3 (gW fX fY ov)) (4+slot 0 (cK fX fY ov)) (4+slot 1 (cK fX fY ov)) (4+slot 2 (cK fX fY ov)) (4+slot 3 (cK fX fY ov)) fX fY:=by
 cases fX<;>cases fY<;>cases ov<;>exact⟨by decide,by decide,by decide,by decide,by decide,by decide,by decide,by decide,by decide+kernel,by decide+kernel,by decide,by decide⟩
namespace Hs
open Sp (cb ai bJ aS ae af bI bm KK SC aM)
section
variable{a b:Int}{PE PN PW PS QE QN QW QS:Nat}{fX fY:Bool}
theorem S7{p z:Nat}(hp:p<4)(hz:z<4):z=p\/z=(p+1)% 4\/z=(p+2)% 4\/z=(p+3)% 4:=by
 rcases (show p=0\/p=1\/p=2\/p=3 by omega) with rfl|rfl|rfl|rfl<;>omega
theorem K1(K:Pk a b PE PN PW PS QE QN QW QS fX fY):PS=(PE+3)% 4/\QW=4+(QE+2)% 4/\QS=4+(QE+3)% 4:=by
 obtain⟨⟨h1,h2,h3,h4,h5,h6,h7,h8,h9,AL,uT,DT⟩,o1,o2,o3,o4,r1,r2,_,_,_,_,_⟩:=K;refine⟨?_,?_,?_⟩
 ·clear o1 o3 o4 r2 h7 h8 h9 AL uT DT h5 h6;omega
 ·clear o1 o2 o4 r2 r1 h1 h2 h3 h4 uT DT h7 h8;omega
 ·clear o1 o2 o3 r1 h1 h2 h3 h4 h9 AL;omega
theorem AZ(K:Pk a b PE PN PW PS QE QN QW QS fX fY){z:Nat}(hz:z<8):z=PE\/z=PN\/z=PW\/z=PS\/z=QE\/z=QN\/z=QW\/z=QS:=by
 obtain⟨s1,s2,s3⟩:=K1 K;have hl:=K.l;have r1:=K.r1;have r2:=K.r2;have o1:=K.o1;by_cases h:z<4
 ·rcases S7 hl.1 h with g|g|g|g
  ·exact .inl g
  ·exact .inr (.inl (g.trans r1.symm))
  ·exact .inr (.inr (.inl (g.trans o1.symm)))
  ·exact .inr (.inr (.inr (.inl (g.trans s1.symm))))
 ·have e:∀t,(QE-4+t)% 4=(QE+t)% 4:=fun t=>by
   have:=hl.2.2.2.2.1
   clear s1 s2 s3 r1 r2 o1 h hl;omega
  rcases S7 (p:=QE-4) (z:=z-4) (by omega) (by omega) with g|g|g|g
  ·exact .inr (.inr (.inr (.inr (.inl (by omega)))))
  ·rw[e]at g;exact .inr (.inr (.inr (.inr (.inr (.inl (by rw[r2,<-g];omega))))))
  ·rw[e]at g;exact .inr (.inr (.inr (.inr (.inr (.inr (.inl (by rw[s2,<-g];omega)))))))
  ·rw[e]at g;exact .inr (.inr (.inr (.inr (.inr (.inr (.inr (by rw[s3,<-g];omega)))))))
end
end Hs
end Go.Proofs.YthohfoombimbeaaGreatDoor
set_option linter.unusedSimpArgs false
set_option linter.unusedVariables false
namespace Go.Proofs.YthohfoombimbeaaGreatDoor
def pM(m:List Int):List (List Int):=(bt m.length (fun _=>true) (c9 (iB m) m.length) m.length).1
def fZ(l:List Int)(v:Int):List Int->List Int
 |[]=>l
 |g::r=>fZ (l.set g.toNat v) v r
theorem I3(v:Int):∀(r l:List Int),(fZ l v r).length=l.length
 |[],_=>rfl
 |g::r,l=>by simp only[fZ];rw[I3 v r,zzF]
theorem Mi(v:Int):∀(r r2 l:List Int),fZ l v (r++r2)=fZ (fZ l v r) v r2
 |[],_,_=>rfl
 |g::r,r2,l=>by simp only[List.cons_append,fZ];exact Mi v r r2 _
theorem S6(v:Int):∀(r l:List Int),(∀g∈r,0<=g/\g<l.length)->∀x:Nat,(fZ l v r).getD x 0=if (x:Int)∈r then v else l.getD x 0
 |[],l,_,x=>by simp[fZ]
 |g::r,l,h,x=>by
  have hg:=h g (zE ..);simp only[fZ];rw[S6 v r _ (fun y hy=>by rw[zzF];exact h y (zF _ hy))];by_cases h1:(x:Int)∈r
  ·rw[zM h1,zM (zF _ h1)]
  ·rw[zL h1];by_cases h2:(x:Int)=g
   ·subst h2;rw[zM (zE ..),zD,pZ (by omega)]
   ·rw[zL (by simp only[zzD,not_or];exact⟨h2,h1⟩),oH (by omega)]
def jt(fs:List (List Int))(N:Nat):Nat->List Int
 |0=>List.replicate N 0
 |i+1=>fZ (jt fs N i) i (fs.getD i [])
theorem CM(fs:List (List Int))(N:Nat):∀i,(jt fs N i).length=N
 |0=>by simp[jt]
 |i+1=>by simp only[jt];rw[I3,CM fs N i]
theorem Tu{m:List Int}{n:Nat}(h:Sp.bm m n):∀f∈pM m,f.length<=m.length/\ ∀g∈f,0<=g/\g<m.length:=fun f hf=>by
 have dw:=h.prd.ok.1;obtain⟨z,hz,_,rfl⟩:=I6 _ f hf;obtain⟨_,o2,_,_,_,o6,_⟩:=C6 (zq h.prd) (x:=z) (by unfold cE;omega);rw[<-dw]at o2 o6;exact⟨o6,fun g hg=>by have:=o2 g hg;unfold cE at this;omega⟩
theorem H5{fs:List (List Int)}{N:Nat}(hf:∀f∈fs,∀g∈f,0<=g/\g<N){x:Nat}(hx:x<N):∀i,i<=fs.length->(∃j,j<i/\(x:Int)∈fs.getD j [])->∃j:Nat,j<i/\(jt fs N i).getD x 0=j/\(x:Int)∈fs.getD j []
 |0,_,⟨j,hj,_⟩=>by omega
 |i+1,hi,⟨j,hj,FY⟩=>by
  have hm:fs.getD i []∈fs:=by rw[zB,zJ (show i<fs.length by omega)];exact List.getElem_mem _
  have hr:∀g∈fs.getD i [],0<=g/\g<(jt fs N i).length:=fun g hg=>by rw[CM];exact hf _ hm g hg
  simp only[jt];rw[S6 _ _ _ hr];by_cases e:(x:Int)∈fs.getD i []
  ·rw[zM e];exact⟨i,by omega,rfl,e⟩
  ·rw[zL e];obtain⟨k,h1,h2,h3⟩:=H5 hf hx i (by omega) ⟨j,by
    have:j≠i:=fun h=>e (h▸FY)
    omega,FY⟩
   exact⟨k,by omega,h2,h3⟩
theorem Zz{m:List Int}{n:Nat}(h:Sp.bm m n){x y:Nat}(hx:x<4*n)(hy:y<4*n)(e:(jt (pM m) m.length (pM m).length).getD x 0=(jt (pM m) m.length (pM m).length).getD y 0):
  Sp.SC (Sp.aM Sp.ai (Sp.ae m) (4*n)) x y:=by
 have dw:=h.prd.ok.1;have hp:=Sp.aN (Sp.aH n) h.aW (4*n) (zA _);have hr:∀z:Nat,z<m.length->(z:Int)∈c9 (iB m) m.length z/\ ∀g∈c9 (iB m) m.length z,0<=g/\g<m.length:=fun z hz=>by
  refine⟨(h.jh (by omega)).2 (.refl _ _),?_⟩;obtain⟨_,o2,_⟩:=C6 (zq h.prd) (x:=z) (by unfold cE;omega);rw[<-dw]at o2;exact fun g hg=>by have:=o2 g hg;unfold cE at this;omega
 have ex:∀z:Nat,z<4*n->∃j,j<(pM m).length/\(z:Int)∈(pM m).getD j []:=fun z hz=>by
  obtain⟨l,hl,iE⟩:=(Sp.q6 (want:=fun _=>true) hr m.length (zA _)).2 z (by omega) rfl;obtain⟨j,hj,e⟩:=List.getElem_of_mem (show l∈pM m from hl);exact⟨j,hj,by rw[zB,zJ hj];show (z:Int)∈(pM m)[j];rw[e];exact iE⟩
 have hf:∀f∈pM m,∀g∈f,0<=g/\g<m.length:=fun f hf=>(Tu h f hf).2;obtain⟨j,j1,j2,j3⟩:=H5 hf (x:=x) (by omega) _ (zA _) (ex x hx);obtain⟨k,k1,k2,k3⟩:=H5 hf (x:=y) (by omega) _ (zA _) (ex y hy);obtain rfl:j=k:=by rw[j2,k2]at e;omega
 have hm:(pM m).getD j []∈pM m:=by rw[zB,zJ j1];exact List.getElem_mem _
 obtain⟨z,hz,_,ez⟩:=I6 _ _ hm;rw[ez]at j3 k3;have s1:=(h.jh (x:=z) (by omega)).1 j3;have s2:=(h.jh (x:=z) (by omega)).1 k3;exact(s1.symm hp (by omega)).trans s2
namespace Hs
open Sp (cb ai bJ aS ae af bI bm)
def grB:Sp.Gr Bool:=⟨xor,false,id,by decide,by decide,by decide,by decide,by decide⟩
theorem Zy{s m:List Int}{L:Int}(hv:bG s m L=true):∃g:Nat->Bool,∀x,x<4*s.length->g (ai (ae m x))=g x/\g (ae m x)= !g x:=by
 obtain⟨hd,gX⟩:=Sp.aE hv;have hS:=hd.qk.1 gX;obtain⟨g,h1,h2⟩:=Sp.cb.N6 grB _ (w:=fun _=>true) (t:=fun x=>x % 2==0) hS (zA _) (fun _ _=>rfl) (fun x hx=>by
  show (ai x % 2==0)=xor (x % 2==0) true;rcases (show x % 2=0\/x % 2=1 by omega) with h|h
  ·rw[h,show ai x % 2=1 by unfold Sp.ai;omega];rfl
  ·rw[h,show ai x % 2=0 by unfold Sp.ai;omega];rfl)
 exact⟨g,fun x hx=>⟨h1 x hx,by rw[h2 x hx];show xor (g x) true=_;cases g x<;>rfl⟩⟩
theorem y65{s m:List Int}{L:Int}(hv:bG s m L=true){x:Nat}(hx:x<4*s.length):ae m x≠af x:=by
 obtain⟨g,hg⟩:=Zy hv;obtain⟨hd,_⟩:=Sp.aE hv;have hm:=hd.aW;have sd:∀y,y<4*s.length->g (ai y)= !g y:=fun y hy=>by
  have:=hg (ae m y) (hm.lt y hy)
  rw[hm.inv y hy]at this;rw[this.1,(hg y hy).2]
 intro e;have h1:=(hg x hx).2;have h2:=sd x hx;have h3:=sd (ai x) (by unfold Sp.ai;omega);rw[show ai (ai x)=af x by unfold Sp.ai Sp.af;omega,<-e,h1,h2]at h3;cases h:g x<;>simp[h]at h3
theorem ym{s m:List Int}{L:Int}(hv:bG s m L=true){c o:Nat}(hc:c<s.length)(ho:o/4=c)(h:ae m o/4=c):kj m c o (ae m o):=
 ⟨ho,h,rfl,((Sp.aE hv).1.aW.ne o (by omega)),y65 hv (by omega)⟩
theorem yj{s m:List Int}{L:Int}(hv:bG s m L=true){h:Nat}(hh:h<4*s.length)(e:ai (ae m (ai (ae m h)))=h)(aJ:ai (ae m h)/4≠h/4)(hp:h % 2=ae m h % 2):gy m h (ae m (ai (ae m h))) (ae m h) (ai (ae m h)):=by
 obtain⟨hd,_⟩:=Sp.aE hv;have hm:=hd.aW;have l1:=hm.lt h hh;have l2:ai (ae m h)<4*s.length:=by unfold Sp.ai;omega
 have l3:=hm.inv _ l2;have d1:=Sp.bU (ae m h);have d2:=Sp.bU (ae m (ai (ae m h)));rw[e]at d2;refine⟨d2.symm,d1,by omega,rfl,l3,?_,?_,hp⟩
 ·have:ai (ae m (ai (ae m h)))% 2≠ae m (ai (ae m h))% 2:=by unfold Sp.ai;omega
  rw[e]at this;omega
 ·unfold Sp.ai;omega
open Sp (cb ai bJ aS ae af bI bm KK SC aM)
section
variable{s m m':List Int}{L L':Int}{a b:Int}{PE PN PW PS QE QN QW QS:Nat}{fX fY:Bool}
theorem Ft(K:Pk a b PE PN PW PS QE QN QW QS fX fY)(n:Nat):af (4*n+PE)=4*n+PW/\af (4*n+PN)=4*n+PS/\af (4*n+QW)=4*n+QE/\af (4*n+QN)=4*n+QS:=by
 have hl:=K.l;have o1:=K.o1;have o2:=K.o2;have o3:=K.o3;have o4:=K.o4;refine⟨?_,?_,?_,?_⟩
 ·unfold Sp.af;clear o2 o3 o4;omega
 ·unfold Sp.af;clear o1 o3 o4;omega
 ·unfold Sp.af;clear o1 o2 o4;omega
 ·unfold Sp.af;clear o1 o2 o3;omega
theorem Zx(K:Pk a b PE PN PW PS QE QN QW QS fX fY):PN % 2≠PE % 2/\QN % 2≠QW % 2/\PE % 2=QW % 2:=by
 have hl:=K.l;have r1:=K.r1;have r2:=K.r2;have o3:=K.o3;refine⟨?_,?_,K.par⟩
 ·clear r2 o3;omega
 ·clear r1;omega
theorem y3b{m2:List Int}(hv:bG s m L=true)(hn:s.length+2<=64)(h2:bG [a,b] m2 0=true){x y:Nat}(hx:x<4*s.length)(hy:y<8)(ho:aB s (x:Int)=aB [a,b] (y:Int))(hl:m'.length=4*(s.length+2))
  (fL:∀z,z<4*(s.length+2)->m'.getD z 0=(dh (ae (Sp.gR m m2)) x (4*s.length+y) z:Nat)):bG (s++[a,b]) m' L=true:=by
 have v:=gP hv;obtain⟨dW,_⟩:=Sp.aE hv;obtain⟨im,_⟩:=Sp.aE h2;have hU:=Sp.fh hv h2 hn (by have:=v.mj;omega);have ij:(s++[a,b]).length=s.length+2:=by simp
 obtain⟨GH,_⟩:=Sp.aE hU;rw[ij]at GH;have tb:=dW.aW.lt x hx;have uX:ae (Sp.gR m m2) x=ae m x:=by rw[(y9 dW im (show x<4*(s.length+2) by omega)).1,zM hx]
 have oy:aB (s++[a,b]) ((4*s.length+y:Nat):Int)=aB [a,b] (y:Int):=by
  rw[show ((4*s.length+y:Nat):Int)=(y:Int)+4*s.length by omega,Sp.lX (by omega)]
 have:=Nl (m':=m') (x:=x) (y:=4*s.length+y) hU (by rw[ij];exact hl) (fun z hz=>fL z (by rw[<-ij];exact hz)) (by rw[ij];omega) (by rw[ij];omega) (by omega) (by rw[uX];omega) (by rw[oy,Sp.lY (by omega) (by omega),ho]) (.inl (by rw[ij];exact U0 (n2:=2) dW im GH.aW hx (by omega) (by omega)))
 rw[Int.add_zero]at this;exact this
end
end Hs
def kx(m:List Int):List (Nat×Nat)->List Int
 |[]=>m
 |(a,b)::r=>aY (kx m r) (a:Int) (b:Int)
def dk(f:Nat->Nat):List (Nat×Nat)->Nat->Nat
 |[],z=>f z
 |(a,b)::r,z=>if z=b then a else if z=a then b else dk f r z
namespace Hs
open Sp (cb ai bJ aS ae af bI bm KK SC aM)
theorem Iv(m:List Int):∀l,(kx m l).length=m.length
 |[]=>rfl
 |(a,b)::r=>by show (aY (kx m r) _ _).length=_;rw[ba,Iv m r]
theorem Iu{m:List Int}{f:Nat->Nat}{z:Nat}:∀(l:List (Nat×Nat)),(∀p∈l,p.1<m.length/\p.2<m.length)->(m.getD z 0=(f z:Nat)\/ ∃p∈l,z=p.1\/z=p.2)->(kx m l).getD z 0=(dk f l z:Nat)
 |[],_,hf=>by
  rcases hf with h|⟨p,hp,_⟩
  ·exact h
  ·cases hp
 |(a,b)::r,hl,hf=>by
  have gL:=hl (a,b) (.head _);show (aY (kx m r) (a:Int) (b:Int)).getD z 0=((if z=b then a else if z=a then b else dk f r z:Nat):Int);rw[xb (by rw[Iv];exact gL.1) (by rw[Iv];exact gL.2)];by_cases h1:z=b
  ·rw[zM h1,zM h1]
  rw[zL h1,zL h1];by_cases h2:z=a
  ·rw[zM h2,zM h2]
  rw[zL h2,zL h2];refine Iu r (fun p hp=>hl p (.tail _ hp)) ?_;rcases hf with h|⟨p,hp,hz⟩
  ·exact .inl h
  ·rcases zzD.1 hp with g|g
   ·rw[g]at hz;rcases hz with hz|hz
    ·exact zzA hz h2
    ·exact zzA hz h1
   ·exact .inr ⟨p,g,hz⟩
structure Oct(E pE pN pW pS qE qN qW qS:Nat):Prop where
 lo:E<=pE/\E<=pN/\E<=pW/\E<=pS/\E<=qE/\E<=qN/\E<=qW/\E<=qS
 hi:pE<E+8/\pN<E+8/\pW<E+8/\pS<E+8/\qE<E+8/\qN<E+8/\qW<E+8/\qS<E+8
 d1:pE≠pN/\pE≠pW/\pE≠pS/\pE≠qE/\pE≠qN/\pE≠qW/\pE≠qS
 d2:pN≠pW/\pN≠pS/\pN≠qE/\pN≠qN/\pN≠qW/\pN≠qS
 d3:pW≠pS/\pW≠qE/\pW≠qN/\pW≠qW/\pW≠qS
 d4:pS≠qE/\pS≠qN/\pS≠qW/\pS≠qS
 d5:qE≠qN/\qE≠qW/\qE≠qS
 d6:qN≠qW/\qN≠qS/\qW≠qS
 all:∀z,E<=z->z<E+8->z=pE\/z=pN\/z=pW\/z=pS\/z=qE\/z=qN\/z=qW\/z=qS
section
variable{a b:Int}{PE PN PW PS QE QN QW QS:Nat}{fX fY:Bool}
theorem tB(K:Pk a b PE PN PW PS QE QN QW QS fX fY)(E:Nat):Oct E (E+PE) (E+PN) (E+PW) (E+PS) (E+QE) (E+QN) (E+QW) (E+QS):=by
 have al:=fun z hz=>AZ K (z:=z) hz;obtain⟨l1,l2,l3,l4,l5,l6,l7,l8,l9,l10,nk,nj⟩:=K.l;obtain⟨s1,s2,s3⟩:=K1 K;have r1:=K.r1;have r2:=K.r2;have o1:=K.o1;have dP:PE≠PN/\PE≠PW/\PE≠PS/\PN≠PW/\PN≠PS/\PW≠PS:=by
  clear s2 s3 r2 l5 l6 l7 l8 l9 l10 nk nj al;rcases (show PE=0\/PE=1\/PE=2\/PE=3 by omega) with g|g|g|g<;>subst g<;>omega
 have dQ:QE≠QN/\QE≠QW/\QE≠QS/\QN≠QW/\QN≠QS/\QW≠QS:=by
  clear s1 r1 o1 l1 l2 l3 l4 al dP;rcases (show QE=4\/QE=5\/QE=6\/QE=7 by omega) with g|g|g|g<;>subst g<;>omega
 clear s1 s2 s3 r1 r2 o1;refine⟨by omega,by omega,by omega,by omega,by omega,by omega,by omega,by omega,fun z h1 h2=>?_⟩;rcases al (z-E) (by omega) with g|g|g|g|g|g|g|g<;>omega
end
section
variable{f:Nat->Nat}{r:List (Nat×Nat)}
theorem C3{a b c d:Nat}(h1:a≠c)(h2:a≠d)(h3:b≠c)(h4:b≠d)(z:Nat):dk f ((a,b)::(c,d)::r) z=dk f ((c,d)::(a,b)::r) z:=by
 show (if z=b then a else if z=a then b else if z=d then c else if z=c then d else dk f r z)=if z=d then c else if z=c then d else if z=b then a else if z=a then b else dk f r z;by_cases g1:z=b
 ·rw[zM g1,zL (by rw[g1];exact h4),zL (by rw[g1];exact h3),zM g1]
 ·by_cases g2:z=a
  ·rw[zL g1,zM g2,zL (by rw[g2];exact h2),zL (by rw[g2];exact h1),zL g1,zM g2]
  ·rw[zL g1,zL g2,zL g1,zL g2]
theorem S5{a b:Nat}(h:a≠b)(z:Nat):dk f ((a,b)::r) z=dk f ((b,a)::r) z:=by
 show (if z=b then a else if z=a then b else dk f r z)=if z=a then b else if z=b then a else dk f r z;by_cases g1:z=b
 ·rw[zM g1,zL (by rw[g1];exact Ne.symm h),zM g1]
 ·rw[zL g1,zL g1]
theorem Mh{a b:Nat}{l l':List (Nat×Nat)}(h:∀z,dk f l z=dk f l' z)(z:Nat):dk f ((a,b)::l) z=dk f ((a,b)::l') z:=by
 show (if z=b then a else if z=a then b else dk f l z)=if z=b then a else if z=a then b else dk f l' z;rw[h z]
theorem zi{z:Nat}:∀{l:List (Nat×Nat)},(∀p∈l,z≠p.1/\z≠p.2)->dk f l z=f z
 |[],_=>rfl
 |(a,b)::l,h=>by
  have h1:=h (a,b) (.head _);show (if z=b then a else if z=a then b else dk f l z)=f z;rw[zL h1.2,zL h1.1];exact zi fun p hp=>h p (.tail _ hp)
theorem Ct{q w y p:Nat}(h1:y≠q)(h2:y≠w)(h3:p≠q)(h4:p≠w)(h5:p≠y)(h6:q≠w)(hF:dk f ((q,w)::r) y=p)(z:Nat):dh (dk f ((q,w)::r)) y w z=dk f ((w,p)::(y,q)::r) z:=by
 have e2:dk f ((q,w)::r) w=q:=zM rfl;rw[H6 hF e2];show (if z=y then q else if z=q then y else if z=w then p else if z=p then w else if z=w then q else if z=q then w else dk f r z)=if z=p then w else if z=w then p else if z=q then y else if z=y then q else dk f r z;by_cases g1:z=y
 ·rw[zM g1,zL (by rw[g1];exact Ne.symm h5),zL (by rw[g1];exact h2),zL (by rw[g1];exact h1),zM g1]
 rw[zL g1];by_cases g2:z=q
 ·rw[zM g2,zL (by rw[g2];exact Ne.symm h3),zL (by rw[g2];exact h6),zM g2]
 rw[zL g2];by_cases g3:z=w
 ·rw[zM g3,zL (by rw[g3];exact Ne.symm h4),zM g3]
 rw[zL g3];by_cases g4:z=p
 ·rw[zM g4,zM g4]
 rw[zL g4,zL g3,zL g2,zL g4,zL g3,zL g2,zL g1]
theorem Na{N:Nat}{al al':Nat->Nat}(h:∀z,z<N->al z=al' z){x y z:Nat}(hx:x<N)(hy:y<N)(hz:z<N):dh al x y z=dh al' x y z:=by
 rw[H6 (h x hx) (h y hy),h z hz];rfl
end
theorem Tt{f g:Nat->Nat}{E w:Nat}:∀{l:List (Nat×Nat)},(∃p∈l,w=p.1\/w=p.2)->dk f (l.map fun p=>(E+p.1,E+p.2)) (E+w)=E+dk g l w
 |[],h=>by obtain⟨p,hp,_⟩:=h;cases hp
 |(a,b)::l,h=>by
  show (if E+w=E+b then E+a else if E+w=E+a then E+b else dk f (l.map fun p=>(E+p.1,E+p.2)) (E+w))=E+if w=b then a else if w=a then b else dk g l w;by_cases g1:w=b
  ·rw[zM (by rw[g1]),zM g1]
  by_cases g2:w=a
  ·rw[zL (by omega),zM (by rw[g2]),zL g1,zM g2]
  rw[zL (by omega),zL (by omega),zL g1,zL g2];obtain⟨p,hp,hz⟩:=h;rcases zzD.1 hp with k|k
  ·rw[k]at hz;rcases hz with hz|hz
   ·exact zzA hz g2
   ·exact zzA hz g1
  ·exact Tt ⟨p,k,hz⟩
section
variable{s m:List Int}{L:Int}{a b:Int}{PE PN PW PS QE QN QW QS:Nat}{fX fY:Bool}
abbrev oM(PE PN PW PS QE QN QW QS:Nat):List (Nat×Nat):=[(PS,QS),(QE,PW),(QW,PE),(PN,QN)]
abbrev qt(PE PN PW PS QE QN QW QS:Nat):List (Nat×Nat):=[(PW,PS),(QS,QE),(QW,PE),(PN,QN)]
theorem Ep(K:Pk a b PE PN PW PS QE QN QW QS fX fY){w:Nat}(hw:w<8):(∃p∈oM PE PN PW PS QE QN QW QS,w=p.1\/w=p.2)/\ ∃p∈qt PE PN PW PS QE QN QW QS,w=p.1\/w=p.2:=by
 rcases AZ K hw with g|g|g|g|g|g|g|g<;>subst g<;>refine⟨?_,?_⟩<;>simp
theorem H4(K:Pk a b PE PN PW PS QE QN QW QS fX fY):(∀p∈oM PE PN PW PS QE QN QW QS,p.1<8/\p.2<8)/\ ∀p∈qt PE PN PW PS QE QN QW QS,p.1<8/\p.2<8:=by
 obtain⟨l1,l2,l3,l4,l5,l6,l7,l8,l9,l10,nk,nj⟩:=K.l;refine⟨fun p hp=>?_,fun p hp=>?_⟩
 ·simp only[oM,zzD,zI,or_false]at hp;rcases hp with rfl|rfl|rfl|rfl<;>dsimp only<;>omega
 ·simp only[qt,zzD,zI,or_false]at hp;rcases hp with rfl|rfl|rfl|rfl<;>dsimp only<;>omega
theorem kd(K:Pk a b PE PN PW PS QE QN QW QS fX fY){w:Nat}(hw:w<8):ae (VD PE PN PW PS QE QN QW QS) w=dk (fun _=>0) (oM PE PN PW PS QE QN QW QS) w/\ae (VC PE PN PW PS QE QN QW QS) w=dk (fun _=>0) (qt PE PN PW PS QE QN QW QS) w:=
 ⟨wY (Iu (m:=[0,0,0,0,0,0,0,0]) (oM PE PN PW PS QE QN QW QS) (H4 K).1 (.inr (Ep K hw).1)),wY (Iu (m:=[0,0,0,0,0,0,0,0]) (qt PE PN PW PS QE QN QW QS) (H4 K).2 (.inr (Ep K hw).2))⟩
theorem vg{m2:List Int}{l:List (Nat×Nat)}(hv:bG s m L=true)(im:bm m2 2)(hr:∀w,w<8->ae m2 w=dk (fun _=>0) l w)(dz:∀w,w<8->∃p∈l,w=p.1\/w=p.2){z:Nat}(hz:z<4*(s.length+2)):ae (Sp.gR m m2) z=dk (ae m) (l.map fun p=>(4*s.length+p.1,4*s.length+p.2)) z:=by
 obtain⟨dW,_⟩:=Sp.aE hv;rw[(y9 dW im hz).1];by_cases h:z<4*s.length
 ·rw[zM h];refine(zi fun p hp=>?_).symm;obtain⟨q,_,rfl⟩:=zzE.1 hp;exact⟨by show z≠4*s.length+q.1;omega,by show z≠4*s.length+q.2;omega⟩
 ·rw[zL h,hr _ (by omega)]
  have:=Tt (f:=ae m) (g:=fun _=>0) (E:=4*s.length) (dz (z-4*s.length) (by omega))
  rw[show 4*s.length+(z-4*s.length)=z by omega]at this;exact this.symm
theorem Ly(hv:bG s m L=true)(l:List (Nat×Nat))(hl:∀p∈l,p.1<4*(s.length+2)/\p.2<4*(s.length+2))(dz:∀z,4*s.length<=z->z<4*(s.length+2)->∃p∈l,z=p.1\/z=p.2):
  (kx (m++[0,0,0,0,0,0,0,0]) l).length=4*(s.length+2)/\ ∀z,z<4*(s.length+2)->(kx (m++[0,0,0,0,0,0,0,0]) l).getD z 0=(dk (ae m) l z:Nat):=by
 have v:=gP hv;obtain⟨dW,_⟩:=Sp.aE hv;have dw:=v.len;have hlen:(m++[0,0,0,0,0,0,0,0]).length=4*(s.length+2):=by rw[zG,dw];show 4*s.length+8=_;omega
 refine⟨by rw[Iv,hlen],fun z hz=>Iu l (fun p hp=>by rw[hlen];exact hl p hp) ?_⟩;by_cases h:z<4*s.length
 ·left;rw[Sp.bR _ _ _ (by omega),dW.cast h]
 ·exact .inr (dz z (by omega) hz)
theorem Ju{m2:List Int}{l0 l:List (Nat×Nat)}(hv:bG s m L=true)(hn:s.length+2<=64)(h2:bG [a,b] m2 0=true)(hr:∀w,w<8->ae m2 w=dk (fun _=>0) l0 w)(td:∀w,w<8->∃p∈l0,w=p.1\/w=p.2){x y:Nat}(hx:x<4*s.length)(hy:y<8)(ho:aB s (x:Int)=aB [a,b] (y:Int))
  (hl:∀p∈l,p.1<4*(s.length+2)/\p.2<4*(s.length+2)) (dz:∀z,4*s.length<=z->z<4*(s.length+2)->∃p∈l,z=p.1\/z=p.2)
  (pg:∀z,dh (dk (ae m) (l0.map fun p=>(4*s.length+p.1,4*s.length+p.2))) x (4*s.length+y) z=dk (ae m) l z):bG (s++[a,b]) (kx (m++[0,0,0,0,0,0,0,0]) l) L=true/\ ∀z,z<4*(s.length+2)->ae (kx (m++[0,0,0,0,0,0,0,0]) l) z=dk (ae m) l z:=by
 obtain⟨j1,j2⟩:=Ly hv l hl dz;obtain⟨im,_⟩:=Sp.aE h2;obtain⟨M,hM⟩:∃M,M=kx (m++[0,0,0,0,0,0,0,0]) l:=⟨_,rfl⟩;rw[<-hM]at j1 j2⊢;clear hM hl dz;have hU:=fun w hw=>vg hv im hr td (z:=w) hw;have lx:x<4*(s.length+2):=by omega
 have ly:4*s.length+y<4*(s.length+2):=by omega
 have key:∀z,z<4*(s.length+2)->M.getD z 0=(dh (ae (Sp.gR m m2)) x (4*s.length+y) z:Nat):=fun z hz=>by
  rw[j2 z hz,<-pg z,Na hU lx ly hz]
 exact⟨y3b (m':=M) hv hn h2 hx hy ho j1 key,fun z hz=>wY (j2 z hz)⟩
end
section
variable{s m:List Int}{L:Int}{a b:Int}{PE PN PW PS QE QN QW QS:Nat}{fX fY:Bool}
theorem IW(K:Pk a b PE PN PW PS QE QN QW QS fX fY)(n x p:Nat)(hx:x<4*n)(hp:p<4*n){l:List (Nat×Nat)}(h1:∀q∈l,(q.1=x\/q.1=p\/ ∃w,w<8/\q.1=4*n+w)/\(q.2=x\/q.2=p\/ ∃w,w<8/\q.2=4*n+w))(h2:∀w,w=PE\/w=PN\/w=PW\/w=PS\/w=QE\/w=QN\/w=QW\/w=QS->∃q∈l,4*n+w=q.1\/4*n+w=q.2):
  (∀q∈l,q.1<4*(n+2)/\q.2<4*(n+2))/\ ∀z,4*n<=z->z<4*(n+2)->∃q∈l,z=q.1\/z=q.2:=by
 refine⟨fun q hq=>?_,fun z nq iE=>?_⟩
 ·obtain⟨g1,g2⟩:=h1 q hq;refine⟨?_,?_⟩
  ·rcases g1 with g|g|⟨w,hw,g⟩<;>omega
  ·rcases g2 with g|g|⟨w,hw,g⟩<;>omega
 ·have:=h2 (z-4*n) (AZ K (by omega))
  rwa [show 4*n+(z-4*n)=z by omega]at this
abbrev me(E y p PE PN PW PS QE QN QW QS:Nat):List (Nat×Nat):=[(E+PS,E+QS),(E+PW,p),(y,E+QE),(E+QW,E+PE),(E+PN,E+QN)]
abbrev qx(E x p PE PN PW PS QE QN QW QS:Nat):List (Nat×Nat):=[(E+QS,p),(x,E+PS),(E+QE,E+PW),(E+QW,E+PE),(E+PN,E+QN)]
abbrev qB(E x p PE PN PW PS QE QN QW QS:Nat):List (Nat×Nat):=[(E+PW,p),(E+QS,E+QE),(x,E+PS),(E+QW,E+PE),(E+PN,E+QN)]
abbrev qA(E x p PE PN PW PS QE QN QW QS:Nat):List (Nat×Nat):=[(E+QS,p),(E+PW,E+PS),(x,E+QE),(E+QW,E+PE),(E+PN,E+QN)]
theorem Mg(K:Pk a b PE PN PW PS QE QN QW QS fX fY)(hv:bG s m L=true)(hn:s.length+2<=64){y:Nat}(hy:y<4*s.length)(ho:aB s (y:Int)=fY):
  bG (s++[a,b]) (kx (m++[0,0,0,0,0,0,0,0]) (me (4*s.length) y (ae m y) PE PN PW PS QE QN QW QS)) L=true/\ ∀z,z<4*(s.length+2)->ae (kx (m++[0,0,0,0,0,0,0,0]) (me (4*s.length) y (ae m y) PE PN PW PS QE QN QW QS)) z=dk (ae m) (me (4*s.length) y (ae m y) PE PN PW PS QE QN QW QS) z:=by
 have ha:=(Sp.aE hv).1.aW;have lp:=ha.lt y hy;have np:=ha.ne y hy;obtain⟨l1,l2,l3,l4,l5,l6,l7,l8,l9,l10,nk,nj⟩:=K.l;obtain⟨lo,hi,d1,d2,d3,d4,d5,d6,al⟩:=tB K 0;simp only[Nat.zero_add]at d1 d2 d3 d4 d5 d6;clear lo hi al;obtain⟨r1,r2⟩:=IW K s.length y (ae m y) hy lp (l:=me (4*s.length) y (ae m y) PE PN PW PS QE QN QW QS) (fun q hq=>by
  simp only[me,zzD,zI,or_false]at hq;rcases hq with rfl|rfl|rfl|rfl|rfl
  ·exact⟨.inr (.inr ⟨PS,by omega,rfl⟩),.inr (.inr ⟨QS,by omega,rfl⟩)⟩
  ·exact⟨.inr (.inr ⟨PW,by omega,rfl⟩),.inr (.inl rfl)⟩
  ·exact⟨.inl rfl,.inr (.inr ⟨QE,by omega,rfl⟩)⟩
  ·exact⟨.inr (.inr ⟨QW,by omega,rfl⟩),.inr (.inr ⟨PE,by omega,rfl⟩)⟩
  ·exact⟨.inr (.inr ⟨PN,by omega,rfl⟩),.inr (.inr ⟨QN,by omega,rfl⟩)⟩) (fun w hw=>by
  rcases hw with rfl|rfl|rfl|rfl|rfl|rfl|rfl|rfl<;>simp)
 refine Ju (l0:=[(QE,PW),(PS,QS),(QW,PE),(PN,QN)]) (y:=PW) hv hn K.v0 (fun w hw=>?_) (fun w hw=>?_) hy (by omega) (by rw[ho,K.oW]) r1 r2 fun z=>?_
 ·rw[(kd K hw).1];exact C3 (by omega) (by omega) (by omega) (by omega) w
 ·rcases AZ K hw with rfl|rfl|rfl|rfl|rfl|rfl|rfl|rfl<;>simp
 ·have e:=Ct (f:=ae m) (q:=4*s.length+QE) (w:=4*s.length+PW) (y:=y) (p:=ae m y) (r:=[(4*s.length+PS,4*s.length+QS),(4*s.length+QW,4*s.length+PE),(4*s.length+PN,4*s.length+QN)]) (by omega) (by omega) (by omega) (by omega) np (by omega) (zi fun q hq=>by
   simp only[zzD,zI,or_false]at hq;rcases hq with rfl|rfl|rfl|rfl<;>exact⟨by dsimp only;omega,by dsimp only;omega⟩) z
  refine e.trans ?_;refine(Mh (fun z=>C3 (a:=y) (b:=4*s.length+QE) (c:=4*s.length+PS) (d:=4*s.length+QS) (by omega) (by omega) (by omega) (by omega) z) z).trans ?_;exact C3 (by omega) (by omega) (by omega) (by omega) z
theorem y3c(K:Pk a b PE PN PW PS QE QN QW QS fX fY)(hv:bG s m L=true)(hn:s.length+2<=64){x:Nat}(hx:x<4*s.length)(ho:aB s (x:Int)=fX):
  bG (s++[a,b]) (kx (m++[0,0,0,0,0,0,0,0]) (qx (4*s.length) x (ae m x) PE PN PW PS QE QN QW QS)) L=true/\ ∀z,z<4*(s.length+2)->ae (kx (m++[0,0,0,0,0,0,0,0]) (qx (4*s.length) x (ae m x) PE PN PW PS QE QN QW QS)) z=dk (ae m) (qx (4*s.length) x (ae m x) PE PN PW PS QE QN QW QS) z:=by
 have ha:=(Sp.aE hv).1.aW;have lp:=ha.lt x hx;have np:=ha.ne x hx;obtain⟨l1,l2,l3,l4,l5,l6,l7,l8,l9,l10,nk,nj⟩:=K.l;obtain⟨lo,hi,d1,d2,d3,d4,d5,d6,al⟩:=tB K 0;simp only[Nat.zero_add]at d1 d2 d3 d4 d5 d6;clear lo hi al;obtain⟨r1,r2⟩:=IW K s.length x (ae m x) hx lp (l:=qx (4*s.length) x (ae m x) PE PN PW PS QE QN QW QS) (fun q hq=>by
  simp only[qx,zzD,zI,or_false]at hq;rcases hq with rfl|rfl|rfl|rfl|rfl
  ·exact⟨.inr (.inr ⟨QS,by omega,rfl⟩),.inr (.inl rfl)⟩
  ·exact⟨.inl rfl,.inr (.inr ⟨PS,by omega,rfl⟩)⟩
  ·exact⟨.inr (.inr ⟨QE,by omega,rfl⟩),.inr (.inr ⟨PW,by omega,rfl⟩)⟩
  ·exact⟨.inr (.inr ⟨QW,by omega,rfl⟩),.inr (.inr ⟨PE,by omega,rfl⟩)⟩
  ·exact⟨.inr (.inr ⟨PN,by omega,rfl⟩),.inr (.inr ⟨QN,by omega,rfl⟩)⟩) (fun w hw=>by
  rcases hw with rfl|rfl|rfl|rfl|rfl|rfl|rfl|rfl<;>simp)
 refine Ju (l0:=oM PE PN PW PS QE QN QW QS) (y:=QS) hv hn K.v0 (fun w hw=>(kd K hw).1) (fun w hw=>(Ep K hw).1) hx (by omega) (by rw[ho,K.oS]) r1 r2 fun z=>?_
 exact Ct (f:=ae m) (q:=4*s.length+PS) (w:=4*s.length+QS) (y:=x) (p:=ae m x) (r:=[(4*s.length+QE,4*s.length+PW),(4*s.length+QW,4*s.length+PE),(4*s.length+PN,4*s.length+QN)]) (by omega) (by omega) (by omega) (by omega) np (by omega) (zi fun q hq=>by
   simp only[zzD,zI,or_false]at hq;rcases hq with rfl|rfl|rfl|rfl<;>exact⟨by dsimp only;omega,by dsimp only;omega⟩) z
end
section
variable{s m:List Int}{L:Int}{a b:Int}{PE PN PW PS QE QN QW QS:Nat}{fX fY:Bool}
theorem y3d(K:Pk a b PE PN PW PS QE QN QW QS fX fY)(hf:fX=fY)(hv:bG s m L=true)(hn:s.length+2<=64){x:Nat}(hx:x<4*s.length)(ho:aB s (x:Int)=fX):
  bG (s++[a,b]) (kx (m++[0,0,0,0,0,0,0,0]) (qB (4*s.length) x (ae m x) PE PN PW PS QE QN QW QS)) L=true/\ ∀z,z<4*(s.length+2)->ae (kx (m++[0,0,0,0,0,0,0,0]) (qB (4*s.length) x (ae m x) PE PN PW PS QE QN QW QS)) z=dk (ae m) (qB (4*s.length) x (ae m x) PE PN PW PS QE QN QW QS) z:=by
 have ha:=(Sp.aE hv).1.aW;have lp:=ha.lt x hx;have np:=ha.ne x hx;obtain⟨l1,l2,l3,l4,l5,l6,l7,l8,l9,l10,nk,nj⟩:=K.l;obtain⟨lo,hi,d1,d2,d3,d4,d5,d6,al⟩:=tB K 0;simp only[Nat.zero_add]at d1 d2 d3 d4 d5 d6;clear lo hi al;obtain⟨r1,r2⟩:=IW K s.length x (ae m x) hx lp (l:=qB (4*s.length) x (ae m x) PE PN PW PS QE QN QW QS) (fun q hq=>by
  simp only[qB,zzD,zI,or_false]at hq;rcases hq with rfl|rfl|rfl|rfl|rfl
  ·exact⟨.inr (.inr ⟨PW,by omega,rfl⟩),.inr (.inl rfl)⟩
  ·exact⟨.inr (.inr ⟨QS,by omega,rfl⟩),.inr (.inr ⟨QE,by omega,rfl⟩)⟩
  ·exact⟨.inl rfl,.inr (.inr ⟨PS,by omega,rfl⟩)⟩
  ·exact⟨.inr (.inr ⟨QW,by omega,rfl⟩),.inr (.inr ⟨PE,by omega,rfl⟩)⟩
  ·exact⟨.inr (.inr ⟨PN,by omega,rfl⟩),.inr (.inr ⟨QN,by omega,rfl⟩)⟩) (fun w hw=>by
  rcases hw with rfl|rfl|rfl|rfl|rfl|rfl|rfl|rfl<;>simp)
 refine Ju (l0:=[(PS,PW),(QS,QE),(QW,PE),(PN,QN)]) (y:=PW) hv hn (K.v1 hf) (fun w hw=>?_) (fun w hw=>?_) hx (by omega) (by rw[ho,K.oW,hf]) r1 r2 fun z=>?_
 ·rw[(kd K hw).2];exact S5 (by omega) w
 ·rcases AZ K hw with rfl|rfl|rfl|rfl|rfl|rfl|rfl|rfl<;>simp
 ·have e:=Ct (f:=ae m) (q:=4*s.length+PS) (w:=4*s.length+PW) (y:=x) (p:=ae m x) (r:=[(4*s.length+QS,4*s.length+QE),(4*s.length+QW,4*s.length+PE),(4*s.length+PN,4*s.length+QN)]) (by omega) (by omega) (by omega) (by omega) np (by omega) (zi fun q hq=>by
   simp only[zzD,zI,or_false]at hq;rcases hq with rfl|rfl|rfl|rfl<;>exact⟨by dsimp only;omega,by dsimp only;omega⟩) z
  refine e.trans ?_;exact Mh (fun z=>C3 (by omega) (by omega) (by omega) (by omega) z) z
theorem y3e(K:Pk a b PE PN PW PS QE QN QW QS fX fY)(hf:fX=fY)(hv:bG s m L=true)(hn:s.length+2<=64){x:Nat}(hx:x<4*s.length)(ho:aB s (x:Int)=fX):
  bG (s++[a,b]) (kx (m++[0,0,0,0,0,0,0,0]) (qA (4*s.length) x (ae m x) PE PN PW PS QE QN QW QS)) L=true/\ ∀z,z<4*(s.length+2)->ae (kx (m++[0,0,0,0,0,0,0,0]) (qA (4*s.length) x (ae m x) PE PN PW PS QE QN QW QS)) z=dk (ae m) (qA (4*s.length) x (ae m x) PE PN PW PS QE QN QW QS) z:=by
 have ha:=(Sp.aE hv).1.aW;have lp:=ha.lt x hx;have np:=ha.ne x hx;obtain⟨l1,l2,l3,l4,l5,l6,l7,l8,l9,l10,nk,nj⟩:=K.l;obtain⟨lo,hi,d1,d2,d3,d4,d5,d6,al⟩:=tB K 0;simp only[Nat.zero_add]at d1 d2 d3 d4 d5 d6;clear lo hi al;obtain⟨r1,r2⟩:=IW K s.length x (ae m x) hx lp (l:=qA (4*s.length) x (ae m x) PE PN PW PS QE QN QW QS) (fun q hq=>by
  simp only[qA,zzD,zI,or_false]at hq;rcases hq with rfl|rfl|rfl|rfl|rfl
  ·exact⟨.inr (.inr ⟨QS,by omega,rfl⟩),.inr (.inl rfl)⟩
  ·exact⟨.inr (.inr ⟨PW,by omega,rfl⟩),.inr (.inr ⟨PS,by omega,rfl⟩)⟩
  ·exact⟨.inl rfl,.inr (.inr ⟨QE,by omega,rfl⟩)⟩
  ·exact⟨.inr (.inr ⟨QW,by omega,rfl⟩),.inr (.inr ⟨PE,by omega,rfl⟩)⟩
  ·exact⟨.inr (.inr ⟨PN,by omega,rfl⟩),.inr (.inr ⟨QN,by omega,rfl⟩)⟩) (fun w hw=>by
  rcases hw with rfl|rfl|rfl|rfl|rfl|rfl|rfl|rfl<;>simp)
 refine Ju (l0:=[(QE,QS),(PW,PS),(QW,PE),(PN,QN)]) (y:=QS) hv hn (K.v1 hf) (fun w hw=>?_) (fun w hw=>?_) hx (by omega) (by rw[ho,K.oS]) r1 r2 fun z=>?_
 ·rw[(kd K hw).2];exact(C3 (by omega) (by omega) (by omega) (by omega) w).trans (S5 (by omega) w)
 ·rcases AZ K hw with rfl|rfl|rfl|rfl|rfl|rfl|rfl|rfl<;>simp
 ·have e:=Ct (f:=ae m) (q:=4*s.length+QE) (w:=4*s.length+QS) (y:=x) (p:=ae m x) (r:=[(4*s.length+PW,4*s.length+PS),(4*s.length+QW,4*s.length+PE),(4*s.length+PN,4*s.length+QN)]) (by omega) (by omega) (by omega) (by omega) np (by omega) (zi fun q hq=>by
   simp only[zzD,zI,or_false]at hq;rcases hq with rfl|rfl|rfl|rfl<;>exact⟨by dsimp only;omega,by dsimp only;omega⟩) z
  refine e.trans ?_;exact Mh (fun z=>C3 (by omega) (by omega) (by omega) (by omega) z) z
theorem Sb{m2:List Int}{l0:List (Nat×Nat)}(K:Pk a b PE PN PW PS QE QN QW QS fX fY)(hv:bG s m L=true)(hn:s.length+2<=64)(h2:bG [a,b] m2 0=true)(hr:∀w,w<8->ae m2 w=dk (fun _=>0) l0 w)(td:∀w,w<8->∃p∈l0,w=p.1\/w=p.2)(aC:∀p∈l0,p.1<8/\p.2<8):
  bG (s++[a,b]) (kx (m++[0,0,0,0,0,0,0,0]) (l0.map fun p=>(4*s.length+p.1,4*s.length+p.2))) L=true/\ ∀z,z<4*(s.length+2)->ae (kx (m++[0,0,0,0,0,0,0,0]) (l0.map fun p=>(4*s.length+p.1,4*s.length+p.2))) z=dk (ae m) (l0.map fun p=>(4*s.length+p.1,4*s.length+p.2)) z:=by
 have v:=gP hv;obtain⟨j1,j2⟩:=Ly hv (l0.map fun p=>(4*s.length+p.1,4*s.length+p.2)) (fun p hp=>by
  obtain⟨q,hq,rfl⟩:=zzE.1 hp
  have:=aC q hq
  exact⟨by show 4*s.length+q.1<_;omega,by show 4*s.length+q.2<_;omega⟩) (fun z h1 h2=>by
  obtain⟨q,hq,hz⟩:=td (z-4*s.length) (by omega);exact⟨_,zzE.2 ⟨q,hq,rfl⟩,by
   rcases hz with hz|hz
   ·left;show z=4*s.length+q.1;omega
   ·right;show z=4*s.length+q.2;omega⟩)
 obtain⟨dW,_⟩:=Sp.aE hv;obtain⟨im,_⟩:=Sp.aE h2;have hU:=Sp.fh hv h2 hn (by have:=v.mj;omega);obtain⟨M,hM⟩:∃M,M=kx (m++[0,0,0,0,0,0,0,0]) (l0.map fun p=>(4*s.length+p.1,4*s.length+p.2)):=⟨_,rfl⟩;rw[<-hM]at j1 j2⊢;have rZ:(Sp.gR m m2).length=4*(s.length+2):=by
  have:=(gP hU).len
  rw[this];simp
 have e:M=Sp.gR m m2:=Mk (by rw[j1,rZ]) fun z hz=>by
  have tP:z<4*(s.length+2):=by omega
  rw[j2 z tP,(y9 dW im tP).2,vg hv im hr td tP]
 rw[Int.add_zero]at hU;exact⟨by rw[e];exact hU,fun z hz=>wY (j2 z hz)⟩
end
section
variable{s m:List Int}{L:Int}{a b:Int}{PE PN PW PS QE QN QW QS:Nat}{fX fY:Bool}
abbrev u4(E x px y py PE PN PW PS QE QN QW QS:Nat):List (Nat×Nat):=[(E+QS,px),(x,E+PS),(E+PW,py),(y,E+QE),(E+QW,E+PE),(E+PN,E+QN)]
theorem Fs(K:Pk a b PE PN PW PS QE QN QW QS fX fY)(n:Nat):ai (4*n+PW)=4*n+PN/\ai (4*n+QN)=4*n+QE/\ai (4*n+QE)=4*n+QS:=by
 obtain⟨l1,l2,l3,l4,l5,l6,l7,l8,l9,l10,nk,nj⟩:=K.l;obtain⟨s1,s2,s3⟩:=K1 K;have r1:=K.r1;have r2:=K.r2;have o1:=K.o1;refine⟨?_,?_,?_⟩
 ·clear r2 s1 s2 s3 l4 l5 l6 l7 l8 l9 l10 nk nj;unfold Sp.ai;omega
 ·clear r1 o1 s1 s2 s3 l1 l2 l3 l4 l9 l10 nk nj;unfold Sp.ai;omega
 ·clear r1 r2 o1 s1 s2 l1 l2 l3 l4 l7 l8 l9 l10;unfold Sp.ai;omega
structure M1(n:Nat)(al al1:Nat->Nat)(y PE PN PW PS QE QN QW QS:Nat):Prop where
 fy:al1 y=4*n+QE
 fp:al1 (al y)=4*n+PW
 qE:al1 (4*n+QE)=y
 pW:al1 (4*n+PW)=al y
 pS:al1 (4*n+PS)=4*n+QS
 qS:al1 (4*n+QS)=4*n+PS
 pE:al1 (4*n+PE)=4*n+QW
 pN:al1 (4*n+PN)=4*n+QN
 off:∀z,z<4*n->z≠y->z≠al y->al1 z=al z
theorem K0(K:Pk a b PE PN PW PS QE QN QW QS fX fY){n y:Nat}{al al1:Nat->Nat}(hy:y<4*n)(lp:al y<4*n)(np:al y≠y)(h:∀z,z<4*(n+2)->al1 z=dk al (me (4*n) y (al y) PE PN PW PS QE QN QW QS) z):M1 n al al1 y PE PN PW PS QE QN QW QS:=by
 obtain⟨l1,l2,l3,l4,l5,l6,l7,l8,l9,l10,nk,nj⟩:=K.l;obtain⟨lo,hi,d1,d2,d3,d4,d5,d6,al'⟩:=tB K 0;simp only[Nat.zero_add]at d1 d2 d3 d4 d5 d6;clear lo hi al'
 have E:∀z,dk al (me (4*n) y (al y) PE PN PW PS QE QN QW QS) z=if z=4*n+QS then 4*n+PS else if z=4*n+PS then 4*n+QS else if z=al y then 4*n+PW else if z=4*n+PW then al y else if z=4*n+QE then y else if z=y then 4*n+QE else if z=4*n+PE then 4*n+QW else if z=4*n+QW then 4*n+PE else if z=4*n+QN then 4*n+PN else if z=4*n+PN then 4*n+QN else al z:=fun z=>rfl
 refine⟨?_,?_,?_,?_,?_,?_,?_,?_,fun z hz h1 h2=>?_⟩
 ·rw[h _ (by omega),E,zL (by omega),zL (by omega),zL (Ne.symm np),zL (by omega),zL (by omega),zM rfl]
 ·rw[h _ (by omega),E,zL (by omega),zL (by omega),zM rfl]
 ·rw[h _ (by omega),E,zL (by omega),zL (by omega),zL (by omega),zL (by omega),zM rfl]
 ·rw[h _ (by omega),E,zL (by omega),zL (by omega),zL (by omega),zM rfl]
 ·rw[h _ (by omega),E,zL (by omega),zM rfl]
 ·rw[h _ (by omega),E,zM rfl]
 ·rw[h _ (by omega),E,zL (by omega),zL (by omega),zL (by omega),zL (by omega),zL (by omega),zL (by omega),zM rfl]
 ·rw[h _ (by omega),E,zL (by omega),zL (by omega),zL (by omega),zL (by omega),zL (by omega),zL (by omega),zL (by omega),zL (by omega),zL (by omega),zM rfl]
 ·rw[h _ (by omega),E,zL (by omega),zL (by omega),zL h2,zL (by omega),zL (by omega),zL h1,zL (by omega),zL (by omega),zL (by omega),zL (by omega)]
theorem y3f(K:Pk a b PE PN PW PS QE QN QW QS fX fY){n x y:Nat}{al al1:Nat->Nat}(ha:bI (4*n) al)(uQ:bI (4*(n+2)) al1)(M:M1 n al al1 y PE PN PW PS QE QN QW QS)(hx:x<4*n)(hy:y<4*n)(h:SC (aM ai al (4*n)) x y):SC (aM ai al1 (4*(n+2))) x (4*n+QS):=by
 obtain⟨l1,l2,l3,l4,l5,l6,l7,l8,l9,l10,nk,nj⟩:=K.l;obtain⟨s1,s2,s3⟩:=Fs K n;have hp:=Sp.aN (Sp.aH n) ha (4*n) (zA _);have f1:∀z,z<4*(n+2)->aM ai al1 (4*(n+2)) z=ai (al1 z):=fun z hz=>Sp.aX uQ hz;have f0:∀z,z<4*n->aM ai al (4*n) z=ai (al z):=fun z hz=>Sp.aX ha hz;have one:∀z w,z<4*(n+2)->ai (al1 z)=w->SC (aM ai al1 (4*(n+2))) z w:=fun z w hz e=>by
  have:=SC.step (aM ai al1 (4*(n+2))) z
  rw[f1 z hz,e]at this;exact this
 have step:∀z,z<4*n->z≠y->SC (aM ai al1 (4*(n+2))) z (aM ai al (4*n) z):=fun z hz hzy=>by
  rw[f0 z hz];by_cases g:z=al y
  ·have g2:al z=y:=by rw[g,ha.inv y hy]
   rw[g2];refine(one z _ (by omega) (by rw[g,M.fp,s1])).trans ((one _ _ (by omega) (by rw[M.pN,s2])).trans (one _ _ (by omega) (by rw[M.qE])))
  ·exact one z _ (by omega) (by rw[M.off z hz hzy g])
 obtain⟨k,k1,k2⟩:=Sp.oC h;have xj:∀j,j<=k->SC (aM ai al1 (4*(n+2))) x (aS (aM ai al (4*n)) j x):=fun j=>by
  induction j with
  |zero=>intro _;exact SC.refl _ _
  |succ j ih=>
   intro hj;exact(ih (by omega)).trans (step _ (hp.bW hx j) (k2 j (by omega)))
 have w:=xj k (zA _);rw[k1]at w;exact w.trans (one y _ (by omega) (by rw[M.fy,s3]))
theorem y66(K:Pk a b PE PN PW PS QE QN QW QS fX fY){n x y:Nat}{al al1:Nat->Nat}(ha:bI (4*n) al)(uQ:bI (4*(n+2)) al1)(M:M1 n al al1 y PE PN PW PS QE QN QW QS)(hx:x<4*n)(hy:y<4*n)(h:¬KK ai al (4*n) x y):¬KK ai al1 (4*(n+2)) x (4*n+QS):=fun hk=>by
 obtain⟨l1,l2,l3,l4,l5,l6,l7,l8,l9,l10,nk,nj⟩:=K.l;have hs:=Sp.aH n;have hE:=Sp.bH hs ha;have lp:=ha.lt y hy;have hp:¬KK ai al (4*n) x (al y):=fun g=>h (hE.trans _ _ _ hx lp hy g (hE.symm _ _ hy lp (Sp.bS hs ha hy)));have key:∀z,z<4*(n+2)->((z<4*n/\KK ai al (4*n) x z)↔(al1 z<4*n/\KK ai al (4*n) x (al1 z))):=fun z hz=>by
  have fwd:∀z,z<4*(n+2)->(z<4*n/\KK ai al (4*n) x z)->(al1 z<4*n/\KK ai al (4*n) x (al1 z)):=fun z _ ⟨g1,g2⟩=>by
   rw[M.off z g1 (fun e=>h (e▸g2)) (fun e=>hp (e▸g2))];exact⟨ha.lt z g1,hE.trans _ _ _ hx g1 (ha.lt z g1) g2 (Sp.bS hs ha g1)⟩
  refine⟨fwd z hz,fun g=>?_⟩
  have:=fwd _ (uQ.lt z hz) g
  rw[uQ.inv z hz]at this;exact this
 have:=Sp.bb (R:=fun u v=>((u<4*n/\KK ai al (4*n) x u)↔(v<4*n/\KK ai al (4*n) x v))) (Sp.aH (n+2)) uQ ⟨fun _ _=>Iff.rfl,fun _ _ _ _ g=>g.symm,fun _ _ _ _ _ _ g k=>g.trans k⟩ (fun z hz=>by
  have hd:=Sp.bU z;constructor
  ·rintro⟨g1,g2⟩;exact⟨by omega,hE.trans _ _ _ hx g1 (hs.lt z g1) g2 (Sp.cw hs ha g1)⟩
  ·rintro⟨g1,g2⟩;have g3:z<4*n:=by omega
   exact⟨g3,hE.trans _ _ _ hx g1 g3 g2 (hE.symm _ _ g3 g1 (Sp.cw hs ha g3))⟩) key (by omega) (by omega) hk
 have g:=this.1 ⟨hx,hE.rfl' _ hx⟩;omega
theorem XL(K:Pk a b PE PN PW PS QE QN QW QS fX fY){n:Nat}{pH:Nat->Nat}(yM:bI (4*(n+2)) pH)(e:pH (4*n+PE)=4*n+QW):KK ai pH (4*(n+2)) (4*n+PS) (4*n+QS):=by
 obtain⟨l1,l2,l3,l4,l5,l6,l7,l8,l9,l10,nk,nj⟩:=K.l;have jI:=Sp.aH (n+2);have DS:=Sp.bH jI yM;have Dp:4*n+PS<4*(n+2):=by omega
 have Ol:4*n+PE<4*(n+2):=by omega
 have VX:4*n+QW<4*(n+2):=by omega
 have lq:4*n+QS<4*(n+2):=by omega
 have t1:=Sp.nU jI yM Dp (Sp.iY.2 (show (4*n+PS)/4=(4*n+PE)/4 by omega));have t2:=Sp.bS jI yM Ol;rw[e]at t2;have t3:=Sp.nU jI yM VX (Sp.iY.2 (show (4*n+QW)/4=(4*n+QS)/4 by omega));exact DS.trans _ _ _ Dp Ol lq t1 (DS.trans _ _ _ Ol VX lq t2 t3)
theorem XK(K:Pk a b PE PN PW PS QE QN QW QS fX fY)(hv:bG s m L=true)(hn:s.length+2<=64){x y:Nat}(hx:x<4*s.length)(hy:y<4*s.length)(oy:aB s (y:Int)=fY)(ox:aB s (x:Int)=fX)(mu:x≠y)(ry:ae m x≠y)
  (hc:¬KK ai (ae m) (4*s.length) x y\/SC (aM ai (ae m) (4*s.length)) x y):
  bG (s++[a,b]) (kx (m++[0,0,0,0,0,0,0,0]) (u4 (4*s.length) x (ae m x) y (ae m y) PE PN PW PS QE QN QW QS)) L=true/\ ∀z,z<4*(s.length+2)->ae (kx (m++[0,0,0,0,0,0,0,0]) (u4 (4*s.length) x (ae m x) y (ae m y) PE PN PW PS QE QN QW QS)) z=dk (ae m) (u4 (4*s.length) x (ae m x) y (ae m y) PE PN PW PS QE QN QW QS) z:=by
 obtain⟨hv1,B5⟩:=Mg K hv hn hy oy;have ha:=(Sp.aE hv).1.aW;have lp:=ha.lt y hy;have np:=ha.ne y hy;have lpx:=ha.lt x hx;have yd:=ha.ne x hx;have Ox:x≠ae m y:=fun e=>ry (by rw[e,ha.inv y hy]);obtain⟨m1,s6⟩:∃m1,m1=kx (m++[0,0,0,0,0,0,0,0]) (me (4*s.length) y (ae m y) PE PN PW PS QE QN QW QS):=⟨_,rfl⟩;rw[<-s6]at hv1 B5;clear s6;have M:=K0 K hy lp np B5
 have ij:(s++[a,b]).length=s.length+2:=by simp
 have uQ:=(Sp.aE hv1).1.aW;rw[ij]at uQ;obtain⟨l1,l2,l3,l4,l5,l6,l7,l8,l9,l10,nk,nj⟩:=K.l;obtain⟨lo,hi,d1,d2,d3,d4,d5,d6,al⟩:=tB K 0;simp only[Nat.zero_add]at d1 d2 d3 d4 d5 d6;clear lo hi al;have D2:ae m1 x=ae m x:=M.off x hx mu Ox;obtain⟨j1,j2⟩:=Ly hv (u4 (4*s.length) x (ae m x) y (ae m y) PE PN PW PS QE QN QW QS) (fun q hq=>by
  simp only[u4,zzD,zI,or_false]at hq;rcases hq with rfl|rfl|rfl|rfl|rfl|rfl<;>dsimp only<;>omega) (fun z h1 h2=>by
  have hw:∀w,w=PE\/w=PN\/w=PW\/w=PS\/w=QE\/w=QN\/w=QW\/w=QS->∃q∈u4 (4*s.length) x (ae m x) y (ae m y) PE PN PW PS QE QN QW QS,4*s.length+w=q.1\/4*s.length+w=q.2:=fun w hw=>by
   rcases hw with rfl|rfl|rfl|rfl|rfl|rfl|rfl|rfl<;>simp
  have:=hw (z-4*s.length) (AZ K (by omega))
  rwa [show 4*s.length+(z-4*s.length)=z by omega]at this)
 have ex:∀z,dh (dk (ae m) (me (4*s.length) y (ae m y) PE PN PW PS QE QN QW QS)) x (4*s.length+QS) z=dk (ae m) (u4 (4*s.length) x (ae m x) y (ae m y) PE PN PW PS QE QN QW QS) z:=fun z=>
  Ct (f:=ae m) (q:=4*s.length+PS) (w:=4*s.length+QS) (y:=x) (p:=ae m x) (r:=[(4*s.length+PW,ae m y),(y,4*s.length+QE),(4*s.length+QW,4*s.length+PE),(4*s.length+PN,4*s.length+QN)]) (by omega) (by omega) (by omega) (by omega) yd (by omega) (zi fun q hq=>by
   simp only[zzD,zI,or_false]at hq;rcases hq with rfl|rfl|rfl|rfl|rfl<;>exact⟨by dsimp only;omega,by dsimp only;omega⟩) z
 obtain⟨M2,ph⟩:∃M2,M2=kx (m++[0,0,0,0,0,0,0,0]) (u4 (4*s.length) x (ae m x) y (ae m y) PE PN PW PS QE QN QW QS):=⟨_,rfl⟩;rw[<-ph]at j1 j2⊢;clear ph;have lx:x<4*(s.length+2):=by omega
 have lq:4*s.length+QS<4*(s.length+2):=by omega
 have fL:∀z,z<4*(s.length+2)->M2.getD z 0=(dh (ae m1) x (4*s.length+QS) z:Nat):=fun z hz=>by
  rw[j2 z hz,<-ex z,Na B5 lx lq hz]
 have h2:4*s.length+QS≠ae m1 x:=by rw[D2];omega
 have h1:4*s.length+QS≠x:=by omega
 have yM:=Tb uQ lx lq h1 h2;obtain⟨c1,c2,c3,c4⟩:=LC uQ lx lq h1 h2;rw[M.qS]at c1 c2;rw[D2]at c3 c4;have oQ:aB (s++[a,b]) ((4*s.length+QS:Nat):Int)=fX:=by
  rw[show ((4*s.length+QS:Nat):Int)=(QS:Int)+4*s.length by omega,Sp.lX (by omega)];exact K.oS
 refine⟨Nl (m':=M2) (x:=x) (y:=4*s.length+QS) hv1 (by rw[ij];exact j1) (fun z hz=>fL z (by rw[<-ij];exact hz)) (by rw[ij];exact lx) (by rw[ij];exact lq) h1 h2 (by rw[oQ,Sp.lY (by omega) (by omega),ox]) ?_,fun z hz=>wY (j2 z hz)⟩;rw[ij];rcases hc with hc|hc
 ·exact .inl (y66 K ha uQ M hx hy hc)
 ·have e:dh (ae m1) x (4*s.length+QS) (4*s.length+PE)=4*s.length+QW:=by
   rw[Be (Nat.ne_of_gt (by omega)) (Nat.ne_of_lt (by omega)) (by rw[D2];exact Nat.ne_of_gt (by omega)) (by rw[M.qS];exact fun g=>d1.2.2.1 (Nat.add_left_cancel g)),M.pE]
  have t4:=XL K yM e;have Dp:4*s.length+PS<4*(s.length+2):=by omega
  have DS:=Sp.bH (Sp.aH (s.length+2)) yM;refine .inr ⟨y3f K ha uQ M hx hy hc,?_,?_⟩
  ·have k1:=Sp.bS (Sp.aH (s.length+2)) yM lx;rw[c1]at k1;have k2:=Sp.bS (Sp.aH (s.length+2)) yM lq;rw[c3]at k2;rw[D2];exact DS.trans _ _ _ lx Dp (by omega) k1 (DS.trans _ _ _ Dp lq (by omega) t4 k2)
  ·rw[M.qS];exact DS.symm _ _ Dp lq t4
end
section
variable{s m:List Int}{L:Int}{a b:Int}{PE PN PW PS QE QN QW QS:Nat}{fX fY:Bool}
theorem jQ{al:Nat->Nat}{u w p q:Nat}(h1:al u=p)(h2:al w=q)(z:Nat):cl al u w z=if p=w then al z else if z=p then q else if z=q then p else al z:=by
 subst h1 h2;rfl
structure Ends(n:Nat)(al al':Nat->Nat)(PE PN PW PS QE QN QW QS:Nat)(k:Nat):Prop where
 pE:al' (4*n+PE)=4*n+QW
 pN:al' (4*n+PN)=4*n+QN
 cl:∀x,x<4*n->cl (cl al' (4*n+PW) (4*n+QE)) (4*n+PS) (4*n+QS) x=al x
 k:(if al' (4*n+PW)=4*n+QE then 1 else 0)+(if al' (4*n+PS)=4*n+QS then 1 else 0)+(if (al' (4*n+PW)=4*n+PS/\al' (4*n+QE)=4*n+QS)\/(al' (4*n+PW)=4*n+QS/\al' (4*n+QE)=4*n+PS) then 1 else 0)=k
theorem Ha(K:Pk a b PE PN PW PS QE QN QW QS fX fY){n y:Nat}{al al':Nat->Nat}(ha:bI (4*n) al)(hy:y<4*n)(M:M1 n al al' y PE PN PW PS QE QN QW QS):Ends n al al' PE PN PW PS QE QN QW QS 1:=by
 obtain⟨l1,l2,l3,l4,l5,l6,l7,l8,l9,l10,nk,nj⟩:=K.l;have lp:=ha.lt y hy;have F:=jQ M.pW M.qE;have fS:cl al' (4*n+PW) (4*n+QE) (4*n+PS)=4*n+QS:=by rw[F,zL (by omega),zL (by omega),zL (by omega),M.pS]
 refine⟨M.pE,M.pN,fun x hx=>?_,?_⟩
 ·rw[jQ fS rfl,zM rfl,F,zL (by omega)];by_cases g1:x=al y
  ·rw[zM g1,g1,ha.inv y hy]
  rw[zL g1];by_cases g2:x=y
  ·rw[zM g2,g2]
  rw[zL g2,M.off x hx g2 g1]
 ·rw[M.pW,M.pS,zL (by omega),zM rfl,zL];rintro (⟨g,_⟩|⟨g,_⟩)<;>omega
theorem Zw(K:Pk a b PE PN PW PS QE QN QW QS fX fY){n x y:Nat}{al al1 pH:Nat->Nat}(ha:bI (4*n) al)(hx:x<4*n)(hy:y<4*n)(mu:x≠y)(ry:x≠al y)(M:M1 n al al1 y PE PN PW PS QE QN QW QS)(uQ:bI (4*(n+2)) al1)
  (h2:∀z,z<4*(n+2)->pH z=dh al1 x (4*n+QS) z):Ends n al pH PE PN PW PS QE QN QW QS 0:=by
 obtain⟨l1,l2,l3,l4,l5,l6,l7,l8,l9,l10,nk,nj⟩:=K.l;obtain⟨lo,hi,d1,d2,d3,d4,d5,d6,al'⟩:=tB K 0;simp only[Nat.zero_add]at d1 d2 d3 d4 d5 d6;clear lo hi al';have lp:=ha.lt y hy;have lpx:=ha.lt x hx;have D2:al1 x=al x:=M.off x hx mu ry;have V:∀z,z<4*(n+2)->pH z=if z=x then 4*n+PS else if z=4*n+PS then x else if z=4*n+QS then al x else if z=al x then 4*n+QS else al1 z:=fun z hz=>by
  rw[h2 z hz,H6 D2 M.qS]
 have vE:pH (4*n+PE)=4*n+QW:=by rw[V _ (by omega),zL (by omega),zL (by omega),zL (by omega),zL (by omega),M.pE]
 have vN:pH (4*n+PN)=4*n+QN:=by rw[V _ (by omega),zL (by omega),zL (by omega),zL (by omega),zL (by omega),M.pN]
 have vW:pH (4*n+PW)=al y:=by rw[V _ (by omega),zL (by omega),zL (by omega),zL (by omega),zL (by omega),M.pW]
 have vQ:pH (4*n+QE)=y:=by rw[V _ (by omega),zL (by omega),zL (by omega),zL (by omega),zL (by omega),M.qE]
 have vS:pH (4*n+PS)=x:=by rw[V _ (by omega),zL (by omega),zM rfl]
 have vR:pH (4*n+QS)=al x:=by rw[V _ (by omega),zL (by omega),zL (by omega),zM rfl]
 have F:=jQ vW vQ;have fS:cl pH (4*n+PW) (4*n+QE) (4*n+PS)=x:=by rw[F,zL (by omega),zL (by omega),zL (by omega),vS]
 have fR:cl pH (4*n+PW) (4*n+QE) (4*n+QS)=al x:=by rw[F,zL (by omega),zL (by omega),zL (by omega),vR]
 refine⟨vE,vN,fun z hz=>?_,?_⟩
 ·rw[jQ fS fR,zL (by omega)];by_cases g1:z=x
  ·rw[zM g1,g1]
  rw[zL g1];by_cases g2:z=al x
  ·rw[zM g2,g2,ha.inv x hx]
  rw[zL g2,F,zL (by omega)];by_cases g3:z=al y
  ·rw[zM g3,g3,ha.inv y hy]
  rw[zL g3];by_cases g4:z=y
  ·rw[zM g4,g4]
  rw[zL g4,V z (by omega),zL g1,zL (by omega),zL (by omega),zL g2,M.off z hz g4 g3]
 ·rw[vW,vS,vQ,zL (by omega),zL (by omega),zL];rintro (⟨g,_⟩|⟨g,_⟩)<;>omega
end
end Hs
set_option maxHeartbeats 2000000
namespace Hs
open Sp (cb ai bJ aS ae af bI bm KK SC aM)
section
variable{s m:List Int}{L:Int}{a b:Int}{PE PN PW PS QE QN QW QS:Nat}{fX fY:Bool}
theorem Hb(K:Pk a b PE PN PW PS QE QN QW QS fX fY){n x:Nat}{al al':Nat->Nat}(ha:bI (4*n) al)(hx:x<4*n)(h:∀z,z<4*(n+2)->al' z=dk al (qx (4*n) x (al x) PE PN PW PS QE QN QW QS) z):Ends n al al' PE PN PW PS QE QN QW QS 1:=by
 obtain⟨l1,l2,l3,l4,l5,l6,l7,l8,l9,l10,nk,nj⟩:=K.l;obtain⟨lo,hi,d1,d2,d3,d4,d5,d6,pJ⟩:=tB K 0;simp only[Nat.zero_add]at d1 d2 d3 d4 d5 d6;clear lo hi pJ;have lp:=ha.lt x hx;have np:=ha.ne x hx
 have C:∀z,dk al (qx (4*n) x (al x) PE PN PW PS QE QN QW QS) z=if z=al x then 4*n+QS else if z=4*n+QS then al x else if z=4*n+PS then x else if z=x then 4*n+PS else if z=4*n+PW then 4*n+QE else if z=4*n+QE then 4*n+PW else if z=4*n+PE then 4*n+QW else if z=4*n+QW then 4*n+PE else if z=4*n+QN then 4*n+PN else if z=4*n+PN then 4*n+QN else al z:=fun z=>rfl
 have vE:al' (4*n+PE)=4*n+QW:=by rw[h _ (by omega),C,zL (by omega),zL (by omega),zL (by omega),zL (by omega),zL (by omega),zL (by omega),zM rfl]
 have vN:al' (4*n+PN)=4*n+QN:=by rw[h _ (by omega),C,zL (by omega),zL (by omega),zL (by omega),zL (by omega),zL (by omega),zL (by omega),zL (by omega),zL (by omega),zL (by omega),zM rfl]
 have vW:al' (4*n+PW)=4*n+QE:=by rw[h _ (by omega),C,zL (by omega),zL (by omega),zL (by omega),zL (by omega),zM rfl]
 have vQ:al' (4*n+QE)=4*n+PW:=by rw[h _ (by omega),C,zL (by omega),zL (by omega),zL (by omega),zL (by omega),zL (by omega),zM rfl]
 have vS:al' (4*n+PS)=x:=by rw[h _ (by omega),C,zL (by omega),zL (by omega),zM rfl]
 have vR:al' (4*n+QS)=al x:=by rw[h _ (by omega),C,zL (by omega),zM rfl]
 have F:=jQ vW vQ;have fS:cl al' (4*n+PW) (4*n+QE) (4*n+PS)=x:=by rw[F,zM rfl,vS]
 have fR:cl al' (4*n+PW) (4*n+QE) (4*n+QS)=al x:=by rw[F,zM rfl,vR]
 refine⟨vE,vN,fun z hz=>?_,?_⟩
 ·rw[jQ fS fR,zL (by omega)];by_cases g1:z=x
  ·rw[zM g1,g1]
  rw[zL g1];by_cases g2:z=al x
  ·rw[zM g2,g2,ha.inv x hx]
  rw[zL g2,F];rw[zM rfl,h z (by omega),C,zL g2,zL (by omega),zL (by omega),zL g1,zL (by omega),zL (by omega),zL (by omega),zL (by omega),zL (by omega),zL (by omega)]
 ·rw[vW,vS,vQ,zM rfl,zL (by omega),zL];rintro (⟨g,k⟩|⟨g,k⟩)<;>omega
theorem He(K:Pk a b PE PN PW PS QE QN QW QS fX fY){n x:Nat}{al al':Nat->Nat}(ha:bI (4*n) al)(hx:x<4*n)(h:∀z,z<4*(n+2)->al' z=dk al (qB (4*n) x (al x) PE PN PW PS QE QN QW QS) z):Ends n al al' PE PN PW PS QE QN QW QS 0:=by
 obtain⟨l1,l2,l3,l4,l5,l6,l7,l8,l9,l10,nk,nj⟩:=K.l;obtain⟨lo,hi,d1,d2,d3,d4,d5,d6,pJ⟩:=tB K 0;simp only[Nat.zero_add]at d1 d2 d3 d4 d5 d6;clear lo hi pJ;have lp:=ha.lt x hx;have np:=ha.ne x hx
 have C:∀z,dk al (qB (4*n) x (al x) PE PN PW PS QE QN QW QS) z=if z=al x then 4*n+PW else if z=4*n+PW then al x else if z=4*n+QE then 4*n+QS else if z=4*n+QS then 4*n+QE else if z=4*n+PS then x else if z=x then 4*n+PS else if z=4*n+PE then 4*n+QW else if z=4*n+QW then 4*n+PE else if z=4*n+QN then 4*n+PN else if z=4*n+PN then 4*n+QN else al z:=fun z=>rfl
 have vE:al' (4*n+PE)=4*n+QW:=by rw[h _ (by omega),C,zL (by omega),zL (by omega),zL (by omega),zL (by omega),zL (by omega),zL (by omega),zM rfl]
 have vN:al' (4*n+PN)=4*n+QN:=by rw[h _ (by omega),C,zL (by omega),zL (by omega),zL (by omega),zL (by omega),zL (by omega),zL (by omega),zL (by omega),zL (by omega),zL (by omega),zM rfl]
 have vW:al' (4*n+PW)=al x:=by rw[h _ (by omega),C,zL (by omega),zM rfl]
 have vQ:al' (4*n+QE)=4*n+QS:=by rw[h _ (by omega),C,zL (by omega),zL (by omega),zM rfl]
 have vS:al' (4*n+PS)=x:=by rw[h _ (by omega),C,zL (by omega),zL (by omega),zL (by omega),zL (by omega),zM rfl]
 have vR:al' (4*n+QS)=4*n+QE:=by rw[h _ (by omega),C,zL (by omega),zL (by omega),zL (by omega),zM rfl]
 have F:=jQ vW vQ;have fS:cl al' (4*n+PW) (4*n+QE) (4*n+PS)=x:=by rw[F,zL (by omega),zL (by omega),zL (by omega),vS]
 have fR:cl al' (4*n+PW) (4*n+QE) (4*n+QS)=al x:=by rw[F,zL (by omega),zL (by omega),zM rfl]
 refine⟨vE,vN,fun z hz=>?_,?_⟩
 ·rw[jQ fS fR,zL (by omega)];by_cases g1:z=x
  ·rw[zM g1,g1]
  rw[zL g1];by_cases g2:z=al x
  ·rw[zM g2,g2,ha.inv x hx]
  rw[zL g2,F];rw[zL (by omega),zL g2,zL (by omega),h z (by omega),C,zL g2,zL (by omega),zL (by omega),zL (by omega),zL (by omega),zL g1,zL (by omega),zL (by omega),zL (by omega),zL (by omega)]
 ·rw[vW,vS,vQ,zL (by omega),zL (by omega),zL];rintro (⟨g,k⟩|⟨g,k⟩)<;>omega
theorem Hc(K:Pk a b PE PN PW PS QE QN QW QS fX fY){n x:Nat}{al al':Nat->Nat}(ha:bI (4*n) al)(hx:x<4*n)(h:∀z,z<4*(n+2)->al' z=dk al (qA (4*n) x (al x) PE PN PW PS QE QN QW QS) z):Ends n al al' PE PN PW PS QE QN QW QS 0:=by
 obtain⟨l1,l2,l3,l4,l5,l6,l7,l8,l9,l10,nk,nj⟩:=K.l;obtain⟨lo,hi,d1,d2,d3,d4,d5,d6,pJ⟩:=tB K 0;simp only[Nat.zero_add]at d1 d2 d3 d4 d5 d6;clear lo hi pJ;have lp:=ha.lt x hx;have np:=ha.ne x hx
 have C:∀z,dk al (qA (4*n) x (al x) PE PN PW PS QE QN QW QS) z=if z=al x then 4*n+QS else if z=4*n+QS then al x else if z=4*n+PS then 4*n+PW else if z=4*n+PW then 4*n+PS else if z=4*n+QE then x else if z=x then 4*n+QE else if z=4*n+PE then 4*n+QW else if z=4*n+QW then 4*n+PE else if z=4*n+QN then 4*n+PN else if z=4*n+PN then 4*n+QN else al z:=fun z=>rfl
 have vE:al' (4*n+PE)=4*n+QW:=by rw[h _ (by omega),C,zL (by omega),zL (by omega),zL (by omega),zL (by omega),zL (by omega),zL (by omega),zM rfl]
 have vN:al' (4*n+PN)=4*n+QN:=by rw[h _ (by omega),C,zL (by omega),zL (by omega),zL (by omega),zL (by omega),zL (by omega),zL (by omega),zL (by omega),zL (by omega),zL (by omega),zM rfl]
 have vW:al' (4*n+PW)=4*n+PS:=by rw[h _ (by omega),C,zL (by omega),zL (by omega),zL (by omega),zM rfl]
 have vQ:al' (4*n+QE)=x:=by rw[h _ (by omega),C,zL (by omega),zL (by omega),zL (by omega),zL (by omega),zM rfl]
 have vS:al' (4*n+PS)=4*n+PW:=by rw[h _ (by omega),C,zL (by omega),zL (by omega),zM rfl]
 have vR:al' (4*n+QS)=al x:=by rw[h _ (by omega),C,zL (by omega),zM rfl]
 have F:=jQ vW vQ;have fS:cl al' (4*n+PW) (4*n+QE) (4*n+PS)=x:=by rw[F,zL (by omega),zM rfl]
 have fR:cl al' (4*n+PW) (4*n+QE) (4*n+QS)=al x:=by rw[F,zL (by omega),zL (by omega),zL (by omega),vR]
 refine⟨vE,vN,fun z hz=>?_,?_⟩
 ·rw[jQ fS fR,zL (by omega)];by_cases g1:z=x
  ·rw[zM g1,g1]
  rw[zL g1];by_cases g2:z=al x
  ·rw[zM g2,g2,ha.inv x hx]
  rw[zL g2,F];rw[zL (by omega),zL (by omega),zL g1,h z (by omega),C,zL g2,zL (by omega),zL (by omega),zL (by omega),zL (by omega),zL g1,zL (by omega),zL (by omega),zL (by omega),zL (by omega)]
 ·rw[vW,vS,vQ,zL (by omega),zL (by omega),zL];rintro (⟨g,k⟩|⟨g,k⟩)<;>omega
theorem Hg(K:Pk a b PE PN PW PS QE QN QW QS fX fY){n:Nat}{al al':Nat->Nat}(h:∀z,z<4*(n+2)->al' z=dk al ((oM PE PN PW PS QE QN QW QS).map fun p=>(4*n+p.1,4*n+p.2)) z):Ends n al al' PE PN PW PS QE QN QW QS 2:=by
 obtain⟨l1,l2,l3,l4,l5,l6,l7,l8,l9,l10,nk,nj⟩:=K.l;obtain⟨lo,hi,d1,d2,d3,d4,d5,d6,pJ⟩:=tB K 0;simp only[Nat.zero_add]at d1 d2 d3 d4 d5 d6;clear lo hi pJ
 have C:∀z,dk al ((oM PE PN PW PS QE QN QW QS).map fun p=>(4*n+p.1,4*n+p.2)) z=if z=4*n+QS then 4*n+PS else if z=4*n+PS then 4*n+QS else if z=4*n+PW then 4*n+QE else if z=4*n+QE then 4*n+PW else if z=4*n+PE then 4*n+QW else if z=4*n+QW then 4*n+PE else if z=4*n+QN then 4*n+PN else if z=4*n+PN then 4*n+QN else al z:=fun z=>rfl
 have vE:al' (4*n+PE)=4*n+QW:=by rw[h _ (by omega),C,zL (by omega),zL (by omega),zL (by omega),zL (by omega),zM rfl]
 have vN:al' (4*n+PN)=4*n+QN:=by rw[h _ (by omega),C,zL (by omega),zL (by omega),zL (by omega),zL (by omega),zL (by omega),zL (by omega),zL (by omega),zM rfl]
 have vW:al' (4*n+PW)=4*n+QE:=by rw[h _ (by omega),C,zL (by omega),zL (by omega),zM rfl]
 have vQ:al' (4*n+QE)=4*n+PW:=by rw[h _ (by omega),C,zL (by omega),zL (by omega),zL (by omega),zM rfl]
 have vS:al' (4*n+PS)=4*n+QS:=by rw[h _ (by omega),C,zL (by omega),zM rfl]
 have vR:al' (4*n+QS)=4*n+PS:=by rw[h _ (by omega),C,zM rfl]
 have F:=jQ vW vQ;have fS:cl al' (4*n+PW) (4*n+QE) (4*n+PS)=4*n+QS:=by rw[F,zM rfl,vS]
 have fR:cl al' (4*n+PW) (4*n+QE) (4*n+QS)=4*n+PS:=by rw[F,zM rfl,vR]
 refine⟨vE,vN,fun z hz=>?_,?_⟩
 ·rw[jQ fS fR,zM rfl,F];rw[zM rfl,h z (by omega),C,zL (by omega),zL (by omega),zL (by omega),zL (by omega),zL (by omega),zL (by omega),zL (by omega),zL (by omega)]
 ·rw[vW,vS,vQ,zM rfl,zM rfl,zL];rintro (⟨g,k⟩|⟨g,k⟩)<;>omega
theorem Hf(K:Pk a b PE PN PW PS QE QN QW QS fX fY){n:Nat}{al al':Nat->Nat}(h:∀z,z<4*(n+2)->al' z=dk al ((qt PE PN PW PS QE QN QW QS).map fun p=>(4*n+p.1,4*n+p.2)) z):Ends n al al' PE PN PW PS QE QN QW QS 1:=by
 obtain⟨l1,l2,l3,l4,l5,l6,l7,l8,l9,l10,nk,nj⟩:=K.l;obtain⟨lo,hi,d1,d2,d3,d4,d5,d6,pJ⟩:=tB K 0;simp only[Nat.zero_add]at d1 d2 d3 d4 d5 d6;clear lo hi pJ
 have C:∀z,dk al ((qt PE PN PW PS QE QN QW QS).map fun p=>(4*n+p.1,4*n+p.2)) z=if z=4*n+PS then 4*n+PW else if z=4*n+PW then 4*n+PS else if z=4*n+QE then 4*n+QS else if z=4*n+QS then 4*n+QE else if z=4*n+PE then 4*n+QW else if z=4*n+QW then 4*n+PE else if z=4*n+QN then 4*n+PN else if z=4*n+PN then 4*n+QN else al z:=fun z=>rfl
 have vE:al' (4*n+PE)=4*n+QW:=by rw[h _ (by omega),C,zL (by omega),zL (by omega),zL (by omega),zL (by omega),zM rfl]
 have vN:al' (4*n+PN)=4*n+QN:=by rw[h _ (by omega),C,zL (by omega),zL (by omega),zL (by omega),zL (by omega),zL (by omega),zL (by omega),zL (by omega),zM rfl]
 have vW:al' (4*n+PW)=4*n+PS:=by rw[h _ (by omega),C,zL (by omega),zM rfl]
 have vQ:al' (4*n+QE)=4*n+QS:=by rw[h _ (by omega),C,zL (by omega),zL (by omega),zM rfl]
 have vS:al' (4*n+PS)=4*n+PW:=by rw[h _ (by omega),C,zM rfl]
 have vR:al' (4*n+QS)=4*n+QE:=by rw[h _ (by omega),C,zL (by omega),zL (by omega),zL (by omega),zM rfl]
 have F:=jQ vW vQ;have fS:cl al' (4*n+PW) (4*n+QE) (4*n+PS)=4*n+QS:=by rw[F,zL (by omega),zM rfl]
 have fR:cl al' (4*n+PW) (4*n+QE) (4*n+QS)=4*n+PS:=by rw[F,zL (by omega),zL (by omega),zM rfl]
 refine⟨vE,vN,fun z hz=>?_,?_⟩
 ·rw[jQ fS fR,zM rfl,F];rw[zL (by omega),zL (by omega),zL (by omega),h z (by omega),C,zL (by omega),zL (by omega),zL (by omega),zL (by omega),zL (by omega),zL (by omega),zL (by omega),zL (by omega)]
 ·rw[vW,vS,vQ,zL (by omega),zL (by omega),zM (.inl ⟨rfl,rfl⟩)]
end
open Sp (cb ai bJ aS ae af bI bm bE)
def t3(a b c k:Nat):Nat:=if k % 3=0 then a else if k % 3=1 then b else c
def tS(x n p z:Nat):Nat:=if z=x then ai n else if z=iX x then af p else if z=af x then iX n else p
def bF(a b c z:Nat):Nat:=if z/4=a/4 then tS a b c z else if z/4=b/4 then tS b c a z else if z/4=c/4 then tS c a b z else z
theorem AY(a b c k:Nat):(t3 a b c k=a/\t3 a b c (k+1)=b/\t3 a b c (k+2)=c)\/(t3 a b c k=b/\t3 a b c (k+1)=c/\t3 a b c (k+2)=a)\/(t3 a b c k=c/\t3 a b c (k+1)=a/\t3 a b c (k+2)=b):=by
 unfold t3;rcases (show k % 3=0\/k % 3=1\/k % 3=2 by omega) with h|h|h
 ·left;rw[zM h,zL (show¬(k+1)% 3=0 by omega),zM (show (k+1)% 3=1 by omega),zL (show¬(k+2)% 3=0 by omega),zL (show¬(k+2)% 3=1 by omega)];exact⟨rfl,rfl,rfl⟩
 ·right;left;rw[zL (by omega),zM h,zL (show¬(k+1)% 3=0 by omega),zL (show¬(k+1)% 3=1 by omega),zM (show (k+2)% 3=0 by omega)];exact⟨rfl,rfl,rfl⟩
 ·right;right;rw[zL (by omega),zL (by omega),zM (show (k+1)% 3=0 by omega),zL (show¬(k+2)% 3=0 by omega),zM (show (k+2)% 3=1 by omega)];exact⟨rfl,rfl,rfl⟩
theorem CG(a b c k:Nat):t3 a b c (k+3)=t3 a b c k:=by unfold t3;rw[Nat.add_mod_right]
theorem Sa(x:Nat):iX x≠x/\af x≠x/\ai x≠x/\iX x≠af x/\iX x≠ai x/\af x≠ai x/\iX x/4=x/4/\af x/4=x/4/\ai x/4=x/4:=by
 unfold iX Sp.af Sp.ai;omega
theorem NI(x n p:Nat):tS x n p x=ai n/\tS x n p (iX x)=af p/\tS x n p (af x)=iX n/\tS x n p (ai x)=p:=by
 obtain⟨n1,n2,n3,n4,n5,n6,_,_,_⟩:=Sa x;unfold tS;refine⟨zM rfl,?_,?_,?_⟩
 ·rw[zL n1,zM rfl]
 ·rw[zL n2,zL (Ne.symm n4),zM rfl]
 ·rw[zL n3,zL (Ne.symm n5),zL (Ne.symm n6)]
theorem XJ{x z:Nat}(h:z/4=x/4):z=x\/z=iX x\/z=af x\/z=ai x:=by
 unfold iX Sp.af Sp.ai;omega
theorem Zv{a b c:Nat}(h1:a/4≠b/4)(h2:b/4≠c/4)(h3:a/4≠c/4)(k:Nat){z:Nat}(hz:z/4=t3 a b c k/4):bF a b c z=tS (t3 a b c k) (t3 a b c (k+1)) (t3 a b c (k+2)) z:=by
 unfold bF;rcases AY a b c k with ⟨e1,e2,e3⟩|⟨e1,e2,e3⟩|⟨e1,e2,e3⟩<;>rw[e1]at hz<;>rw[e1,e2,e3]
 ·rw[zM hz]
 ·rw[zL (by omega),zM hz]
 ·rw[zL (by omega),zL (by omega),zM hz]
theorem vh{N:Nat}{al:Nat->Nat}(ha:bI N al){a b c:Nat}{n:Nat}(hN:N=4*n)(la:a<N)(lb:b<N)(lc:c<N)(h1:a/4≠b/4)(h2:b/4≠c/4)(h3:a/4≠c/4)(e1:ai (al a)=b)(e2:ai (al b)=c)(e3:ai (al c)=a):
  bE N ai al (bF a b c) (t3 a b c) (fun k=>iX (t3 a b c k)) (fun k=>af (t3 a b c k)) (fun k=>ai (t3 a b c k))/\ ∀k,t3 a b c k/4≠t3 a b c (k+1)/4:=by
 have NO:∀x,iX (ai x)=x:=fun x=>by unfold iX Sp.ai;omega
 have lt:∀k,t3 a b c k<N:=fun k=>by rcases AY a b c k with ⟨g,_⟩|⟨g,_⟩|⟨g,_⟩<;>rw[g]<;>assumption
 have dq:∀k,t3 a b c k/4≠t3 a b c (k+1)/4:=fun k=>by
  rcases AY a b c k with ⟨g1,g2,_⟩|⟨g1,g2,_⟩|⟨g1,g2,_⟩<;>rw[g1,g2]
  ·exact h1
  ·exact h2
  ·exact Ne.symm h3
 have KF:∀k,t3 a b c k/4≠t3 a b c (k+2)/4:=fun k=>by
  rcases AY a b c k with ⟨g1,_,g2⟩|⟨g1,_,g2⟩|⟨g1,_,g2⟩<;>rw[g1,g2]
  ·exact h3
  ·exact Ne.symm h1
  ·exact Ne.symm h2
 have nx:∀k,ai (al (t3 a b c k))=t3 a b c (k+1):=fun k=>by
  rcases AY a b c k with ⟨g1,g2,_⟩|⟨g1,g2,_⟩|⟨g1,g2,_⟩<;>rw[g1,g2]<;>assumption
 have f4:=fun k=>Sa (t3 a b c k);have l4:∀k,iX (t3 a b c k)<N/\af (t3 a b c k)<N/\ai (t3 a b c k)<N:=fun k=>by
  obtain⟨_,_,_,_,_,_,d1,d2,d3⟩:=f4 k
  have:=lt k
  rw[hN]at this⊢;omega
 have a1:∀k,al (t3 a b c k)=iX (t3 a b c (k+1)):=fun k=>by rw[<-nx k,NO]
 have a2:∀k,al (iX (t3 a b c (k+1)))=t3 a b c k:=fun k=>by rw[<-a1 k,ha.inv _ (lt k)]
 have tv:=fun k=>NI (t3 a b c k) (t3 a b c (k+1)) (t3 a b c (k+2));have tt:=fun k z hz=>Zv h1 h2 h3 k (z:=z) hz;have same:∀k j,t3 a b c k/4=t3 a b c j/4->t3 a b c k=t3 a b c j:=fun k j e=>by
  rcases AY a b c k with ⟨g1,_,_⟩|⟨g1,_,_⟩|⟨g1,_,_⟩<;>rcases AY a b c j with ⟨g2,_,_⟩|⟨g2,_,_⟩|⟨g2,_,_⟩<;>rw[g1,g2]at e⊢ <;>first|rfl|exact zzA e h1|exact zzA e h2|exact zzA e h3|exact zzA e.symm h1|exact zzA e.symm h2|exact zzA e.symm h3
 refine⟨⟨fun k=>⟨lt k,l4 k⟩,fun k=>rfl,fun k=>?_,fun k=>?_,fun k=>?_,a1,a2,fun k=>?_,fun k=>?_,fun k=>?_,fun k=>?_,fun z hz=>?_,fun k=>?_,fun k j=>?_⟩,dq⟩
 ·show ai (ai _)=af _;rw[xN]
 ·show ai (af _)=iX _;unfold iX Sp.ai Sp.af;omega
 ·show ai (iX _)=_;unfold iX Sp.ai;omega
 ·show bF a b c (t3 a b c k)=ai (t3 a b c (k+1));rw[tt k _ rfl,(tv k).1]
 ·show bF a b c (ai (t3 a b c (k+1)))=t3 a b c k;rw[tt (k+1) _ (f4 (k+1)).2.2.2.2.2.2.2.2,(tv (k+1)).2.2.2];exact CG a b c k
 ·show bF a b c (af (t3 a b c k))=iX (t3 a b c (k+1));rw[tt k _ (f4 k).2.2.2.2.2.2.2.1,(tv k).2.2.1]
 ·show bF a b c (iX (t3 a b c (k+1)))=af (t3 a b c k);rw[tt (k+1) _ (f4 (k+1)).2.2.2.2.2.2.1,(tv (k+1)).2.1];show af (t3 a b c (k+3))=_;rw[CG]
 ·unfold bF;have off:∀k,z/4≠t3 a b c k/4:=fun k e=>by
   obtain⟨n1,n2,n3,n4⟩:=hz k;rcases XJ e with g|g|g|g
   ·exact n1 g
   ·exact n2 g
   ·exact n3 g
   ·exact n4 g
  rw[zL (show¬z/4=a/4 from off 0),zL (show¬z/4=b/4 from off 1),zL (show¬z/4=c/4 from off 2)]
 ·exact⟨CG a b c k,congrArg iX (CG a b c k),congrArg af (CG a b c k),congrArg ai (CG a b c k)⟩
 ·obtain⟨m1,m2,m3,m4,m5,m6,d1,d2,d3⟩:=f4 j;obtain⟨_,_,_,_,_,_,q1,q2,q3⟩:=f4 k;refine⟨fun e=>?_,fun e=>?_,fun e=>?_,fun e=>?_,fun e=>?_,fun e=>?_⟩
  ·have s:=same k j (by rw[e,d1]);rw[s]at e;exact m1 e.symm
  ·have s:=same k j (by rw[e,d2]);rw[s]at e;exact m2 e.symm
  ·have s:=same k j (by rw[e,d3]);rw[s]at e;exact m3 e.symm
  ·have s:=same k j (by rw[<-q1,<-d2];exact congrArg (· /4) e);rw[s]at e;exact m4 e
  ·have s:=same k j (by rw[<-q1,<-d3];exact congrArg (· /4) e);rw[s]at e;exact m5 e
  ·have s:=same k j (by rw[<-q2,<-d3];exact congrArg (· /4) e);rw[s]at e;exact m6 e
theorem Ts{s m:List Int}{L:Int}(hv:bG s m L=true){h i j:Nat}(lh:h<4*s.length)(e1:ai (ae m h)=i)(e2:ai (ae m i)=j)(e3:ai (ae m j)=h)(h1:h/4≠i/4)(h2:i/4≠j/4)(h3:h/4≠j/4):
  bE (4*s.length) ai (ae m) (bF h i j) (t3 h i j) (fun k=>iX (t3 h i j k)) (fun k=>af (t3 h i j k)) (fun k=>ai (t3 h i j k))/\ ∀k,t3 h i j k/4≠t3 h i j (k+1)/4:=by
 have ha:=(Sp.aE hv).1.aW;have hs:=Sp.aH s.length;have li:i<4*s.length:=by rw[<-e1];exact hs.lt _ (ha.lt h lh)
 have lj:j<4*s.length:=by rw[<-e2];exact hs.lt _ (ha.lt i li)
 exact vh ha rfl lh li lj h1 h2 h3 e1 e2 e3
theorem XI{s m:List Int}{L:Int}(hv:bG s m L=true){h i j:Nat}(lh:h<4*s.length)(e1:ai (ae m h)=i)(e2:ai (ae m i)=j)(e3:ai (ae m j)=h)(h1:h/4≠i/4)(h2:i/4≠j/4)(h3:h/4≠j/4):
  bG s (oL m s.length (bF h i j)) L=true:=YE hv (Ts hv lh e1 e2 e3 h1 h2 h3).1
abbrev rR(b:Bool):Int:=if b then 1 else-1
abbrev Cg(m:List Int)(n:Nat)(pos ov:Bool):List Int:=u5 m n (rX pos ov) (rV pos ov) (rW pos ov) (rU pos ov)
abbrev Cf(m:List Int)(n:Nat)(pos ov:Bool)(x:Nat):List Int:=uk m n (rX pos ov) (rV pos ov) (rW pos ov) (rU pos ov) x
abbrev z7(f:Nat->Nat->Nat->Nat->Nat->Nat->Nat->Nat->List (Nat×Nat))(fX fY ov:Bool):List (Nat×Nat):=f (slot 0 (gW fX fY ov)) (slot 1 (gW fX fY ov)) (slot 2 (gW fX fY ov)) (slot 3 (gW fX fY ov)) (4+slot 0 (cK fX fY ov)) (4+slot 1 (cK fX fY ov)) (4+slot 2 (cK fX fY ov)) (4+slot 3 (cK fX fY ov))
def z6(m:List Int)(l:List (Nat×Nat)):List Int:=kx (m++[0,0,0,0,0,0,0,0]) l
def vw(s:List Int)(fX fY ov:Bool):List Int:=s++[tJ fX fY ov,Cu fX fY ov]
def VA(s m:List Int):List (Nat×Nat)->List (Nat×Nat):=List.map fun p=>(4*s.length+p.1,4*s.length+p.2)
inductive gN(s m:List Int)(L:Int):Nat->Int->List Int->List Int->Int->Prop
 |cl (pos ov:Bool):1<=L->s.length+1<=64->gN s m L 1 (rR pos) (s++[rR pos]) (Cg m s.length pos ov) (L-1)
 |cx (pos ov:Bool) (x:Nat):x<4*s.length->aB s (x:Int)=true->s.length+1<=64->gN s m L 1 (rR pos) (s++[rR pos]) (Cf m s.length pos ov x) L
 |un (c p q:Nat) (L':Int):c<s.length->kj m c p q->L'=L+(if ae m (af p)=af q then 1 else 0)->L'<=64->gN s m L 2 (s.getD c 0) (fC s (fun i=>i==c) s.length) (dI (bB m (af p) (af q)) (fun i=>i==c) (bY [(c:Int)]) s.length) L'
 |pE (f ov:Bool):1<=L->s.length+2<=64->gN s m L 3 0 (vw s f f ov) (z6 m (VA s m (z7 qt f f ov))) (L-1)
 |pF (f ov:Bool) (x:Nat):s.length+2<=64->x<4*s.length->aB s (x:Int)=f->gN s m L 3 0 (vw s f f ov) (z6 m (z7 (qB (4*s.length) x (ae m x)) f f ov)) L
 |pG (f ov:Bool) (x:Nat):s.length+2<=64->x<4*s.length->aB s (x:Int)=f->gN s m L 3 0 (vw s f f ov) (z6 m (z7 (qA (4*s.length) x (ae m x)) f f ov)) L
 |pA (fX fY ov:Bool):2<=L->s.length+2<=64->gN s m L 3 0 (vw s fX fY ov) (z6 m (VA s m (z7 oM fX fY ov))) (L-2)
 |pY (fX fY ov:Bool) (y:Nat):1<=L->s.length+2<=64->y<4*s.length->aB s (y:Int)=fY->gN s m L 3 0 (vw s fX fY ov) (z6 m (z7 (me (4*s.length) y (ae m y)) fX fY ov)) (L-1)
 |pX (fX fY ov:Bool) (x:Nat):1<=L->s.length+2<=64->x<4*s.length->aB s (x:Int)=fX->gN s m L 3 0 (vw s fX fY ov) (z6 m (z7 (qx (4*s.length) x (ae m x)) fX fY ov)) (L-1)
 |pXY (fX fY ov:Bool) (x y:Nat):s.length+2<=64->x<4*s.length->y<4*s.length->aB s (x:Int)=fX->aB s (y:Int)=fY->x≠y->ae m x≠y->(¬KK ai (ae m) (4*s.length) x y\/SC (aM ai (ae m) (4*s.length)) x y)->gN s m L 3 0 (vw s fX fY ov) (z6 m (z7 (u4 (4*s.length) x (ae m x) y (ae m y)) fX fY ov)) L
 |up (lo hi p1 p2 q1 q2:Nat) (L':Int):lo<hi->hi<s.length->gy m p1 p2 q1 q2->ai q1=q2/\ai p2=p1->((p1/4=lo/\q1/4=hi)\/(p1/4=hi/\q1/4=lo))->L'=L+(if ae m (af p1)=af q1 then 1 else 0)+(if ae (bB m (af p1) (af q1)) (af p2)=af q2 then 1 else 0)->L'<=64->
  gN s m L 4 0 (fC s (Q2 lo hi) s.length) (dI (bB (bB m (af p1) (af q1)) (af p2) (af q2)) (Q2 lo hi) (bY [(lo:Int),(hi:Int)]) s.length) L'
 |sl (h i j:Nat):h<4*s.length->ai (ae m h)=i->ai (ae m i)=j->ai (ae m j)=h->h/4≠i/4->i/4≠j/4->h/4≠j/4->¬(h % 2=i % 2/\i % 2=j % 2)->gN s m L 5 0 s (oL m s.length (bF h i j)) L
theorem E5{a b:Int}{PE PN PW PS QE QN QW QS:Nat}{fX fY:Bool}(K:Pk a b PE PN PW PS QE QN QW QS fX fY){n x px y py:Nat}{f:Nat->Nat}(hx:x<4*n)(vV:px<4*n)(hy:y<4*n)(hpy:py<4*n)(e:f x=px)(yd:px≠x)(h1:x≠y)(h2:x≠py)(z:Nat):
  dh (dk f (me (4*n) y py PE PN PW PS QE QN QW QS)) x (4*n+QS) z=dk f (u4 (4*n) x px y py PE PN PW PS QE QN QW QS) z:=by
 obtain⟨lo,hi,d1,d2,d3,d4,d5,d6,al⟩:=tB K 0;simp only[Nat.zero_add]at d1 d2 d3 d4 d5 d6;clear lo hi al;have h5:=d4.2.2.2;clear d1 d2 d3 d4 d5 d6;exact Ct (f:=f) (q:=4*n+PS) (w:=4*n+QS) (y:=x) (p:=px) (r:=[(4*n+PW,py),(y,4*n+QE),(4*n+QW,4*n+PE),(4*n+PN,4*n+QN)]) (by omega) (by omega) (by omega) (by omega) yd (by omega) (by
  rw[<-e];refine zi fun q hq=>?_;simp only[zzD,zI,or_false]at hq;rcases hq with rfl|rfl|rfl|rfl|rfl<;>exact⟨by dsimp only;omega,by dsimp only;omega⟩) z
section
variable{s m s' m':List Int}{L L':Int}{k:Nat}{g:Int}
theorem SG(hv:bG s m L=true)(h:gN s m L 1 g s' m' L'):bG s' m' L'=true/\ ∃i0 o0 i1 o1 j:Nat,sI g i0 o0 i1 o1/\s'=s++[g]/\Cr s.length (ae m) (ae m') i0 o0 i1 o1 j/\L=L'+j:=by
 cases h with
 |cl pos ov h1 h2=>exact⟨(S9 (CN pos ov) hv h2 h1).1,_,_,_,_,1,CN pos ov,rfl,Xx (CN pos ov) hv h2 h1,by omega⟩
 |cx pos ov x h1 h2 h3=>exact⟨(S8 (CN pos ov) hv h3 h1 h2).1,_,_,_,_,0,CN pos ov,rfl,XM (CN pos ov) hv h3 h1 h2,by omega⟩
theorem SF(hv:bG s m L=true)(h:gN s m L 3 g s' m' L'):bG s' m' L'=true/\ ∃(a b:Int) (PE PN PW PS QE QN QW QS:Nat) (fX fY:Bool) (j:Nat),Pk a b PE PN PW PS QE QN QW QS fX fY/\s'=s++[a,b]/\Ends s.length (ae m) (ae m') PE PN PW PS QE QN QW QS j/\L=L'+j:=by
 have v:=gP hv;have hd:=(Sp.aE hv).1;have ha:=hd.aW;have l0:=v.l0;have mj:=v.mj;cases h with
 |pE f ov h1 h2=>
  have K:=AU f f ov;have r:=Sb K hv h2 (K.v1 rfl) (fun w hw=>(kd K hw).2) (fun w hw=>(Ep K hw).2) (H4 K).2;have kO:=Er (L':=L-1) r.1 (by omega) (by omega);exact⟨kO,_,_,_,_,_,_,_,_,_,_,_,_,_,K,rfl,Hf K r.2,by omega⟩
 |pF f ov x h1 h2 h3=>
  have K:=AU f f ov;have r:=y3d K rfl hv h1 h2 h3;exact⟨r.1,_,_,_,_,_,_,_,_,_,_,_,_,_,K,rfl,He K ha h2 r.2,by omega⟩
 |pG f ov x h1 h2 h3=>
  have K:=AU f f ov;have r:=y3e K rfl hv h1 h2 h3;exact⟨r.1,_,_,_,_,_,_,_,_,_,_,_,_,_,K,rfl,Hc K ha h2 r.2,by omega⟩
 |pA fX fY ov h1 h2=>
  have K:=AU fX fY ov;have r:=Sb K hv h2 K.v0 (fun w hw=>(kd K hw).1) (fun w hw=>(Ep K hw).1) (H4 K).1;have kO:=Er (L':=L-2) r.1 (by omega) (by omega);exact⟨kO,_,_,_,_,_,_,_,_,_,_,_,_,_,K,rfl,Hg K r.2,by omega⟩
 |pY fX fY ov y h1 h2 h3 h4=>
  have K:=AU fX fY ov;have r:=Mg K hv h2 h3 h4;have kO:=Er (L':=L-1) r.1 (by omega) (by omega);exact⟨kO,_,_,_,_,_,_,_,_,_,_,_,_,_,K,rfl,Ha K ha h3 (K0 K h3 (ha.lt _ h3) (ha.ne _ h3) r.2),by omega⟩
 |pX fX fY ov x h1 h2 h3 h4=>
  have K:=AU fX fY ov;have r:=y3c K hv h2 h3 h4;have kO:=Er (L':=L-1) r.1 (by omega) (by omega);exact⟨kO,_,_,_,_,_,_,_,_,_,_,_,_,_,K,rfl,Hb K ha h3 r.2,by omega⟩
 |pXY fX fY ov x y h1 h2 h3 h4 h5 h6 h7 h8=>
  have K:=AU fX fY ov;have r:=XK K hv h1 h2 h3 h5 h4 h6 h7 h8;have r1:=Mg K hv h1 h3 h5;have dW:=(Sp.aE r1.1).1;rw[zG,show s.length+[tJ fX fY ov,Cu fX fY ov].length=s.length+2 from rfl]at dW;refine⟨r.1,_,_,_,_,_,_,_,_,_,_,_,_,_,K,rfl,Zw K ha h2 h3 h6 (fun e=>h7 (by rw[e,ha.inv _ h3])) (K0 K h3 (ha.lt _ h3) (ha.ne _ h3) r1.2) dW.aW fun z hz=>?_,by omega⟩
  have kf:x≠ae m y:=fun e=>h7 (by rw[e,ha.inv _ h3]);rw[show ae (z6 m (z7 (u4 (4*s.length) x (ae m x) y (ae m y)) fX fY ov)) z=_ from r.2 z hz,<-E5 K h2 (ha.lt _ h2) h3 (ha.lt _ h3) rfl (ha.ne _ h2) h6 kf z];exact(Na r1.2 (by omega) (by have:=K.l;omega) hz).symm
theorem oi(hv:bG s m L=true)(h:gN s m L k g s' m' L'):bG s' m' L'=true:=by
 rcases (show k=1\/k=3\/k≠1/\k≠3 by omega) with rfl|rfl|⟨n1,n3⟩
 ·exact(SG hv h).1
 ·exact(SF hv h).1
 cases h with
 |un c p q _ h1 h2 h3 h4=>exact Y2 hv h1 h2 h3 h4
 |up lo hi p1 p2 q1 q2 _ h1 h2 h3 _ h4 h5 h6=>exact Y1 hv h1 h2 h3 h4 (by rw[h5];split<;>split<;>omega) h6
 |sl h i j lh e1 e2 e3 h1 h2 h3 hp=>exact XI hv lh e1 e2 e3 h1 h2 h3
 |_=>omega
end
section
variable{N:Nat}{al aj h g H G:Nat->Nat}
def jq(H G:Nat->Nat)(u:Nat):Prop:=∃k,u=H k\/u=G k
theorem Fp(T:bE N ai al aj h g H G)(ha:bI N al){u:Nat}(hu:u<N):aj (al (aj (aj u)))=aj (al u)/\aj (al (aj (aj (al u))))=aj u:=by
 rw[T.tt,T.tt,ha.inv u hu];exact⟨rfl,rfl⟩
theorem Fo(T:bE N ai al aj h g H G)(ha:bI N al){u:Nat}(hu:u<N)(ho:jq H G u):jq H G (al u)\/aj (al u)=al u:=by
 have hi:=ha.inv u hu;rcases T.cases (al u) with ⟨k,e⟩|⟨k,e⟩|⟨k,e⟩|⟨k,e⟩|e
 ·exfalso;rw[e,T.a1]at hi;obtain⟨j,h1|h1⟩:=ho
  ·exact(T.dis (k+1) j).2.2.2.1 (hi.trans h1)
  ·exact(T.dis (k+1) j).2.2.2.2.1 (hi.trans h1)
 ·exfalso;rw[e,T.oF]at hi;obtain⟨j,h1|h1⟩:=ho
  ·exact(T.dis (k+2) j).2.1 (hi.trans h1)
  ·exact(T.dis (k+2) j).2.2.1 (hi.trans h1)
 ·exact .inl ⟨k,.inl e⟩
 ·exact .inl ⟨k,.inr e⟩
 ·exact .inr (T.t0 _ e)
theorem Zu(T:bE N ai al aj h g H G)(ha:bI N al){M:Nat->Nat}(h1:∀x,x<N->M x=aj (al (aj x))\/M x=al x)
  (h2:∀u,u<N->jq H G u->M (aj u)=aj (al u)/\M (aj (al u))=aj u/\M u=aj (al (aj u))):∀x,x<N->M x=aj (al (aj x)):=fun x hx=>by
 rcases T.cases x with ⟨k,rfl⟩|⟨k,rfl⟩|⟨k,rfl⟩|⟨k,rfl⟩|e
 ·have:=(h2 (G (k+1)) (T.lt _).2.2.2 ⟨_,.inr rfl⟩).1
  rw[T.t2]at this;rw[this,T.t1]
 ·have e1:aj (H (k+2))=g k:=by rw[<-T.vj,T.tt]
  have:=(h2 (H (k+2)) (T.lt _).2.2.1 ⟨_,.inl rfl⟩).1
  rw[e1]at this;rw[this,T.vj]
 ·exact(h2 _ hx ⟨_,.inl rfl⟩).2.2
 ·exact(h2 _ hx ⟨_,.inr rfl⟩).2.2
 ·have t0:=T.t0 x e;have ou:∀u,jq H G u->al x=u->M x=aj (al (aj x)):=fun u hu eu=>by
   have hl:u<N:=by rw[<-eu];exact ha.lt x hx
   have ex:al u=x:=by rw[<-eu,ha.inv x hx]
   have:=(h2 u hl hu).2.1
   rw[ex,t0]at this;rw[this,t0,eu]
  have hi:=ha.inv x hx;rcases T.cases (al x) with ⟨k,ea⟩|⟨k,ea⟩|⟨k,ea⟩|⟨k,ea⟩|ea
  ·exfalso;rw[ea,T.a1]at hi;exact(e (k+1)).2.1 hi.symm
  ·exfalso;rw[ea,T.oF]at hi;exact(e (k+2)).1 hi.symm
  ·exact ou _ ⟨k,.inl rfl⟩ ea
  ·exact ou _ ⟨k,.inr rfl⟩ ea
  ·rcases h1 x hx with g1|g1
   ·exact g1
   ·rw[g1,t0,T.t0 _ ea]
end
structure re(al:Nat->Nat)(H g G h:Nat)(b o n a:Nat):Prop where
 c:(b=H/\o=h/\n=g/\a=G)\/(b=G/\o=g/\n=h/\a=H)
def p5(F:Nat->Nat)(b o n a:Nat)(x:Nat):Nat:=if x=a then o else if x=b then n else F x
theorem KZ{al:Nat->Nat}{Hk gk Gk hk b o n a:Nat}(E:re al Hk gk Gk hk b o n a)(aJ:Hk≠Gk)(F:Nat->Nat)(x:Nat):p5 F b o n a x=if x=Hk then gk else if x=Gk then hk else F x:=by
 unfold p5;rcases E.c with ⟨rfl,rfl,rfl,rfl⟩|⟨rfl,rfl,rfl,rfl⟩
 ·by_cases h1:x=b
  ·subst h1;rw[zL aJ,zM rfl,zM rfl]
  ·rw[zL h1,zL h1]
 ·rfl
def rO(F:Nat->Bool)(b a:Nat)(x:Nat):Bool:=if x=a then true else if x=b then true else F x
theorem KY{al:Nat->Nat}{Hk gk Gk hk b o n a:Nat}(E:re al Hk gk Gk hk b o n a)(F:Nat->Bool)(x:Nat):rO F b a x=true↔(x=Hk\/x=Gk\/F x=true):=by
 unfold rO;rcases E.c with ⟨rfl,_,_,rfl⟩|⟨rfl,_,_,rfl⟩
 ·by_cases h1:x=a
  ·simp[h1]
  ·by_cases h2:x=b<;>simp[h1,h2]
 ·by_cases h1:x=a
  ·simp[h1]
  ·by_cases h2:x=b<;>simp[h1,h2]
section
variable{N:Nat}{al aj h g H G:Nat->Nat}
theorem JB(T:bE N ai al aj h g H G)(u:Nat):jq H G u↔(u=H 0\/u=G 1)\/(u=H 1\/u=G 2)\/u=H 2\/u=G 3:=by
 have pe:∀q r,H (3*q+r)=H r/\G (3*q+r)=G r:=fun q r=>by
  induction q with
  |zero=>rw[show 3*0+r=r by omega];exact⟨rfl,rfl⟩
  |succ q ih=>
   have:=T.fD (3*q+r)
   rw[show 3*(q+1)+r=3*q+r+3 by omega,this.2.2.1,this.2.2.2];exact ih
 constructor
 ·rintro⟨k,e|e⟩
  ·rw[show k=3*(k/3)+k % 3 by omega,(pe _ _).1]at e;rcases (show k % 3=0\/k % 3=1\/k % 3=2 by omega) with g1|g1|g1<;>rw[g1]at e
   ·exact .inl (.inl e)
   ·exact .inr (.inl (.inl e))
   ·exact .inr (.inr (.inl e))
  ·rw[show k=3*(k/3)+k % 3 by omega,(pe _ _).2]at e;rcases (show k % 3=0\/k % 3=1\/k % 3=2 by omega) with g1|g1|g1<;>rw[g1]at e
   ·refine .inr (.inr (.inr ?_));rw[e];exact(T.fD 0).2.2.2.symm
   ·exact .inl (.inr e)
   ·exact .inr (.inl (.inr e))
 ·rintro ((e|e)|(e|e)|e|e)
  ·exact⟨0,.inl e⟩
  ·exact⟨1,.inr e⟩
  ·exact⟨1,.inl e⟩
  ·exact⟨2,.inr e⟩
  ·exact⟨2,.inl e⟩
  ·exact⟨3,.inr e⟩
theorem NH(T:bE N ai al aj h g H G){b0 o0 n0 a0 b1 o1 n1 a1 b2 o2 n2 a2:Nat}(E0:re al (H 0) (g 1) (G 1) (h 0) b0 o0 n0 a0)(E1:re al (H 1) (g 2) (G 2) (h 1) b1 o1 n1 a1)(E2:re al (H 2) (g 3) (G 3) (h 2) b2 o2 n2 a2)(x:Nat):
  (jq H G x->p5 (p5 (p5 id b0 o0 n0 a0) b1 o1 n1 a1) b2 o2 n2 a2 x=aj x)/\(¬jq H G x->p5 (p5 (p5 id b0 o0 n0 a0) b1 o1 n1 a1) b2 o2 n2 a2 x=x):=by
 have d:=T.dis;rw[KZ E2 (d 2 3).2.2.2.2.2,KZ E1 (d 1 2).2.2.2.2.2,KZ E0 (d 0 1).2.2.2.2.2];constructor
 ·intro ho;by_cases c1:x=H 2
  ·rw[zM c1,c1,T.t3]
  ·by_cases c2:x=G 3
   ·rw[zL c1,zM c2,c2,T.t2]
   ·by_cases c3:x=H 1
    ·rw[zL c1,zL c2,zM c3,c3,T.t3]
    ·by_cases c4:x=G 2
     ·rw[zL c1,zL c2,zL c3,zM c4,c4,T.t2]
     ·by_cases c5:x=H 0
      ·rw[zL c1,zL c2,zL c3,zL c4,zM c5,c5,T.t3]
      ·by_cases c6:x=G 1
       ·rw[zL c1,zL c2,zL c3,zL c4,zL c5,zM c6,c6,T.t2]
       ·exfalso;rcases (JB T x).1 ho with (e|e)|(e|e)|e|e
        ·exact c5 e
        ·exact c6 e
        ·exact c3 e
        ·exact c4 e
        ·exact c1 e
        ·exact c2 e
 ·intro ho;have hn:=fun e=>ho ((JB T x).2 e);rw[zL fun e=>hn (.inr (.inr (.inl e))),zL fun e=>hn (.inr (.inr (.inr e))),zL fun e=>hn (.inr (.inl (.inl e))),zL fun e=>hn (.inr (.inl (.inr e))),zL fun e=>hn (.inl (.inl e)),zL fun e=>hn (.inl (.inr e))];rfl
theorem Oa(T:bE N ai al aj h g H G){b0 o0 n0 a0 b1 o1 n1 a1 b2 o2 n2 a2:Nat}(E0:re al (H 0) (g 1) (G 1) (h 0) b0 o0 n0 a0)(E1:re al (H 1) (g 2) (G 2) (h 1) b1 o1 n1 a1)(E2:re al (H 2) (g 3) (G 3) (h 2) b2 o2 n2 a2)(x:Nat):
  rO (rO (rO (fun _=>false) b0 a0) b1 a1) b2 a2 x=true↔jq H G x:=by
 rw[KY E2,KY E1,KY E0,JB T x];constructor
 ·rintro (e|e|e|e|e|e|e)
  ·exact .inr (.inr (.inl e))
  ·exact .inr (.inr (.inr e))
  ·exact .inr (.inl (.inl e))
  ·exact .inr (.inl (.inr e))
  ·exact .inl (.inl e)
  ·exact .inl (.inr e)
  ·cases e
 ·rintro ((e|e)|(e|e)|e|e)
  ·exact .inr (.inr (.inr (.inr (.inl e))))
  ·exact .inr (.inr (.inr (.inr (.inr (.inl e)))))
  ·exact .inr (.inr (.inl e))
  ·exact .inr (.inr (.inr (.inl e)))
  ·exact .inl e
  ·exact .inr (.inl e)
end
theorem sD{al:Nat->Nat}{N:Nat}(ha:bI N al){x y:Nat}(hx:x<N)(e:ai (al x)=y)(o:Nat)(ho:o=x\/o=al x):re al (af x) (iX y) (ai y) x (af o) o (al o) (af (al o)):=by
 have e1:iX y=al x:=by rw[<-e];unfold iX Sp.ai;omega
 have e2:ai y=af (al x):=by rw[<-e];unfold Sp.af Sp.ai;omega
 rcases ho with rfl|rfl
 ·exact⟨.inl ⟨rfl,rfl,e1.symm,e2.symm⟩⟩
 ·exact⟨.inr ⟨e2.symm,e1.symm,ha.inv x hx,by rw[ha.inv x hx]⟩⟩
structure y8(N:Nat)(al T:Nat->Nat)(M:List Int)(Z:Nat->Prop):Prop where
 len:M.length=N
 two:∀x,x<N->M.getD x 0=(T x:Nat)\/M.getD x 0=(al x:Nat)
 one:∀x,Z x->M.getD x 0=(T x:Nat)
theorem y8.join{N:Nat}{al T:Nat->Nat}{M:List Int}{Z Z':Nat->Prop}(h:y8 N al T M Z){a b:Nat}(ha:a<N)(hb:b<N)(e1:T a=b)(e2:T b=a)(hZ:∀x,Z' x->Z x\/x=a\/x=b):y8 N al T (aY M (a:Int) (b:Int)) Z':=by
 have g:∀x,(aY M (a:Int) (b:Int)).getD x 0=if x=b then (a:Int) else if x=a then (b:Int) else M.getD x 0:=xb (by rw[h.len];exact ha) (by rw[h.len];exact hb);refine⟨by rw[ba];exact h.len,fun x hx=>?_,fun x hx=>?_⟩
 ·rw[g];by_cases c1:x=b
  ·rw[zM c1,c1,e2];exact .inl rfl
  ·rw[zL c1];by_cases c2:x=a
   ·rw[zM c2,c2,e1];exact .inl rfl
   ·rw[zL c2];exact h.two x hx
 ·rw[g];by_cases c1:x=b
  ·rw[zM c1,c1,e2]
  ·rw[zL c1];by_cases c2:x=a
   ·rw[zM c2,c2,e1]
   ·rw[zL c2];rcases hZ x hx with g|g|g
    ·exact h.one x g
    ·exact zzA g c2
    ·exact zzA g c1
theorem y8.mono{N:Nat}{al T:Nat->Nat}{M:List Int}{Z Z':Nat->Prop}(h:y8 N al T M Z)(hZ:∀x,Z' x->Z x):y8 N al T M Z':=⟨h.len,h.two,fun x hx=>h.one x (hZ x hx)⟩
theorem wR{N:Nat}{al aj h g H G:Nat->Nat}(T:bE N ai al aj h g H G)(k:Nat){b o n a:Nat}(E:re al (H k) (g (k+1)) (G (k+1)) (h k) b o n a):aj (al (aj b))=a/\aj (al (aj a))=b:=by
 have e1:aj (al (aj (H k)))=G (k+1):=by rw[T.t3,T.a2,T.t1]
 have e2:aj (al (aj (G (k+1))))=H k:=by rw[T.t2,T.a1,T.t4]
 rcases E.c with ⟨rfl,_,_,rfl⟩|⟨rfl,_,_,rfl⟩
 ·exact⟨e1,e2⟩
 ·exact⟨e2,e1⟩
theorem yp{m:List Int}{n:Nat}{aj h g H G:Nat->Nat}(hd:bm m n)(T:bE (4*n) ai (ae m) aj h g H G){b0 o0 n0 a0 b1 o1 n1 a1 b2 o2 n2 a2:Nat}(E0:re (ae m) (H 0) (g 1) (G 1) (h 0) b0 o0 n0 a0)(E1:re (ae m) (H 1) (g 2) (G 2) (h 1) b1 o1 n1 a1)(E2:re (ae m) (H 2) (g 3) (G 3) (h 2) b2 o2 n2 a2){M:List Int}
  (J:y8 (4*n) (ae m) (fun x=>aj (ae m (aj x))) M fun x=>(∃u,u<4*n/\jq H G u/\(x=aj u\/x=aj (ae m u)))\/(x=b0\/x=a0)\/(x=b1\/x=a1)\/x=b2\/x=a2):M=oL m n aj:=by
 have ha:=hd.aW;have tt:∀x,x<4*n->(M.getD x 0).toNat=aj (ae m (aj x)):=by
  refine Zu T ha (M:=fun x=>(M.getD x 0).toNat) (fun x hx=>?_) fun u hu ho=>?_
  ·rcases J.two x hx with e|e<;>rw[e,zD]
   ·exact .inl rfl
   ·exact .inr rfl
  ·have t1:=Fp T ha hu;refine⟨?_,?_,?_⟩
   ·rw[J.one (aj u) (.inl ⟨u,hu,ho,.inl rfl⟩),zD];exact t1.1
   ·rw[J.one (aj (ae m u)) (.inl ⟨u,hu,ho,.inr rfl⟩),zD];exact t1.2
   ·rw[J.one u (.inr ?_),zD];have c:∀{Hk gk Gk hk b o n a:Nat},re (ae m) Hk gk Gk hk b o n a->(u=Hk\/u=Gk)->u=b\/u=a:=fun E e=>by
     rcases E.c with ⟨rfl,_,_,rfl⟩|⟨rfl,_,_,rfl⟩
     ·exact e
     ·exact e.symm
    rcases (JB T u).1 ho with e|e|e
    ·exact .inl (c E0 e)
    ·exact .inr (.inl (c E1 e))
    ·exact .inr (.inr (c E2 e))
 refine Mk (by rw[J.len,Se]) fun x hx=>?_;rw[J.len]at hx;rw[jz m aj hx,<-tt x hx];rcases J.two x hx with e|e<;>rw[e,zD]
end Hs
end Go.Proofs.YthohfoombimbeaaGreatDoor
