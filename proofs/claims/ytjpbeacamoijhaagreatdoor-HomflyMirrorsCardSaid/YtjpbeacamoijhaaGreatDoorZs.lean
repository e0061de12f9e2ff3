/- Plain: a smoothed diagram has the value of the diagram with the crossing smoothed. -/
import Derived.Test.YtjpbeacamoijhaaGreatDoorZr
import Derived.Test.YtjpbeacamoijhaaGreatDoorZn
namespace Go.Proofs.YtjpbeacamoijhaaGreatDoor
set_option linter.unusedSimpArgs false
set_option linter.unusedVariables false
namespace Hs
open Sp (eY aV aw itn SC aZ)
section
variable {D D':Sh} {x:Nat}
theorem Iq {X:Int->Int->Nat->Int} {S S':WS} {a d:Nat} {B:List Nat} (hv:S.ae a=false) (hb:br D S.cr a=[(1,S',d)]) (h:W D (dT a) S' d (fun S _=>run X D B S)=run X D B S'):run X D (a::B) S=run X D B S':=by
 show (if S.ae a=true then _ else bA D S.cr a (run X D B))=_;rw [if_neg (by simp [hv])];unfold bA;rw [hb,rV,h]
theorem y4m {X:Int->Int->Nat->Int} {S S':WS} {a d:Nat} {B:List Nat} {z:Int} (hv:S.ae a=false) (hb:br D S.cr a=[(1,S',d)]) (h:W D (dT a) S' d (fun S _=>run X D B S)=z):run X D (a::B) S=z:=by
 show (if S.ae a=true then _ else bA D S.cr a (run X D B))=_;rw [if_neg (by simp [hv])];unfold bA;rw [hb,rV,h]
theorem Bh {X:Int->Int->Nat->Int} {S:WS} {a:Nat} {B:List Nat} (hv:S.ae a=true):run X D (a::B) S=run X D B S:=by
 show (if S.ae a=true then _ else _)=_;rw [if_pos hv]
theorem y4n (hD:Ok D) (hx:x<D.n) (X:Int->Int->Nat->Int) {S:WS} (hB:Bd D S) (hs:S.st x=5\/S.st x=2\/S.st x=4) (hZ: ∀z,Zx D x z->S.ae z=false) (hv: ∀a,a<2*D.n->a/2≠x->S.ae a=true):run X D [2*x,2*x+1] S=X S.i S.j (S.k+vS D x):=by
 have l0:2*x<2*D.n:=by omega
 have l1:2*x+1<2*D.n:=by omega
 have d0:2*x/2=x:=by omega
 have d1:(2*x+1)/2=x:=by omega
 have inj:D.nx (2*x+1)≠D.nx (2*x):=fun e=>by have:=hD.inj _ _ l1 l0 e;omega
 have f0:=hB _ l0;have f1:=hB _ l1;unfold Fit at f0 f1;rw [d0,yF] at f0;rw [d1,co1] at f1;have GX: ∀z,z<2*D.n->z/2≠x->S.ae (D.nx z)=true:=fun z hz JH=>by
  have v1:=hv z hz JH;have v2:=hv (co z) (ee hz) (by rw [bV];exact JH);have f:=hB z hz;unfold Fit aD at f;rw [v1,v2] at f;rcases f with ⟨_,h,_⟩|⟨_,_,h⟩|⟨_,h,_⟩|⟨_,_,h⟩
  ·cases h
  ·exact h
  ·exact h.1 rfl
  ·cases h
 have both: ∀{q:Nat} {P:Prop},S.st x=q->(S.ae (2*x)=true↔P)->True:=fun _ _=>trivial;obtain ⟨z0,qN,e0⟩:=Iy hD l0;obtain ⟨z1,nB,e1⟩:=Iy hD l1;have W9:z0/2=x->z0=2*x\/z0=2*x+1:=fun h=>by omega
 have W8:z1/2=x->z1=2*x\/z1=2*x+1:=fun h=>by omega
 have two:S.ae (2*x)=false->S.ae (2*x+1)=false->S.st x=5:=fun a b=>by
  rw [a,b] at f0;unfold aD at f0;rcases f0 with ⟨_,_,_⟩|⟨_,h,_⟩|⟨_,_,h⟩|⟨_,_,h⟩
  ·omega
  ·cases h
  ·cases h
  ·cases h
 have one:S.ae (2*x)≠S.ae (2*x+1)->S.st x=2:=fun a=>by
  rcases hs with h|h|h
  ·rw [h,aD.i0 (.inr rfl)] at f0 f1;rw [f0.1,f1.1] at a;exact absurd rfl a
  ·exact h
  ·rw [h,aD.i4] at f0 f1;rw [f0.1,f1.1] at a;exact absurd rfl a
 by_cases hA:D.nx (2*x+1)=2*x
 ·have hC: ¬(D.nx (2*x+1)=2*x+1/\D.nx (2*x)=2*x):=fun h=>by omega
  have v0:S.ae (2*x)=false:=hZ _ (.inl ⟨rfl,hA⟩);by_cases vQ:D.nx (2*x)=2*x+1
  ·have v1:S.ae (2*x+1)=false:=hZ _ (.inr (.inl ⟨rfl,vQ⟩));have h5:=two v0 v1
   rw [Iq (S':=S.cr.mk' (2*x) 2) (d:=2*x) v0 (by rw [tl l0 (by rw [d0];exact h5),yF,hA]) (iG (js _)),
    Iq (S':=((S.cr.mk' (2*x) 2).cr).mk' (2*x+1) 4) (d:=2*x+1) (by rw [dM _ (by omega)];exact v1) (by rw [l5 l1 (by rw [d1];exact uz d0),co1,vQ]) (iG (js _))]
   show X S.i S.j (S.k+1+1)=_;unfold vS;rw [if_pos hA,if_pos vQ,if_neg hC]
  ·have v1:S.ae (2*x+1)=true:=by
    by_cases h:z1/2=x
    ·rcases W8 h with h|h<;>rw [h] at e1
     ·exact absurd e1 vQ
     ·omega
    ·rw [←e1];exact GX z1 nB h
   have h2:=one (by rw [v0,v1];decide);rw [Iq (S':=S.cr.mk' (2*x) 4) (d:=2*x) v0 (by rw [l5 l0 (by rw [d0];exact h2),yF,hA]) (iG (js _)),Bh (by rw [dM _ (by omega)];exact v1)];show X S.i S.j (S.k+1)=_;unfold vS;rw [if_pos hA,if_neg vQ,if_neg hC]
 ·by_cases vQ:D.nx (2*x)=2*x+1
  ·have hC: ¬(D.nx (2*x+1)=2*x+1/\D.nx (2*x)=2*x):=fun h=>by omega
   have v1:S.ae (2*x+1)=false:=hZ _ (.inr (.inl ⟨rfl,vQ⟩));have v0:S.ae (2*x)=true:=by
    by_cases h:z0/2=x
    ·rcases W9 h with h|h<;>rw [h] at e0
     ·omega
     ·exact absurd e0 hA
    ·rw [←e0];exact GX z0 qN h
   have h2:=one (by rw [v0,v1];decide);rw [Bh v0,Iq (S':=S.cr.mk' (2*x+1) 4) (d:=2*x+1) v1 (by rw [l5 l1 (by rw [d1];exact h2),co1,vQ]) (iG (js _))];show X S.i S.j (S.k+1)=_;unfold vS;rw [if_neg hA,if_pos vQ,if_neg hC]
  ·by_cases hC:D.nx (2*x+1)=2*x+1/\D.nx (2*x)=2*x
   ·have v0:S.ae (2*x)=false:=hZ _ (.inr (.inr ⟨d0,hC.1,hC.2⟩));have v1:S.ae (2*x+1)=false:=hZ _ (.inr (.inr ⟨d1,hC.1,hC.2⟩));have h5:=two v0 v1;refine y4m (S':=S.cr.mk' (2*x) 2) (d:=2*x+1) v0 (by rw [tl l0 (by rw [d0];exact h5),yF,hC.1]) ?_;have v1':(S.cr.mk' (2*x) 2).ae (2*x+1)=false:=by rw [dM _ (by omega)];exact v1
    rw [gQ (tM (by omega)) v1',l5 l1 (by rw [d1];exact uz d0),rV,co1,hC.2,iG (js _),Bh (lk _ _ _)];show X S.i S.j (S.k+1)=_;unfold vS;rw [if_neg hA,if_neg vQ,if_pos hC]
   ·have v0:S.ae (2*x)=true/\S.ae (2*x+1)=true:=by
     have n0:z0/2=x->z0=2*x:=fun h=>(W9 h).resolve_right fun e=>by rw [e] at e0;exact hA e0
     have n1:z1/2=x->z1=2*x+1:=fun h=>(W8 h).resolve_left fun e=>by rw [e] at e1;exact vQ e1
     have eqv:S.ae (2*x)=true\/S.ae (2*x+1)=true->D.nx (2*x)=2*x\/D.nx (2*x+1)=2*x+1->S.ae (2*x)=true/\S.ae (2*x+1)=true:=fun h h'=>by
      rcases hs with h5|h2|h4
      ·rw [h5,aD.i0 (.inr rfl)] at f0 f1;rcases h with h|h
       ·rw [f0.1] at h;cases h
       ·rw [f1.1] at h;cases h
      ·rw [h2,aD.i2] at f0 f1;rcases h' with h'|h'
       ·have:=f1.1
        rw [h'] at this;rcases h with h|h
        ·exact ⟨h,this.2 h⟩
        ·exact ⟨this.1 h,h⟩
       ·have:=f0.1
        rw [h'] at this;rcases h with h|h
        ·exact ⟨h,this.1 h⟩
        ·exact ⟨this.2 h,h⟩
      ·rw [h4,aD.i4] at f0 f1;exact ⟨f0.1,f1.1⟩
     by_cases h0:z0/2=x
     ·have k0:=n0 h0;rw [k0] at e0;by_cases h1:z1/2=x
      ·have k1:=n1 h1;rw [k1] at e1;exact absurd ⟨e1,e0⟩ hC
      ·exact eqv (.inr (by rw [←e1];exact GX z1 nB h1)) (.inl e0)
     ·have w0:S.ae (2*x)=true:=by rw [←e0];exact GX z0 qN h0
      by_cases h1:z1/2=x
      ·have k1:=n1 h1;rw [k1] at e1;exact eqv (.inl w0) (.inr e1)
      ·exact ⟨w0,by rw [←e1];exact GX z1 nB h1⟩
    rw [Bh v0.1,Bh v0.2];show X S.i S.j S.k=_;unfold vS;rw [if_neg hA,if_neg vQ,if_neg hC];rfl
theorem Ip (hD:Ok D) (nW:Ok D') (C:Hw D D' x) (X:Int->Int->Nat->Int): ∀(B:List Nat) (S' S:WS),Rl x (vS D x) S' S->(∀z,Zx D x z->S.ae z=false)->Bd D S->eI D' B S'->run X D' B S'=run X D (B.map (bU x)++[2*x,2*x+1]) S
 |[],S',S,hR,hZ,hB,hC=>by
  show X S'.i S'.j S'.k=run X D [2*x,2*x+1] S;rw [y4n hD C.hx X hB hR.x hZ fun a ha qQ=>?_,hR.i,hR.j,hR.k];obtain ⟨b,rfl⟩:=RF qQ;rw [hR.ae];cases e:S'.ae b with
  |true=>rfl
  |false=>
   have:=hC.all b (Qp (x:=x) (by have:=C.hx;have:=C.n;omega) (by rw [←C.n];exact ha)) e
   cases this
 |a::B,S',S,hR,hZ,hB,hC=>by
  have bZ:=hC.lt a (.head _);cases hv:S'.ae a with
  |true=>
   have DV:eI D' B S':=⟨fun b hb=>hC.lt b (.tail _ hb),fun b hb nC=>(List.mem_cons.1 (hC.all b hb nC)).resolve_left fun e=>by rw [e,hv] at nC;cases nC⟩;rw [Bh hv,Ip hD nW C X B S' S hR hZ hB DV];exact (Bh (by rw [hR.ae];exact hv)).symm
  |false=>
   have VW:S.ae (bU x a)=false:=by rw [hR.ae];exact hv
   show (if S'.ae a=true then _ else bA D' S'.cr a (run X D' B))=if S.ae (bU x a)=true then _ else bA D S.cr (bU x a) (run X D (B.map (bU x)++[2*x,2*x+1]));rw [if_neg (by simp [hv]),if_neg (by simp [VW])];unfold bA;have zy:=hR.cr;symm;have h1:=(U1 C zy bZ).and (J:=fun S b S' b'=>qa D S (bU x a) b/\(∀z,Zx D x z->S.ae z=false)) fun y hy _ _=>⟨hB.cr.start hD VW hy,fun z hz=>by
    rw [(vr hy).2,bt _ _ fun e=>?_]
    ·exact hZ z hz
    ·have:z/2=x:=by rcases hz with h|h|h<;>omega
     rw [e] at this;exact x8 x a this⟩
   have ze: ∀y∈br D' S'.cr a,∀b,(fun b=>S'.ae b||b==a) b=true->y.2.1.ae b=true:=fun y hy b hb=>by
    rw [(vr hy).2];unfold aM
    split
    ·rfl
    ·rename_i rK
     have lT:(S'.ae b||b==a)=true:=hb;simp [rK] at lT;exact lT
   revert ze h1;generalize br D' S'.cr a=l';generalize br D S.cr (bU x a)=l;intro h1 ze
   induction h1 with
   |nil=>rfl
   | @cons c S1 b zM b' l l' hr _ ih=>
     obtain ⟨⟨o,ho,e1,e2,u4⟩,zA,ON⟩:=hr;subst e1 e2;have yu:bU x o<2*D.n:=by rw [C.n];exact D7 ho
     obtain ⟨S2,k1,k2,k3,k4,k5,k6,k7,k8,k9⟩:=RE hD C.hx (x8 x a) (k:=fun S _=>run X D (B.map (bU x)++[2*x,2*x+1]) S) (C.nx o ho) zA u4.x ON (U2 hD C.hx yu (x8 x o));have OS:Rl x (vS D x) zM S2:=⟨fun c=>by rw [k3 _ (KH x c)];exact u4.st c,fun a=>by rw [k4 _ (x8 x a)];exact u4.ae a,by rw [k5];exact u4.i,by rw [k6];exact u4.j,by rw [k7];exact u4.k,k8⟩;simp only [sumB]
     rw [k1,G4 hD nW C (fun b=>S'.ae b||b==a) (k':=run X D' B) (fun T' T hT hTZ hTB WK=>?_) _ zM S2 _ (Nat.le_refl _) (nW.lt _ ho) OS k9 k2 (ze _ (.head _)),ih fun y hy=>ze y (.tail _ hy)];refine Ip hD nW C X B T' T hT hTZ hTB ⟨fun b hb=>hC.lt b (.tail _ hb),fun b hb nC=>?_⟩;refine (List.mem_cons.1 (hC.all b hb ?_)).resolve_left fun e=>?_
     ·cases e:S'.ae b with
      |false=>rfl
      |true=>rw [WK b (by show (S'.ae b||b==a)=true;rw [e];rfl)] at nC;cases nC
     ·rw [WK b (by show (S'.ae b||b==a)=true;rw [e];simp)] at nC;cases nC
end
end Hs
namespace Hs
open Sp (eY aV aw itn SC aZ)
section
variable {s m:List Int} {L:Int} {c:Nat}
theorem Qo (v:jP s m L) (hc:c<s.length): ∀(f b0:Nat),b0<2*s.length-> ∃b1,b1<2*s.length/\cW m (lh s c) c f (cZ (au s m) b0:Nat)=(cZ (au s m) b1:Nat)/\(b1/2≠c->D3 (au s m) c b0 b1)
 |0,b0,hb=>⟨b0,hb,rfl,fun h=> .stop h⟩
 |f+1,b0,hb=>by
  have hd:=Em (au s m) b0;by_cases h:b0/2=c
  ·have hx:((cZ (au s m) b0:Nat):Int)/4=(c:Int):=by omega
   rw [Eu hx]
   have:=(HD (m:=m) v.sg hb).1
   rw [h] at this;rw [this,Int.toNat_natCast,←(vn v (qK (D:=au s m) (ee hb))).2.1,yc v (ee hb)];obtain ⟨b1,h1,h2,h3⟩:=Qo v hc f _ ((pN v).lt _ (ee hb));exact ⟨b1,h1,h2,fun hn=> .go h (h3 hn)⟩
  ·have hx: ¬((cZ (au s m) b0:Nat):Int)/4=(c:Int):=by omega
   rw [Be hx];exact ⟨b0,hb,rfl,fun hn=> .stop hn⟩
theorem Zq {c h b:Nat} (hb:b/2≠c) (h1:h/4=b/2) (h2:aQ h=b):bU c (aQ (if c<h/4 then h-4 else h))=b:=by
 unfold bU aQ at*
 split<;>split<;>omega
theorem U0 (hv:bI s m L=true) (hc:c<s.length) {L':Int} (gN:bI (de s c) (en s m c) L'=true):Hw (au s m) (au (de s c) (en s m c)) c:=by
 have v:=dr hv;have v':=dr gN;obtain ⟨w1,w2⟩:=Sp.nQ (s:=s) (c:=c) s.length;rw [if_pos hc] at w1 w2;have jY:(de s c).length=s.length-1:=w1;obtain ⟨wl,wg⟩:=Sp.ll (E:=eJ m (s.getD c 0== -1) c (4*s.length)) (c:=c) s.length;rw [if_pos hc] at wl wg;have mC: ∀i,i<(de s c).length->(de s c).getD i 0=s.getD (se c i) 0:=fun i hi=>by
  unfold de;rw [w2 i (by omega)];rfl
 refine ⟨hc,by show s.length=(de s c).length+1;omega,mC,fun a ha=>?_⟩;have dR:a<2*(de s c).length:=ha;have JY:=qK (D:=au (de s c) (en s m c)) ha;have Od:aG (au (de s c) (en s m c)) a<4*(s.length-1):=by
  have:aG (au (de s c) (en s m c)) a<4*(de s c).length:=JY
  omega
 obtain ⟨y,hy⟩: ∃y,y=aG (au s m) (bU c a):=⟨_,rfl⟩;have lL:bU c a<2*s.length:=by have:=D7 (x:=c) dR;omega
 have pW:y<4*s.length:=hy▸qK (D:=au s m) lL;have e:y=if aG (au (de s c) (en s m c)) a/4<c then aG (au (de s c) (en s m c)) a else aG (au (de s c) (en s m c)) a+4:=by
  rw [hy,IL];unfold aG;rw [Qq,Ir];have e1:(au s m).sg (se c (a/2))=(au (de s c) (en s m c)).sg (a/2):=(mC _ (by omega)).symm;rw [e1];unfold se;by_cases h:a/2<c
  ·rw [if_pos h,if_pos h]
  ·rw [if_neg h,if_neg h]
   split
   ·omega
   split<;>omega
 have yq:y/4≠c:=by rw [hy,IL];exact x8 c a
 have iX:=v.len;have g1:(en s m c).getD (aG (au (de s c) (en s m c)) a) 0=c6 (eJ m (s.getD c 0== -1) c (4*s.length)) c y:=by
  have:=wg _ Od
  rw [←e] at this;exact this
 have g2:(eJ m (s.getD c 0== -1) c (4*s.length)).getD y 0=cW m (lh s c) c 5 (m.getD y 0):=Sp.qh yq _ (by omega) pW;have g3:m.getD y 0=((cZ (au s m) ((au s m).nx (bU c a)):Nat):Int):=by
  rw [←yc v lL,←hy,(vn v pW).2.1]
 obtain ⟨b1,h1,h2,h3⟩:=Qo v hc 5 _ ((pN v).lt _ lL);have lO:=Dj (b:=lh s c) v.dB hc pW yq;rw [g3,h2] at lO;have iE:b1/2≠c:=by have:=Em (au s m) b1;omega
 have g4:(en s m c).getD (aG (au (de s c) (en s m c)) a) 0=((if c<cZ (au s m) b1/4 then cZ (au s m) b1-4 else cZ (au s m) b1:Nat):Int):=by
  rw [g1];unfold c6;rw [g2,g3,h2]
  split<;>split<;>omega
 have e5:(au (de s c) (en s m c)).nx a=aQ (if c<cZ (au s m) b1/4 then cZ (au s m) b1-4 else cZ (au s m) b1):=by
  show aQ (aZ (en s m c) (aG (au (de s c) (en s m c)) a))=_;unfold aZ;rw [g4,Int.toNat_natCast]
 rw [e5,Zq iE (Em _ _) (KI b1)];exact h3 iE
theorem Ub {x e k:Nat} {st st':Nat->Nat} (h: ∀c,st (se x c)=st' c) (hx:st x=5):Rl x e (Z0 st' (k+e)) (Z0 st k):=⟨h,fun _=>rfl,rfl,rfl,rfl, .inl hx⟩
theorem UZ {D D':Sh} {x:Nat} (C:Hw D D' x) (st:Nat->Nat) (k:Nat):eI D ((List.range (2*D'.n)).map (bU x)++[2*x,2*x+1]) (Z0 st k):=by
 have hx:=C.hx;have hn:=C.n;refine ⟨fun a ha=>?_,fun a ha _=>?_⟩
 ·rcases List.mem_append.1 ha with h|h
  ·obtain ⟨b,hb,rfl⟩:=List.mem_map.1 h;rw [hn];exact D7 (List.mem_range.1 hb)
  ·simp at h;omega
 ·by_cases qQ:a/2=x
  ·exact List.mem_append_right _ (by simp;omega)
  ·obtain ⟨b,rfl⟩:=RF qQ;exact List.mem_append_left _ (List.mem_map.2 ⟨b,List.mem_range.2 (Qp (x:=x) (by omega) (by rw [←hn];exact ha)),rfl⟩)
theorem y73 {n:Nat} (hp:jh m n) {ch Pe:Nat->Bool} (h: ∀i,i<n->ch i=Pe i):pD m n ch=pD m n Pe:=by
 rw [Vd hp,Vd hp];have R:=KN hp fun c=>uI (ch c);have R':=KN hp fun c=>uI (Pe c);unfold G7;have key: ∀{q q':Nat->Nat},(∀i,i<n->q i=q' i)-> ∀{x y:Int},aA n x->bH (fun x=>m.getD x.toNat 0) (tS q) x y->bH (fun x=>m.getD x.toNat 0) (tS q') x y:=fun {q q'} he {x y} hx h=>by
  have hi:=Qz hp.ok hp.inv hp.ne q
  induction h with
  |refl=>exact .refl _
  |mate _ ih=>exact .mate ih
  | @join z hz ih=>
    have wm:=hz.iV hi hx
    have:tS q z=tS q' z:=by unfold aA at wm;unfold tS;rw [he _ (by omega)]
    rw [this];exact .join ih
 exact Sk R ⟨R'.rep,fun x y hx hy=>(R'.iff x y hx hy).trans ⟨key (fun i hi=>by rw [h i hi]) (by unfold aA;omega),key (fun i hi=>by rw [h i hi]) (by unfold aA;omega)⟩⟩
theorem Zp (hv:bI s m L=true) (hc:c<s.length) {L':Int} (gN:bI (de s c) (en s m c) L'=true):(vS (au s m) c:Int)=nt m (lh s c) c s.length:=by
 have C:=U0 hv hc gN;have hD:=pN (dr hv);have nW:=pN (dr gN);have h1:=Ip hD nW C (fun _ _ k=>(k:Int)) (List.range (2*(de s c).length)) (Z0 (fun _=>5) (0+vS (au s m) c)) (Z0 (fun _=>5) 0) (Ub (fun _=>rfl) rfl) (fun _ _=>rfl) (yH _ (fun _=> .inr rfl) 0) (yM (au (de s c) (en s m c)) _ _)
 rw [Fk gN _ _ (B:=List.range (2*(de s c).length)) (yM (au (de s c) (en s m c)) _ _),Fk hv _ _ (B:=(List.range (2*(de s c).length)).map (bU c)++[2*c,2*c+1]) (UZ C _ _)] at h1;have hp:=pj hv;have jY:(de s c).length=s.length-1:=by have:=C.n;have e:(au s m).n=s.length:=rfl;have e':(au (de s c) (en s m c)).n=(de s c).length:=rfl;omega
 have kb:=pj gN;have h2:=Zs hp hc (lh s) (by have:=kb;rw [jY] at this;exact this);have h3:pD (en s m c) (s.length-1) (lh (de s c))=pD (en s m c) (s.length-1) (Bo (lh s) c):=y73 (by have:=kb;rw [jY] at this;exact this) fun i hi=>by
  have:=C.sg i (by show i<(de s c).length;omega)
  have e:(de s c).getD i 0=s.getD (se c i) 0:=this;unfold lh Bo;rw [e];unfold se
  split<;>rfl
 rw [jY,h3] at h1;have DW:(pD m s.length (lh s):Int)=pD (en s m c) (s.length-1) (Bo (lh s) c)+nt m (lh s c) c s.length:=h2;push_cast at h1;omega
def HF (X:Int->Int->Nat->Int) (s m:List Int) (L:Int):Int:=run X (au s m) (List.range (2*s.length)) (Z0 (fun _=>1) L.toNat)
theorem SE {X:Int->Int->Nat->Int} (hX:Good X) (hv:bI s m L=true) (hc:c<s.length) (gN:bI (de s c) (en s m c) (gP s m c L)=true):
  HF X (de s c) (en s m c) (gP s m c L)=run X (au s m) (List.range (2*s.length)) (Z0 (fun i=>if i=c then 5 else 1) L.toNat):=by
 have C:=U0 hv hc gN;have hD:=pN (dr hv);have nW:=pN (dr gN);have he:=Zp hv hc gN;have hl:=(dr hv).l0;have AG:(gP s m c L).toNat=L.toNat+vS (au s m) c:=by
  have e:gP s m c L=L+nt m (lh s c) c s.length:=rfl;omega
 unfold HF;rw [AG,Ip hD nW C X (List.range (2*(de s c).length)) (Z0 (fun _=>1) (L.toNat+vS (au s m) c)) (Z0 (fun i=>if i=c then 5 else 1) L.toNat) (Ub (fun i=>if_neg (KH c i)) (if_pos rfl)) (fun _ _=>rfl) (yH _ (fun i=>by by_cases h:i=c<;>simp [h]) _) (yM (au (de s c) (en s m c)) _ _)]
 exact ord hD (A8 hv) hX (yH _ (fun i=>by by_cases h:i=c<;>simp [h]) _) (UZ C _ _) (yM (au s m) _ _)
end
end Hs
end Go.Proofs.YtjpbeacamoijhaaGreatDoor
