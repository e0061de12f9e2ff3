/- Plain: a smoothed diagram has the value of the diagram with the crossing smoothed. -/
import Derived.Test.YtjpnnnognoaaiaaDoorHs15
import Derived.Test.YtjpnnnognoaaiaaDoorZm
namespace Go.Proofs.YtjpnnnognoaaiaaDoor
set_option linter.unusedSimpArgs false
set_option linter.unusedVariables false
namespace Hs
open Sp (Sph siD PermN itn SC alD)
section
variable {D D':Sh} {x:Nat}
theorem ykx {X:Int->Int->Nat->Int} {S S':WS} {a d:Nat} {B:List Nat} (hv:S.vis a=false) (hb:br D S.cr a=[(1,S',d)]) (h:W D (eqE a) S' d (fun S _=>run X D B S)=run X D B S'):run X D (a::B) S=run X D B S':=by
 show (if S.vis a=true then _ else wk1 D S.cr a (run X D B))=_
 rw [if_neg (by simp [hv])]
 unfold wk1
 rw [hb,ycn,h]
theorem y19 {X:Int->Int->Nat->Int} {S S':WS} {a d:Nat} {B:List Nat} {z:Int} (hv:S.vis a=false) (hb:br D S.cr a=[(1,S',d)]) (h:W D (eqE a) S' d (fun S _=>run X D B S)=z):run X D (a::B) S=z:=by
 show (if S.vis a=true then _ else wk1 D S.cr a (run X D B))=_
 rw [if_neg (by simp [hv])]
 unfold wk1
 rw [hb,ycn,h]
theorem yfn {X:Int->Int->Nat->Int} {S:WS} {a:Nat} {B:List Nat} (hv:S.vis a=true):run X D (a::B) S=run X D B S:=by
 show (if S.vis a=true then _ else _)=_
 rw [if_pos hv]
theorem y2a (hD:Ok D) (hx:x<D.n) (X:Int->Int->Nat->Int) {S:WS} (hB:Bd D S) (hs:S.st x=5\/S.st x=2\/S.st x=4) (hZ: ∀z,Zx D x z->S.vis z=false) (hv: ∀a,a<2*D.n->a/2≠x->S.vis a=true):run X D [2*x,2*x+1] S=X S.i S.j (S.k+exN D x):=by
 have l0:2*x<2*D.n:=by omega
 have l1:2*x+1<2*D.n:=by omega
 have d0:2*x/2=x:=by omega
 have d1:(2*x+1)/2=x:=by omega
 have inj:D.nx (2*x+1)≠D.nx (2*x):=fun e=>by have:=hD.inj _ _ l1 l0 e;omega
 have f0:=hB _ l0
 have f1:=hB _ l1
 unfold Fit at f0 f1
 rw [d0,co0] at f0
 rw [d1,co1] at f1
 have far: ∀z,z<2*D.n->z/2≠x->S.vis (D.nx z)=true:=fun z hz hzx=>by
  have v1:=hv z hz hzx
  have v2:=hv (co z) (yav hz) (by rw [yai];exact hzx)
  have f:=hB z hz
  unfold Fit FitP at f
  rw [v1,v2] at f
  rcases f with ⟨_,h,_⟩|⟨_,_,h⟩|⟨_,h,_⟩|⟨_,_,h⟩
  ·cases h
  ·exact h
  ·exact h.1 rfl
  ·cases h
 have both: ∀{q:Nat} {P:Prop},S.st x=q->(S.vis (2*x)=true↔P)->True:=fun _ _=>trivial
 obtain ⟨z0,hz0,e0⟩:=ykr hD l0
 obtain ⟨z1,hz1,e1⟩:=ykr hD l1
 have at0:z0/2=x->z0=2*x\/z0=2*x+1:=fun h=>by omega
 have at1:z1/2=x->z1=2*x\/z1=2*x+1:=fun h=>by omega
 have two:S.vis (2*x)=false->S.vis (2*x+1)=false->S.st x=5:=fun a b=>by
  rw [a,b] at f0
  unfold FitP at f0
  rcases f0 with ⟨_,_,_⟩|⟨_,h,_⟩|⟨_,_,h⟩|⟨_,_,h⟩
  ·omega
  ·cases h
  ·cases h
  ·cases h
 have one:S.vis (2*x)≠S.vis (2*x+1)->S.st x=2:=fun a=>by
  rcases hs with h|h|h
  ·rw [h,FitP.i0 (.inr rfl)] at f0 f1
   rw [f0.1,f1.1] at a;exact absurd rfl a
  ·exact h
  ·rw [h,FitP.i4] at f0 f1
   rw [f0.1,f1.1] at a;exact absurd rfl a
 by_cases hA:D.nx (2*x+1)=2*x
 ·have hC: ¬(D.nx (2*x+1)=2*x+1/\D.nx (2*x)=2*x):=fun h=>by omega
  have v0:S.vis (2*x)=false:=hZ _ (.inl ⟨rfl,hA⟩)
  by_cases hBB:D.nx (2*x)=2*x+1
  ·have v1:S.vis (2*x+1)=false:=hZ _ (.inr (.inl ⟨rfl,hBB⟩))
   have h5:=two v0 v1
   rw [ykx (S':=S.cr.mk' (2*x) 2) (d:=2*x) v0 (by rw [br_5 l0 (by rw [d0];exact h5),co0,hA]) (yax (ya2 _)),
    ykx (S':=((S.cr.mk' (2*x) 2).cr).mk' (2*x+1) 4) (d:=2*x+1) (by rw [yah _ (by omega)];exact v1) (by rw [br_2 l1 (by rw [d1];exact yd8 d0),co1,hBB]) (yax (ya2 _))]
   show X S.i S.j (S.k+1+1)=_
   unfold exN
   rw [if_pos hA,if_pos hBB,if_neg hC]
  ·have v1:S.vis (2*x+1)=true:=by
    by_cases h:z1/2=x
    ·rcases at1 h with h|h<;>rw [h] at e1
     ·exact absurd e1 hBB
     ·omega
    ·rw [←e1];exact far z1 hz1 h
   have h2:=one (by rw [v0,v1];decide)
   rw [ykx (S':=S.cr.mk' (2*x) 4) (d:=2*x) v0 (by rw [br_2 l0 (by rw [d0];exact h2),co0,hA]) (yax (ya2 _)),yfn (by rw [yah _ (by omega)];exact v1)]
   show X S.i S.j (S.k+1)=_
   unfold exN
   rw [if_pos hA,if_neg hBB,if_neg hC]
 ·by_cases hBB:D.nx (2*x)=2*x+1
  ·have hC: ¬(D.nx (2*x+1)=2*x+1/\D.nx (2*x)=2*x):=fun h=>by omega
   have v1:S.vis (2*x+1)=false:=hZ _ (.inr (.inl ⟨rfl,hBB⟩))
   have v0:S.vis (2*x)=true:=by
    by_cases h:z0/2=x
    ·rcases at0 h with h|h<;>rw [h] at e0
     ·omega
     ·exact absurd e0 hA
    ·rw [←e0];exact far z0 hz0 h
   have h2:=one (by rw [v0,v1];decide)
   rw [yfn v0,ykx (S':=S.cr.mk' (2*x+1) 4) (d:=2*x+1) v1 (by rw [br_2 l1 (by rw [d1];exact h2),co1,hBB]) (yax (ya2 _))]
   show X S.i S.j (S.k+1)=_
   unfold exN
   rw [if_neg hA,if_pos hBB,if_neg hC]
  ·by_cases hC:D.nx (2*x+1)=2*x+1/\D.nx (2*x)=2*x
   ·have v0:S.vis (2*x)=false:=hZ _ (.inr (.inr ⟨d0,hC.1,hC.2⟩))
    have v1:S.vis (2*x+1)=false:=hZ _ (.inr (.inr ⟨d1,hC.1,hC.2⟩))
    have h5:=two v0 v1
    refine y19 (S':=S.cr.mk' (2*x) 2) (d:=2*x+1) v0 (by rw [br_5 l0 (by rw [d0];exact h5),co0,hC.1]) ?_
    have v1':(S.cr.mk' (2*x) 2).vis (2*x+1)=false:=by rw [yah _ (by omega)];exact v1
    rw [W_go (ycz (by omega)) v1',br_2 l1 (by rw [d1];exact yd8 d0),ycn,co1,hC.2,yax (ya2 _),yfn (ybc _ _ _)]
    show X S.i S.j (S.k+1)=_
    unfold exN
    rw [if_neg hA,if_neg hBB,if_pos hC]
   ·have v0:S.vis (2*x)=true/\S.vis (2*x+1)=true:=by
     have n0:z0/2=x->z0=2*x:=fun h=>(at0 h).resolve_right fun e=>by rw [e] at e0;exact hA e0
     have n1:z1/2=x->z1=2*x+1:=fun h=>(at1 h).resolve_left fun e=>by rw [e] at e1;exact hBB e1
     have eqv:S.vis (2*x)=true\/S.vis (2*x+1)=true->D.nx (2*x)=2*x\/D.nx (2*x+1)=2*x+1->S.vis (2*x)=true/\S.vis (2*x+1)=true:=fun h h'=>by
      rcases hs with h5|h2|h4
      ·rw [h5,FitP.i0 (.inr rfl)] at f0 f1
       rcases h with h|h
       ·rw [f0.1] at h;cases h
       ·rw [f1.1] at h;cases h
      ·rw [h2,FitP.i2] at f0 f1
       rcases h' with h'|h'
       ·have:=f1.1
        rw [h'] at this
        rcases h with h|h
        ·exact ⟨h,this.2 h⟩
        ·exact ⟨this.1 h,h⟩
       ·have:=f0.1
        rw [h'] at this
        rcases h with h|h
        ·exact ⟨h,this.1 h⟩
        ·exact ⟨this.2 h,h⟩
      ·rw [h4,FitP.i4] at f0 f1
       exact ⟨f0.1,f1.1⟩
     by_cases h0:z0/2=x
     ·have k0:=n0 h0
      rw [k0] at e0
      by_cases h1:z1/2=x
      ·have k1:=n1 h1
       rw [k1] at e1
       exact absurd ⟨e1,e0⟩ hC
      ·exact eqv (.inr (by rw [←e1];exact far z1 hz1 h1)) (.inl e0)
     ·have w0:S.vis (2*x)=true:=by rw [←e0];exact far z0 hz0 h0
      by_cases h1:z1/2=x
      ·have k1:=n1 h1
       rw [k1] at e1
       exact eqv (.inl w0) (.inr e1)
      ·exact ⟨w0,by rw [←e1];exact far z1 hz1 h1⟩
    rw [yfn v0.1,yfn v0.2]
    show X S.i S.j S.k=_
    unfold exN
    rw [if_neg hA,if_neg hBB,if_neg hC];rfl
theorem yky (hD:Ok D) (hD':Ok D') (C:Ctr D D' x) (X:Int->Int->Nat->Int): ∀(B:List Nat) (S' S:WS),Rl x (exN D x) S' S->(∀z,Zx D x z->S.vis z=false)->Bd D S->Cov D' B S'->run X D' B S'=run X D (B.map (upE x)++[2*x,2*x+1]) S
 |[],S',S,hR,hZ,hB,hC=>by
  show X S'.i S'.j S'.k=run X D [2*x,2*x+1] S
  rw [y2a hD C.hx X hB hR.x hZ fun a ha hax=>?_,hR.i,hR.j,hR.k]
  obtain ⟨b,rfl⟩:=yrz hax
  rw [hR.vis]
  cases e:S'.vis b with
  |true=>rfl
  |false=>
   have:=hC.all b (yub (x:=x) (by have:=C.hx;have:=C.n;omega) (by rw [←C.n];exact ha)) e
   cases this
 |a::B,S',S,hR,hZ,hB,hC=>by
  have hal:=hC.lt a (.head _)
  cases hv:S'.vis a with
  |true=>
   have hC':Cov D' B S':=⟨fun b hb=>hC.lt b (.tail _ hb),fun b hb hvb=>(List.mem_cons.1 (hC.all b hb hvb)).resolve_left fun e=>by rw [e,hv] at hvb;cases hvb⟩
   rw [yfn hv,yky hD hD' C X B S' S hR hZ hB hC']
   exact (yfn (by rw [hR.vis];exact hv)).symm
  |false=>
   have hvS:S.vis (upE x a)=false:=by rw [hR.vis];exact hv
   show (if S'.vis a=true then _ else wk1 D' S'.cr a (run X D' B))=if S.vis (upE x a)=true then _ else wk1 D S.cr (upE x a) (run X D (B.map (upE x)++[2*x,2*x+1]))
   rw [if_neg (by simp [hv]),if_neg (by simp [hvS])]
   unfold wk1
   have hR':=hR.cr
   symm
   have h1:=(yzb C hR' hal).and (J:=fun S b S' b'=>Mid D S (upE x a) b/\(∀z,Zx D x z->S.vis z=false)) fun y hy _ _=>⟨hB.cr.start hD hvS hy,fun z hz=>by
    rw [(ydo hy).2,yaf _ _ fun e=>?_]
    ·exact hZ z hz
    ·have:z/2=x:=by rcases hz with h|h|h<;>omega
     rw [e] at this;exact yek x a this⟩
   have hvs: ∀y∈br D' S'.cr a,∀b,(fun b=>S'.vis b||b==a) b=true->y.2.1.vis b=true:=fun y hy b hb=>by
    rw [(ydo hy).2]
    unfold upd
    split
    ·rfl
    ·rename_i hba
     have hb':(S'.vis b||b==a)=true:=hb
     simp [hba] at hb'
     exact hb'
   revert hvs h1
   generalize br D' S'.cr a=l'
   generalize br D S.cr (upE x a)=l
   intro h1 hvs
   induction h1 with
   |nil=>rfl
   | @cons c S1 b S1' b' l l' hr _ ih=>
     obtain ⟨⟨o,ho,e1,e2,hR1⟩,hM1,hZ1⟩:=hr
     subst e1 e2
     have hol:upE x o<2*D.n:=by rw [C.n];exact yj6 ho
     obtain ⟨S2,k1,k2,k3,k4,k5,k6,k7,k8,k9⟩:=yr0 hD C.hx (yek x a) (k:=fun S _=>run X D (B.map (upE x)++[2*x,2*x+1]) S) (C.nx o ho) hM1 hR1.x hZ1 (yza hD C.hx hol (yek x o))
     have hR2:Rl x (exN D x) S1' S2:=⟨fun c=>by rw [k3 _ (yry x c)];exact hR1.st c,fun a=>by rw [k4 _ (yek x a)];exact hR1.vis a,by rw [k5];exact hR1.i,by rw [k6];exact hR1.j,by rw [k7];exact hR1.k,k8⟩
     simp only [sumB]
     rw [k1,y9c hD hD' C (fun b=>S'.vis b||b==a) (k':=run X D' B) (fun T' T hT hTZ hTB hTV=>?_) _ S1' S2 _ (Nat.le_refl _) (hD'.lt _ ho) hR2 k9 k2 (hvs _ (.head _)),ih fun y hy=>hvs y (.tail _ hy)]
     refine yky hD hD' C X B T' T hT hTZ hTB ⟨fun b hb=>hC.lt b (.tail _ hb),fun b hb hvb=>?_⟩
     refine (List.mem_cons.1 (hC.all b hb ?_)).resolve_left fun e=>?_
     ·cases e:S'.vis b with
      |false=>rfl
      |true=>rw [hTV b (by show (S'.vis b||b==a)=true;rw [e];rfl)] at hvb;cases hvb
     ·rw [hTV b (by show (S'.vis b||b==a)=true;rw [e];simp)] at hvb;cases hvb
end
end Hs
end Go.Proofs.YtjpnnnognoaaiaaDoor
namespace Go.Proofs.YtjpnnnognoaaiaaDoor
set_option linter.unusedSimpArgs false
set_option linter.unusedVariables false
namespace Hs
open Sp (Sph siD PermN itn SC alD)
section
variable {s m:List Int} {L:Int} {c:Nat}
theorem yuc (v:ybf s m L) (hc:c<s.length): ∀(f b0:Nat),b0<2*s.length-> ∃b1,b1<2*s.length/\thrX m (chO s c) c f (inH (shD s m) b0:Nat)=(inH (shD s m) b1:Nat)/\(b1/2≠c->Fol (shD s m) c b0 b1)
 |0,b0,hb=>⟨b0,hb,rfl,fun h=> .stop h⟩
 |f+1,b0,hb=>by
  have hd:=yh6 (shD s m) b0
  by_cases h:b0/2=c
  ·have hx:((inH (shD s m) b0:Nat):Int)/4=(c:Int):=by omega
   rw [yhw hx]
   have:=(ypr (m:=m) v.sg hb).1
   rw [h] at this
   rw [this,Int.toNat_natCast,←(ydp v (ybp (D:=shD s m) (yav hb))).2.1,yds v (yav hb)]
   obtain ⟨b1,h1,h2,h3⟩:=yuc v hc f _ ((ybr v).lt _ (yav hb))
   exact ⟨b1,h1,h2,fun hn=> .go h (h3 hn)⟩
  ·have hx: ¬((inH (shD s m) b0:Nat):Int)/4=(c:Int):=by omega
   rw [yfh hx]
   exact ⟨b0,hb,rfl,fun hn=> .stop hn⟩
theorem y7m {c h b:Nat} (hb:b/2≠c) (h1:h/4=b/2) (h2:cod h=b):upE c (cod (if c<h/4 then h-4 else h))=b:=by
 unfold upE cod at*
 split<;>split<;>omega
theorem yzc (hv:yag s m L=true) (hc:c<s.length) {L':Int} (hv':yag (smS s c) (smM s m c) L'=true):Ctr (shD s m) (shD (smS s c) (smM s m c)) c:=by
 have v:=yan hv
 have v':=yan hv'
 obtain ⟨w1,w2⟩:=Sp.woS_get (s:=s) (c:=c) s.length
 rw [if_pos hc] at w1 w2
 have hsl:(smS s c).length=s.length-1:=w1
 obtain ⟨wl,wg⟩:=Sp.woM_get (E:=smE m (s.getD c 0== -1) c (4*s.length)) (c:=c) s.length
 rw [if_pos hc] at wl wg
 have hsg: ∀i,i<(smS s c).length->(smS s c).getD i 0=s.getD (upC c i) 0:=fun i hi=>by
  unfold smS
  rw [w2 i (by omega)];rfl
 refine ⟨hc,by show s.length=(smS s c).length+1;omega,hsg,fun a ha=>?_⟩
 have ha':a<2*(smS s c).length:=ha
 have hlo:=ybp (D:=shD (smS s c) (smM s m c)) ha
 have hlo':outH (shD (smS s c) (smM s m c)) a<4*(s.length-1):=by
  have:outH (shD (smS s c) (smM s m c)) a<4*(smS s c).length:=hlo
  omega
 obtain ⟨y,hy⟩: ∃y,y=outH (shD s m) (upE c a):=⟨_,rfl⟩
 have hup:upE c a<2*s.length:=by have:=yj6 (x:=c) ha';omega
 have hyl:y<4*s.length:=hy▸ybp (D:=shD s m) hup
 have e:y=if outH (shD (smS s c) (smM s m c)) a/4<c then outH (shD (smS s c) (smM s m c)) a else outH (shD (smS s c) (smM s m c)) a+4:=by
  rw [hy,yg6]
  unfold outH
  rw [yua,ykw]
  have e1:(shD s m).sg (upC c (a/2))=(shD (smS s c) (smM s m c)).sg (a/2):=(hsg _ (by omega)).symm
  rw [e1]
  unfold upC
  by_cases h:a/2<c
  ·rw [if_pos h,if_pos h]
  ·rw [if_neg h,if_neg h]
   split
   ·omega
   split<;>omega
 have hyc:y/4≠c:=by rw [hy,yg6];exact yek c a
 have hml:=v.len
 have g1:(smM s m c).getD (outH (shD (smS s c) (smM s m c)) a) 0=cutM (smE m (s.getD c 0== -1) c (4*s.length)) c y:=by
  have:=wg _ hlo'
  rw [←e] at this
  exact this
 have g2:(smE m (s.getD c 0== -1) c (4*s.length)).getD y 0=thrX m (chO s c) c 5 (m.getD y 0):=Sp.smE_get hyc _ (by omega) hyl
 have g3:m.getD y 0=((inH (shD s m) ((shD s m).nx (upE c a)):Nat):Int):=by
  rw [←yds v hup,←hy,(ydp v hyl).2.1]
 obtain ⟨b1,h1,h2,h3⟩:=yuc v hc 5 _ ((ybr v).lt _ hup)
 have hout:=yfi (b:=chO s c) v.prd hc hyl hyc
 rw [g3,h2] at hout
 have hb1:b1/2≠c:=by have:=yh6 (shD s m) b1;omega
 have g4:(smM s m c).getD (outH (shD (smS s c) (smM s m c)) a) 0=((if c<inH (shD s m) b1/4 then inH (shD s m) b1-4 else inH (shD s m) b1:Nat):Int):=by
  rw [g1]
  unfold cutM
  rw [g2,g3,h2]
  split<;>split<;>omega
 have e5:(shD (smS s c) (smM s m c)).nx a=cod (if c<inH (shD s m) b1/4 then inH (shD s m) b1-4 else inH (shD s m) b1):=by
  show cod (alD (smM s m c) (outH (shD (smS s c) (smM s m c)) a))=_
  unfold alD
  rw [g4,Int.toNat_natCast]
 rw [e5,y7m hb1 (yh6 _ _) (yrx b1)]
 exact h3 hb1
theorem y22 {x e k:Nat} {st st':Nat->Nat} (h: ∀c,st (upC x c)=st' c) (hx:st x=5):Rl x e (Z0 st' (k+e)) (Z0 st k):=⟨h,fun _=>rfl,rfl,rfl,rfl, .inl hx⟩
theorem yzd {D D':Sh} {x:Nat} (C:Ctr D D' x) (st:Nat->Nat) (k:Nat):Cov D ((List.range (2*D'.n)).map (upE x)++[2*x,2*x+1]) (Z0 st k):=by
 have hx:=C.hx
 have hn:=C.n
 refine ⟨fun a ha=>?_,fun a ha _=>?_⟩
 ·rcases List.mem_append.1 ha with h|h
  ·obtain ⟨b,hb,rfl⟩:=List.mem_map.1 h
   rw [hn];exact yj6 (List.mem_range.1 hb)
  ·simp at h;omega
 ·by_cases hax:a/2=x
  ·exact List.mem_append_right _ (by simp;omega)
  ·obtain ⟨b,rfl⟩:=yrz hax
   exact List.mem_append_left _ (List.mem_map.2 ⟨b,List.mem_range.2 (yub (x:=x) (by omega) (by rw [←hn];exact ha)),rfl⟩)
theorem y5p {n:Nat} (hp:PmOk m n) {ch ch':Nat->Bool} (h: ∀i,i<n->ch i=ch' i):cirS m n ch=cirS m n ch':=by
 rw [yy5 hp,yy5 hp]
 have R:=yrq hp fun c=>nb01 (ch c)
 have R':=yrq hp fun c=>nb01 (ch' c)
 unfold cir3
 have key: ∀{q q':Nat->Nat},(∀i,i<n->q i=q' i)-> ∀{x y:Int},InR n x->Cir (fun x=>m.getD x.toNat 0) (st3 q) x y->Cir (fun x=>m.getD x.toNat 0) (st3 q') x y:=fun {q q'} he {x y} hx h=>by
  have hi:=ytp hp.ok hp.inv hp.ne q
  induction h with
  |refl=>exact .refl _
  |mate _ ih=>exact .mate ih
  | @join z hz ih=>
    have hzr:=hz.rng hi hx
    have:st3 q z=st3 q' z:=by unfold InR at hzr;unfold st3;rw [he _ (by omega)]
    rw [this];exact .join ih
 exact yqw R ⟨R'.rep,fun x y hx hy=>(R'.iff x y hx hy).trans ⟨key (fun i hi=>by rw [h i hi]) (by unfold InR;omega),key (fun i hi=>by rw [h i hi]) (by unfold InR;omega)⟩⟩
theorem y7n (hv:yag s m L=true) (hc:c<s.length) {L':Int} (hv':yag (smS s c) (smM s m c) L'=true):(exN (shD s m) c:Int)=smL m (chO s c) c s.length:=by
 have C:=yzc hv hc hv'
 have hD:=ybr (yan hv)
 have hD':=ybr (yan hv')
 have h1:=yky hD hD' C (fun _ _ k=>(k:Int)) (List.range (2*(smS s c).length)) (Z0 (fun _=>5) (0+exN (shD s m) c)) (Z0 (fun _=>5) 0) (y22 (fun _=>rfl) rfl) (fun _ _=>rfl) (yge _ (fun _=> .inr rfl) 0) (yfc (shD (smS s c) (smM s m c)) _ _)
 rw [seif hv' _ _ (B:=List.range (2*(smS s c).length)) (yfc (shD (smS s c) (smM s m c)) _ _),seif hv _ _ (B:=(List.range (2*(smS s c).length)).map (upE c)++[2*c,2*c+1]) (yzd C _ _)] at h1
 have hp:=pmOk hv
 have hsl:(smS s c).length=s.length-1:=by have:=C.n;have e:(shD s m).n=s.length:=rfl;have e':(shD (smS s c) (smM s m c)).n=(smS s c).length:=rfl;omega
 have hp':=pmOk hv'
 have h2:=y7k hp hc (chO s) (by have:=hp';rw [hsl] at this;exact this)
 have h3:cirS (smM s m c) (s.length-1) (chO (smS s c))=cirS (smM s m c) (s.length-1) (wiC (chO s) c):=y5p (by have:=hp';rw [hsl] at this;exact this) fun i hi=>by
  have:=C.sg i (by show i<(smS s c).length;omega)
  have e:(smS s c).getD i 0=s.getD (upC c i) 0:=this
  unfold chO wiC
  rw [e]
  unfold upC
  split<;>rfl
 rw [hsl,h3] at h1
 have h2':(cirS m s.length (chO s):Int)=cirS (smM s m c) (s.length-1) (wiC (chO s) c)+smL m (chO s c) c s.length:=h2
 push_cast at h1
 omega
def HF (X:Int->Int->Nat->Int) (s m:List Int) (L:Int):Int:=run X (shD s m) (List.range (2*s.length)) (Z0 (fun _=>1) L.toNat)
theorem yo3 {X:Int->Int->Nat->Int} (hX:Good X) (hv:yag s m L=true) (hc:c<s.length) (hv':yag (smS s c) (smM s m c) (smLp s m c L)=true):
  HF X (smS s c) (smM s m c) (smLp s m c L)=run X (shD s m) (List.range (2*s.length)) (Z0 (fun i=>if i=c then 5 else 1) L.toNat):=by
 have C:=yzc hv hc hv'
 have hD:=ybr (yan hv)
 have hD':=ybr (yan hv')
 have he:=y7n hv hc hv'
 have hl:=(yan hv).l0
 have hlp:(smLp s m c L).toNat=L.toNat+exN (shD s m) c:=by
  have e:smLp s m c L=L+smL m (chO s c) c s.length:=rfl
  omega
 unfold HF
 rw [hlp,yky hD hD' C X (List.range (2*(smS s c).length)) (Z0 (fun _=>1) (L.toNat+exN (shD s m) c)) (Z0 (fun i=>if i=c then 5 else 1) L.toNat) (y22 (fun i=>if_neg (yry c i)) (if_pos rfl)) (fun _ _=>rfl) (yge _ (fun i=>by by_cases h:i=c<;>simp [h]) _) (yfc (shD (smS s c) (smM s m c)) _ _)]
 exact ord hD (ye6 hv) hX (yge _ (fun i=>by by_cases h:i=c<;>simp [h]) _) (yzd C _ _) (yfc (shD s m) _ _)
end
end Hs
end Go.Proofs.YtjpnnnognoaaiaaDoor
