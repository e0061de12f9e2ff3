/- Plain: the values of a smoothed and of a switched diagram. -/
import Derived.Test.YtjpbeacamoijhaaDoorZp
import Derived.Test.YtjpbeacamoijhaaDoorZm
import Derived.Test.YtjpbeacamoijhaaDoorSq
namespace Go.Proofs.YtjpbeacamoijhaaDoor
set_option linter.unusedSimpArgs false
set_option linter.unusedVariables false
namespace Hs
open Sp (Sph siD PermN itn SC alD)
section
variable {s m:List Int} {L:Int} {c:Nat}
theorem yu1 (v:ybd s m L) (hc:c<s.length): ∀(f b0:Nat),b0<2*s.length-> ∃b1,b1<2*s.length/\thrX m (chO s c) c f (inH (shD s m) b0:Nat)=(inH (shD s m) b1:Nat)/\(b1/2≠c->Fol (shD s m) c b0 b1)
 |0,b0,hb=>⟨b0,hb,rfl,fun h=> .stop h⟩
 |f+1,b0,hb=>by
  have hd:=yh3 (shD s m) b0
  by_cases h:b0/2=c
  ·have hx:((inH (shD s m) b0:Nat):Int)/4=(c:Int):=by omega
   rw [yhu hx]
   have:=(yp4 (m:=m) v.sg hb).1
   rw [h] at this
   rw [this,Int.toNat_natCast,←(yd1 v (ycb (D:=shD s m) (ya4 hb))).2.1,yd7 v (ya4 hb)]
   obtain ⟨b1,h1,h2,h3⟩:=yu1 v hc f _ ((ycj v).lt _ (ya4 hb))
   exact ⟨b1,h1,h2,fun hn=> .go h (h3 hn)⟩
  ·have hx: ¬((inH (shD s m) b0:Nat):Int)/4=(c:Int):=by omega
   rw [yfl hx]
   exact ⟨b0,hb,rfl,fun hn=> .stop hn⟩
theorem y79 {c h b:Nat} (hb:b/2≠c) (h1:h/4=b/2) (h2:cod h=b):upE c (cod (if c<h/4 then h-4 else h))=b:=by
 unfold upE cod at*
 split<;>split<;>omega
theorem yzu (hv:yai s m L=true) (hc:c<s.length) {L':Int} (hv':yai (smS s c) (smM s m c) L'=true):Ctr (shD s m) (shD (smS s c) (smM s m c)) c:=by
 have v:=yal hv
 have v':=yal hv'
 obtain ⟨w1,w2⟩:=Sp.woS_get (s:=s) (c:=c) s.length
 rw [if_pos hc] at w1 w2
 have hsl:(smS s c).length=s.length-1:=w1
 obtain ⟨wl,wg⟩:=Sp.woM_get (E:=smE m (s.getD c 0== -1) c (4*s.length)) (c:=c) s.length
 rw [if_pos hc] at wl wg
 have hsg: ∀i,i<(smS s c).length->(smS s c).getD i 0=s.getD (upC c i) 0:=fun i hi=>by
  unfold smS
  rw [w2 i (by omega)];rfl
 refine ⟨hc,by show s.length=(smS s c).length+1;omega,hsg,fun a ha=>?_⟩
 have ha':a<2*(smS s c).length:=ha
 have hlo:=ycb (D:=shD (smS s c) (smM s m c)) ha
 have hlo':outH (shD (smS s c) (smM s m c)) a<4*(s.length-1):=by
  have:outH (shD (smS s c) (smM s m c)) a<4*(smS s c).length:=hlo
  omega
 obtain ⟨y,hy⟩: ∃y,y=outH (shD s m) (upE c a):=⟨_,rfl⟩
 have hup:upE c a<2*s.length:=by have:=yj1 (x:=c) ha';omega
 have hyl:y<4*s.length:=hy▸ycb (D:=shD s m) hup
 have e:y=if outH (shD (smS s c) (smM s m c)) a/4<c then outH (shD (smS s c) (smM s m c)) a else outH (shD (smS s c) (smM s m c)) a+4:=by
  rw [hy,yi3]
  unfold outH
  rw [yuz,yky]
  have e1:(shD s m).sg (upC c (a/2))=(shD (smS s c) (smM s m c)).sg (a/2):=(hsg _ (by omega)).symm
  rw [e1]
  unfold upC
  by_cases h:a/2<c
  ·rw [if_pos h,if_pos h]
  ·rw [if_neg h,if_neg h]
   split
   ·omega
   split<;>omega
 have hyc:y/4≠c:=by rw [hy,yi3];exact yec c a
 have hml:=v.len
 have g1:(smM s m c).getD (outH (shD (smS s c) (smM s m c)) a) 0=cutM (smE m (s.getD c 0== -1) c (4*s.length)) c y:=by
  have:=wg _ hlo'
  rw [←e] at this
  exact this
 have g2:(smE m (s.getD c 0== -1) c (4*s.length)).getD y 0=thrX m (chO s c) c 5 (m.getD y 0):=Sp.smE_get hyc _ (by omega) hyl
 have g3:m.getD y 0=((inH (shD s m) ((shD s m).nx (upE c a)):Nat):Int):=by
  rw [←yd7 v hup,←hy,(yd1 v hyl).2.1]
 obtain ⟨b1,h1,h2,h3⟩:=yu1 v hc 5 _ ((ycj v).lt _ hup)
 have hout:=yfm (b:=chO s c) v.prd hc hyl hyc
 rw [g3,h2] at hout
 have hb1:b1/2≠c:=by have:=yh3 (shD s m) b1;omega
 have g4:(smM s m c).getD (outH (shD (smS s c) (smM s m c)) a) 0=((if c<inH (shD s m) b1/4 then inH (shD s m) b1-4 else inH (shD s m) b1:Nat):Int):=by
  rw [g1]
  unfold cutM
  rw [g2,g3,h2]
  split<;>split<;>omega
 have e5:(shD (smS s c) (smM s m c)).nx a=cod (if c<inH (shD s m) b1/4 then inH (shD s m) b1-4 else inH (shD s m) b1):=by
  show cod (alD (smM s m c) (outH (shD (smS s c) (smM s m c)) a))=_
  unfold alD
  rw [g4,Int.toNat_natCast]
 rw [e5,y79 hb1 (yh3 _ _) (yr3 b1)]
 exact h3 hb1
theorem y39 {x e k:Nat} {st st':Nat->Nat} (h: ∀c,st (upC x c)=st' c) (hx:st x=5):Rl x e (Z0 st' (k+e)) (Z0 st k):=⟨h,fun _=>rfl,rfl,rfl,rfl, .inl hx⟩
theorem yzv {D D':Sh} {x:Nat} (C:Ctr D D' x) (st:Nat->Nat) (k:Nat):Cov D ((List.range (2*D'.n)).map (upE x)++[2*x,2*x+1]) (Z0 st k):=by
 have hx:=C.hx
 have hn:=C.n
 refine ⟨fun a ha=>?_,fun a ha _=>?_⟩
 ·rcases List.mem_append.1 ha with h|h
  ·obtain ⟨b,hb,rfl⟩:=List.mem_map.1 h
   rw [hn];exact yj1 (List.mem_range.1 hb)
  ·simp at h;omega
 ·by_cases hax:a/2=x
  ·exact List.mem_append_right _ (by simp;omega)
  ·obtain ⟨b,rfl⟩:=yr5 hax
   exact List.mem_append_left _ (List.mem_map.2 ⟨b,List.mem_range.2 (yu0 (x:=x) (by omega) (by rw [←hn];exact ha)),rfl⟩)
theorem y6e {n:Nat} (hp:PmOk m n) {ch ch':Nat->Bool} (h: ∀i,i<n->ch i=ch' i):cirS m n ch=cirS m n ch':=by
 rw [yzf hp,yzf hp]
 have R:=yrr hp fun c=>nb01 (ch c)
 have R':=yrr hp fun c=>nb01 (ch' c)
 unfold cir3
 have key: ∀{q q':Nat->Nat},(∀i,i<n->q i=q' i)-> ∀{x y:Int},InR n x->Cir (fun x=>m.getD x.toNat 0) (st3 q) x y->Cir (fun x=>m.getD x.toNat 0) (st3 q') x y:=fun {q q'} he {x y} hx h=>by
  have hi:=yuh hp.ok hp.inv hp.ne q
  induction h with
  |refl=>exact .refl _
  |mate _ ih=>exact .mate ih
  | @join z hz ih=>
    have hzr:=hz.rng hi hx
    have:st3 q z=st3 q' z:=by unfold InR at hzr;unfold st3;rw [he _ (by omega)]
    rw [this];exact .join ih
 exact yrh R ⟨R'.rep,fun x y hx hy=>(R'.iff x y hx hy).trans ⟨key (fun i hi=>by rw [h i hi]) (by unfold InR;omega),key (fun i hi=>by rw [h i hi]) (by unfold InR;omega)⟩⟩
theorem y8a (hv:yai s m L=true) (hc:c<s.length) {L':Int} (hv':yai (smS s c) (smM s m c) L'=true):(exN (shD s m) c:Int)=smL m (chO s c) c s.length:=by
 have C:=yzu hv hc hv'
 have hD:=ycj (yal hv)
 have hD':=ycj (yal hv')
 have h1:=yk0 hD hD' C (fun _ _ k=>(k:Int)) (List.range (2*(smS s c).length)) (Z0 (fun _=>5) (0+exN (shD s m) c)) (Z0 (fun _=>5) 0) (y39 (fun _=>rfl) rfl) (fun _ _=>rfl) (yi2 _ (fun _=> .inr rfl) 0) (yh2 (shD (smS s c) (smM s m c)) _ _)
 rw [seif hv' _ _ (B:=List.range (2*(smS s c).length)) (yh2 (shD (smS s c) (smM s m c)) _ _),seif hv _ _ (B:=(List.range (2*(smS s c).length)).map (upE c)++[2*c,2*c+1]) (yzv C _ _)] at h1
 have hp:=pmOk hv
 have hsl:(smS s c).length=s.length-1:=by have:=C.n;have e:(shD s m).n=s.length:=rfl;have e':(shD (smS s c) (smM s m c)).n=(smS s c).length:=rfl;omega
 have hp':=pmOk hv'
 have h2:=y77 hp hc (chO s) (by have:=hp';rw [hsl] at this;exact this)
 have h3:cirS (smM s m c) (s.length-1) (chO (smS s c))=cirS (smM s m c) (s.length-1) (wiC (chO s) c):=y6e (by have:=hp';rw [hsl] at this;exact this) fun i hi=>by
  have:=C.sg i (by show i<(smS s c).length;omega)
  have e:(smS s c).getD i 0=s.getD (upC c i) 0:=this
  unfold chO wiC
  rw [e]
  unfold upC
  split<;>rfl
 rw [hsl,h3] at h1
 have h2':(cirS m s.length (chO s):Int)=cirS (smM s m c) (s.length-1) (wiC (chO s) c)+smL m (chO s c) c s.length:=h2
 push_cast at h1
 omega
def HF (X:Int->Int->Nat->Int) (s m:List Int) (L:Int):Int:=run X (shD s m) (List.range (2*s.length)) (Z0 (fun _=>1) L.toNat)
theorem ypd {X:Int->Int->Nat->Int} (hX:Good X) (hv:yai s m L=true) (hc:c<s.length) (hv':yai (smS s c) (smM s m c) (smLp s m c L)=true):
  HF X (smS s c) (smM s m c) (smLp s m c L)=run X (shD s m) (List.range (2*s.length)) (Z0 (fun i=>if i=c then 5 else 1) L.toNat):=by
 have C:=yzu hv hc hv'
 have hD:=ycj (yal hv)
 have hD':=ycj (yal hv')
 have he:=y8a hv hc hv'
 have hl:=(yal hv).l0
 have hlp:(smLp s m c L).toNat=L.toNat+exN (shD s m) c:=by
  have e:smLp s m c L=L+smL m (chO s c) c s.length:=rfl
  omega
 unfold HF
 rw [hlp,yk0 hD hD' C X (List.range (2*(smS s c).length)) (Z0 (fun _=>1) (L.toNat+exN (shD s m) c)) (Z0 (fun i=>if i=c then 5 else 1) L.toNat) (y39 (fun i=>if_neg (yr4 c i)) (if_pos rfl)) (fun _ _=>rfl) (yi2 _ (fun i=>by by_cases h:i=c<;>simp [h]) _) (yh2 (shD (smS s c) (smM s m c)) _ _)]
 exact ord hD (ykx hv) hX (yi2 _ (fun i=>by by_cases h:i=c<;>simp [h]) _) (yzv C _ _) (yh2 (shD s m) _ _)
end
end Hs
end Go.Proofs.YtjpbeacamoijhaaDoor
namespace Go.Proofs.YtjpbeacamoijhaaDoor
set_option linter.unusedSimpArgs false
set_option linter.unusedVariables false
namespace Hs
open Sp (Sph siD PermN itn SC alD)
def rnE (p:Nat->Nat) (f:Nat->Bool) (a:Nat):Nat:=2*p (a/2)+(if f (a/2) then 1-a % 2 else a % 2)
theorem ygm (p:Nat->Nat) (f:Nat->Bool) (a:Nat):rnE p f a/2=p (a/2):=by unfold rnE;split<;>omega
theorem yk1 (p:Nat->Nat) (f:Nat->Bool) (a:Nat):rnE p f a % 2=if f (a/2) then 1-a % 2 else a % 2:=by unfold rnE;split<;>omega
theorem y8b (p:Nat->Nat) (f:Nat->Bool) (a:Nat):co (rnE p f a)=rnE p f (co a):=by
 have h1:=yao a
 have h2:=yg1 a
 have e:co (rnE p f a)=2*(rnE p f a/2)+(1-rnE p f a % 2):=by unfold co;split<;>omega
 rw [e,ygm,yk1]
 unfold rnE
 rw [h1,h2]
 split<;>omega
structure Ren (D D':Sh) (p:Nat->Nat) (f:Nat->Bool):Prop where
 n:D'.n=D.n
 lt: ∀c,c<D.n->p c<D.n
 inj: ∀c d,c<D.n->d<D.n->p c=p d->c=d
 sg: ∀c,c<D.n->D'.sg (p c)=if f c then-D.sg c else D.sg c
 nx: ∀a,a<2*D.n->D'.nx (rnE p f a)=rnE p f (D.nx a)
structure RR (D:Sh) (p:Nat->Nat) (f:Nat->Bool) (S S':WS):Prop where
 st: ∀c,c<D.n->S'.st (p c)=if f c=true/\S.st c<=1 then 1-S.st c else S.st c
 vis: ∀a,a<2*D.n->S'.vis (rnE p f a)=S.vis a
 i:S'.i=S.i
 j:S'.j=S.j
 k:S'.k=S.k
section
variable {D D':Sh} {p:Nat->Nat} {f:Nat->Bool}
theorem yoe (R:Ren D D' p f) {a b:Nat} (ha:a<2*D.n) (hb:b<2*D.n) (h:rnE p f a=rnE p f b):a=b:=by
 have h1:p (a/2)=p (b/2):=by rw [←ygm p f a,←ygm p f b,h]
 have h2:=R.inj _ _ (by omega) (by omega) h1
 have h3:rnE p f a % 2=rnE p f b % 2:=by rw [h]
 rw [yk1,yk1,h2] at h3
 split at h3<;>omega
theorem yr7 (R:Ren D D' p f) {a:Nat} (ha:a<2*D.n):rnE p f a<2*D.n:=by
 have h1:=ygm p f a
 have h2:=R.lt (a/2) (by omega)
 omega
theorem RR.mark (R:Ren D D' p f) {S S':WS} (h:RR D p f S S') {a:Nat} (ha:a<2*D.n) {v:Nat} (hv: ¬v<=1):RR D p f (S.mk' a v) (S'.mk' (rnE p f a) v):=by
 refine ⟨fun c hc=>?_,fun b hb=>?_,h.i,h.j,h.k⟩
 ·show upd S'.st (rnE p f a/2) v (p c)=if f c=true/\upd S.st (a/2) v c<=1 then 1-upd S.st (a/2) v c else upd S.st (a/2) v c
  rw [ygm]
  by_cases e:c=a/2
  ·subst e;rw [yac,yac,if_neg fun h=>hv h.2]
  ·rw [yae _ _ e,yae _ _ fun e'=>e (R.inj _ _ hc (by omega) e')];exact h.st c hc
 ·show upd S'.vis (rnE p f a) true (rnE p f b)=upd S.vis a true b
  by_cases e:b=a
  ·subst e;rw [yac,yac]
  ·rw [yae _ _ e,yae _ _ fun e'=>e (yoe R hb ha e')];exact h.vis b hb
theorem RR.sc {S S':WS} (h:RR D p f S S') (u v:Int):RR D p f (S.sc u v) (S'.sc u v):=
 ⟨h.st,h.vis,by show S'.i+u=S.i+u;rw [h.i],by show S'.j+v=S.j+v;rw [h.j],h.k⟩
theorem RR.cr {S S':WS} (h:RR D p f S S'):RR D p f S.cr S'.cr:=⟨h.st,h.vis,h.i,h.j,by show S'.k+1=S.k+1;rw [h.k]⟩
theorem yzw (hD:Ok D) (R:Ren D D' p f) {S S':WS} (h:RR D p f S S') {a:Nat} (ha:a<2*D.n):BR (fun S b S' b'=>RR D p f S S'/\b<2*D.n/\b'=rnE p f b) (br D S a) (br D' S' (rnE p f a)):=by
 have hc:a/2<D.n:=by omega
 have hst:=h.st _ hc
 have hl':=yr7 R ha
 have hs:=R.sg _ hc
 have k1:=hD.lt _ ha
 have k2:=hD.lt _ (ya4 ha)
 have n1:=R.nx a ha
 have n2:=R.nx (co a) (ya4 ha)
 have e0: ¬2*D.n<=a:=by omega
 have e1: ¬2*D'.n<=rnE p f a:=by rw [R.n];omega
 unfold br
 rw [if_neg e0,if_neg e1,ygm,yk1,y8b,n1,n2,hst]
 by_cases q2:S.st (a/2)=2
 ·rw [if_pos q2,if_neg (c:=f (a/2)=true/\S.st (a/2)<=1) (by omega),if_pos q2]
  exact .cons ⟨h.mark R ha (by omega),k2,rfl⟩ .nil
 by_cases q3:S.st (a/2)=3
 ·rw [if_neg q2,if_pos q3,if_neg (c:=f (a/2)=true/\S.st (a/2)<=1) (by omega),if_neg q2,if_pos q3]
  exact .cons ⟨h.mark R ha (by omega),k1,rfl⟩ .nil
 by_cases q5:S.st (a/2)=5
 ·rw [if_neg q2,if_neg q3,if_pos q5,if_neg (c:=f (a/2)=true/\S.st (a/2)<=1) (by omega),if_neg q2,if_neg q3,if_pos q5]
  exact .cons ⟨h.mark R ha (by omega),k2,rfl⟩ .nil
 rw [if_neg q2,if_neg q3,if_neg q5]
 by_cases q1:S.st (a/2)<=1
 ·have hsg: ∀q,q<=1->sgn D' (if f (a/2)=true then 1-q else q) (p (a/2))=sgn D q (a/2):=fun q hq=>by
   unfold sgn
   rw [hs]
   by_cases hf:f (a/2)=true
   ·rw [if_pos hf,if_pos hf]
    by_cases e:q=1
    ·rw [if_pos e,if_neg (by omega)];omega
    ·rw [if_neg e,if_pos (by omega)]
   ·rw [if_neg hf,if_neg hf]
  have hq:(if f (a/2)=true/\S.st (a/2)<=1 then 1-S.st (a/2) else S.st (a/2))=if f (a/2)=true then 1-S.st (a/2) else S.st (a/2):=by
   by_cases hf:f (a/2)=true
   ·rw [if_pos hf,if_pos ⟨hf,q1⟩]
   ·rw [if_neg hf,if_neg fun h=>hf h.1]
  rw [hq,hsg _ q1]
  have hle:(if f (a/2)=true then 1-S.st (a/2) else S.st (a/2))<=1:=by split<;>omega
  have hio:((if f (a/2)=true then 1-S.st (a/2) else S.st (a/2))=if f (a/2)=true then 1-a % 2 else a % 2)↔S.st (a/2)=a % 2:=by split<;>omega
  have hiu:((if f (a/2)=true then 1-S.st (a/2) else S.st (a/2))=1-if f (a/2)=true then 1-a % 2 else a % 2)↔S.st (a/2)=1-a % 2:=by split<;>omega
  rw [if_neg (show¬(if f (a/2)=true then 1-S.st (a/2) else S.st (a/2))=2 by omega),if_neg (show¬(if f (a/2)=true then 1-S.st (a/2) else S.st (a/2))=3 by omega),if_neg (show¬(if f (a/2)=true then 1-S.st (a/2) else S.st (a/2))=5 by omega)]
  by_cases h6:S.st (a/2)=a % 2
  ·rw [if_pos h6,if_pos (hio.2 h6)]
   exact .cons ⟨h.mark R ha (by omega),k1,rfl⟩ .nil
  ·rw [if_neg h6,if_neg fun h=>h6 (hio.1 h)]
   by_cases h7:S.st (a/2)=1-a % 2
   ·rw [if_pos h7,if_pos (hiu.2 h7)]
    exact .cons ⟨(h.mark R ha (by omega)).sc _ _,k1,rfl⟩ (.cons ⟨(h.mark R ha (by omega)).sc _ _,k2,rfl⟩ .nil)
   ·rw [if_neg h7,if_neg fun h=>h7 (hiu.1 h)];exact .nil
 ·rw [if_neg (c:=f (a/2)=true/\S.st (a/2)<=1) (by omega),if_neg q2,if_neg q3,if_neg q5]
  have m1: ¬S.st (a/2)=a % 2:=by omega
  have m2: ¬S.st (a/2)=1-a % 2:=by omega
  rw [if_neg m1,if_neg m2,if_neg (by split<;>omega),if_neg (by split<;>omega)]
  exact .nil
theorem yu2 (hD:Ok D) (R:Ren D D' p f) (X:Int->Int->Nat->Int): ∀(B:List Nat) (S S':WS),(∀a∈B,a<2*D.n)->RR D p f S S'->run X D B S=run X D' (B.map (rnE p f)) S'
 |[],S,S',_,h=>by show X _ _ _=X _ _ _;rw [h.i,h.j,h.k]
 |a::B,S,S',hl,h=>by
  have ha:=hl a (.head _)
  have ih:=fun S S' h=>yu2 hD R X B S S' (fun b hb=>hl b (.tail _ hb)) h
  show (if S.vis a=true then _ else _)=if S'.vis (rnE p f a)=true then _ else _
  rw [h.vis a ha]
  split
  ·exact ih _ _ h
  ·show sumB _ _=sumB _ _
   refine (yzw hD R h.cr ha).sum fun x _ S1' b' ⟨h1,h2,h3⟩=>?_
   subst h3
   refine Wsim (fun S b S' b'=>RR D p f S S'/\b<2*D.n/\b'=rnE p f b) (fun S b S' b' ⟨h1,h2,h3⟩=>?_) _ _ _ _ ⟨h1,h2,rfl⟩
   subst h3
   refine ⟨?_,fun _=>ih _ _ h1,fun _=>⟨(h1.vis b h2).symm,fun _=>yzw hD R h1 h2⟩⟩
   by_cases e:b=a
   ·subst e;rw [ya3,ya3]
   ·rw [ycx e,ycx fun e'=>e (yoe R h2 ha e')]
theorem y6f (R:Ren D D' p f) (st:Nat->Nat) (k:Nat):Cov D' ((List.range (2*D.n)).map (rnE p f)) (Z0 st k):=by
 have hl: ∀a∈(List.range (2*D.n)).map (rnE p f),a<2*D'.n:=fun a ha=>by
  obtain ⟨b,hb,rfl⟩:=List.mem_map.1 ha
  rw [R.n];exact yr7 R (List.mem_range.1 hb)
 refine ⟨hl,fun a ha _=>?_⟩
 have hp:PermN (2*D.n) (rnE p f):=⟨fun a ha=>yr7 R ha,fun a b ha hb h=>yoe R ha hb h⟩
 rw [R.n] at ha
 obtain ⟨k,h0,hk⟩:=hp.back ha
 obtain ⟨j,rfl⟩: ∃j,k=j+1:=⟨k-1,by omega⟩
 exact List.mem_map.2 ⟨_,List.mem_range.2 (hp.itn_lt ha j),hk⟩
theorem yu3 (hD:Ok D) (hD':Ok D') {al':Nat->Nat} (hP':Pla D' al') (R:Ren D D' p f) {X:Int->Int->Nat->Int} (hX:Good X) {st st':Nat->Nat} {k:Nat} (hst: ∀c,st' c<=1\/st' c=5) (h: ∀c,c<D.n->st' (p c)=if f c=true/\st c<=1 then 1-st c else st c):
  run X D (List.range (2*D.n)) (Z0 st k)=run X D' (List.range (2*D'.n)) (Z0 st' k):=by
 rw [yu2 hD R X _ (Z0 st k) (Z0 st' k) (fun a ha=>List.mem_range.1 ha) ⟨h,fun _ _=>rfl,rfl,rfl,rfl⟩]
 exact ord hD' hP' hX (yi2 _ hst _) (y6f R _ _) (yh2 D' _ _)
end
section
variable {s m:List Int} {L:Int} {c:Nat}
theorem y8c (hv:yai s m L=true) (hc:c<s.length):Ren (shD s m) (shD (swS s c) (swM s m c)) id (fun i=>i==c):=by
 have v:=yal hv
 have v':=yal (Sp.valid_switch hv hc)
 have hsl:(swS s c).length=s.length:=Sp.swS_len
 refine ⟨hsl,fun i hi=>hi,fun _ _ _ _ h=>h,fun i hi=>?_,fun a ha=>?_⟩
 ·show (swS s c).getD i 0=if (i==c)=true then-s.getD i 0 else s.getD i 0
  rw [Sp.swS_get hi]
  by_cases e:i=c
  ·rw [if_pos e,if_pos (beq_iff_eq.2 e)]
  ·rw [if_neg e,if_neg fun h=>e (beq_iff_eq.1 h)]
 ·--the out half-ycc
  have hrn: ∀a,rnE id (fun i=>i==c) a=if a/2=c then co a else a:=fun a=>by
   unfold rnE
   have:=yg1 a
   have:=yao a
   by_cases e:a/2=c
   ·rw [if_pos e,if_pos (beq_iff_eq.2 e)]
    show 2*(a/2)+(1-a % 2)=co a
    omega
   ·rw [if_neg e,if_neg fun h=>e (beq_iff_eq.1 h)]
    show 2*(a/2)+a % 2=a
    omega
  have hct: ∀h,cod (Sp.tw (Sp.kT s c) c h)=rnE id (fun i=>i==c) (cod h):=fun h=>by
   rw [hrn]
   have hk:=Sp.kT_or (s:=s) (c:=c)
   have e1:cod h/2=h/4:=by unfold cod;omega
   rw [e1]
   unfold Sp.tw
   by_cases e:h/4=c
   ·rw [if_pos e,if_pos e]
    have:=yg1 (cod h)
    have:=yao (cod h)
    have e2:cod h % 2=h % 2:=by unfold cod;omega
    have e3:co (cod h)=2*(h/4)+(1-h % 2):=by omega
    rw [e3]
    unfold cod
    rcases hk with hk|hk<;>rw [hk]<;>omega
   ·rw [if_neg e,if_neg e]
  have ho:outH (shD (swS s c) (swM s m c)) (rnE id (fun i=>i==c) a)=Sp.tw (Sp.kT s c) c (outH (shD s m) a):=by
   have lo:=ycb (D:=shD s m) ha
   have lo':Sp.tw (Sp.kT s c) c (outH (shD s m) a)<4*(swS s c).length:=by rw [hsl];exact Sp.tw_lt lo
   have h1:=Sp.outB_sw (s:=s) (c:=c) (v.sg c hc) hc lo
   rw [(ygl (m:=m) v.sg ha).2] at h1
   have h2:=(ydi (m:=swM s m c) v'.sg lo').2 h1
   rw [h2,hct,ykw]
  have lo:=ycb (D:=shD s m) ha
  show cod (alD (swM s m c) (outH (shD (swS s c) (swM s m c)) (rnE id (fun i=>i==c) a)))=rnE id (fun i=>i==c) (cod (alD m (outH (shD s m) a)))
  rw [ho,(Sp.swM_al v hc (i:=Sp.tw (Sp.kT s c) c (outH (shD s m) a)) (Sp.tw_lt lo)).1,(Sp.tw_back Sp.kT_or).1,hct]
theorem ype {X:Int->Int->Nat->Int} (hX:Good X) (hv:yai s m L=true) (hc:c<s.length):HF X (swS s c) (swM s m c) L=run X (shD s m) (List.range (2*s.length)) (Z0 (fun i=>if i=c then 0 else 1) L.toNat):=by
 have hv':=Sp.valid_switch hv hc
 symm
 refine yu3 (ycj (yal hv)) (ycj (yal hv')) (ykx hv') (y8c hv hc) hX (fun _=> .inl (by omega)) fun i hi=>?_
 show 1=if (i==c)=true/\(if i=c then 0 else 1)<=1 then 1-(if i=c then 0 else 1) else if i=c then 0 else 1
 by_cases e:i=c
 ·rw [if_pos e,if_pos ⟨beq_iff_eq.2 e,by omega⟩]
 ·rw [if_neg e,if_neg fun h=>e (beq_iff_eq.1 h.1)]
theorem y25 {X:Int->Int->Nat->Int} (hX:Good X) (hv:yai s m L=true) (hc:c<s.length) (hv':yai (smS s c) (smM s m c) (smLp s m c L)=true):
  (s.getD c 0=1->HF (fun i j k=>X (i-1) j k) s m L=HF (fun i j k=>X (i+1) j k) (swS s c) (swM s m c) L+HF (fun i j k=>X i (j+1) k) (smS s c) (smM s m c) (smLp s m c L))/\
  (s.getD c 0= -1->HF (fun i j k=>X (i-1) j k) (swS s c) (swM s m c) L=HF (fun i j k=>X (i+1) j k) s m L+HF (fun i j k=>X i (j+1) k) (smS s c) (smM s m c) (smLp s m c L)):=by
 have g1:Good fun i j k=>X (i-1) j k:=fun i j k hk=>by
  have:=hX (i-1) j k hk
  rw [show i-1+1=i+1-1 by omega] at this;exact this
 have g2:Good fun i j k=>X (i+1) j k:=fun i j k hk=>by
  have:=hX (i+1) j k hk
  rw [show i+1-1=i-1+1 by omega] at this;exact this
 have g3:Good fun i j k=>X i (j+1) k:=fun i j k hk=>hX i (j+1) k hk
 have sk:=yiv (X:=X) (D:=shD s m) hc ((yal hv).sg c hc) (List.range (2*s.length)) (Z0 (fun _=>1) L.toNat) rfl rfl (List.mem_range.2 (by omega))
 rw [yjq,yjq,yjq] at sk
 have e1: ∀X:Int->Int->Nat->Int,(fun i j k=>X (i+ -1) (j+0) k)=fun i j k=>X (i-1) j k:=fun X=>by funext i j k;rw [Int.add_zero];rfl
 have e2: ∀X:Int->Int->Nat->Int,(fun i j k=>X (i+1) (j+0) k)=fun i j k=>X (i+1) j k:=fun X=>by funext i j k;rw [Int.add_zero]
 have e3: ∀X:Int->Int->Nat->Int,(fun i j k=>X (i+0) (j+1) k)=fun i j k=>X i (j+1) k:=fun X=>by funext i j k;rw [Int.add_zero]
 rw [e1,e2,e3] at sk
 have st: ∀q,(Z0 (fun _=>1) L.toNat).sx c q=Z0 (fun i=>if i=c then q else 1) L.toNat:=fun q=>rfl
 rw [st,st,st] at sk
 have s1:(fun i=>if i=c then 1 else 1)=fun _:Nat=>(1:Nat):=by funext i;split<;>rfl
 constructor
 ·intro h
  have hp:pq (shD s m) c=1:=if_pos h
  have hn:nq (shD s m) c=0:=if_pos h
  rw [hp,hn,s1] at sk
  rw [ype g2 hv hc,ypd g3 hv hc hv']
  exact sk
 ·intro h
  have hh: ¬(shD s m).sg c=1:=by show¬s.getD c 0=1;omega
  have hp:pq (shD s m) c=0:=if_neg hh
  have hn:nq (shD s m) c=1:=if_neg hh
  rw [hp,hn,s1] at sk
  rw [ype g1 hv hc,ypd g3 hv hc hv']
  exact sk
end
end Hs
end Go.Proofs.YtjpbeacamoijhaaDoor
namespace Go.Proofs.YtjpbeacamoijhaaDoor
set_option linter.unusedSimpArgs false
set_option linter.unusedVariables false
section
variable {m:List Int} {n:Nat} (hp:PmOk m n)
include hp
end
section
variable {s m:List Int} {L:Int} (hv:ybd s m L)
include hv
theorem y6g {x:Nat} (hx:x<4*s.length):outB s (m.getD x 0)= !outB s x/\outB s (yam m x)=outB s x:=by
 have hm:=hv.mt x hx
 have h5:=hm.2.2.2.2
 have e1:outB s (m.getD x 0)= !outB s x:=by cases h1:outB s x<;>cases h2:outB s (m.getD x 0)<;>simp_all
 refine ⟨e1,?_⟩
 have key: ∀y:Int,0<=y->y<4*s.length->outB s (ybb y 2)= !outB s y:=fun y h0 h1=>by
  have hs:=hv.sg (y/4).toNat (by omega)
  have e:ybb y 2=y-y % 4+(y % 4+2)% 4:=by unfold ybb;rw [show (2:Int).tmod 4=2 by decide];omega
  have e4:(y-y % 4+(y % 4+2)% 4)/4=y/4:=by omega
  rw [e]
  unfold outB
  rw [e4]
  rcases (show y % 4=0\/y % 4=1\/y % 4=2\/y % 4=3 by omega) with h|h|h|h
  ·rw [if_neg (by omega),if_pos (by omega),if_neg (by omega),if_neg (by omega),if_neg (by omega)];rfl
  ·rw [if_neg (by omega),if_neg (by omega),if_pos (by omega),if_pos h]
   rcases hs with hs|hs<;>rw [hs]<;>rfl
  ·rw [if_neg (by omega),if_neg (by omega),if_neg (by omega),if_neg (by omega),if_pos h];rfl
  ·rw [if_pos (by omega),if_neg (by omega),if_neg (by omega),if_pos h]
   rcases hs with hs|hs<;>rw [hs]<;>rfl
 unfold yam
 rw [Int.toNat_natCast,key _ hm.1 (by omega),e1,Bool.not_not]
theorem yh4 {x:Nat} (hx:x<4*s.length): ∀j,outB s (it (yam m) j x)=outB s x
 |0=>rfl
 |j+1=>by
  have hR:InR s.length (x:Int):=by unfold InR;omega
  have hS:=(yfo hv.prd).it hR j
  unfold InR at hS
  have e:it (yam m) j (x:Int)=((it (yam m) j (x:Int)).toNat:Int):=by omega
  have h1:=(y6g hv (x:=(it (yam m) j (x:Int)).toNat) (by omega)).2
  rw [←e] at h1
  show outB s (yam m (it (yam m) j x))=_
  rw [h1,yh4 hx j]
end
end Go.Proofs.YtjpbeacamoijhaaDoor
namespace Go.Proofs.YtjpbeacamoijhaaDoor
set_option linter.unusedSimpArgs false
set_option linter.unusedVariables false
namespace Sp
open Classical
section
variable {N n:Nat} {si al:Nat->Nat} {w g:Nat->Int}
def nbt (b:Bool):Nat:=if b then 1 else 0
end
end Sp
end Go.Proofs.YtjpbeacamoijhaaDoor
