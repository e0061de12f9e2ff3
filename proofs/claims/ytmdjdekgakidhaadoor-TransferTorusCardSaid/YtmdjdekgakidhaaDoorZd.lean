/- Plain: the representatives of merge are those of the circles. -/
import Derived.Test.YtmdjdekgakidhaaDoorZc
set_option linter.unusedSimpArgs false
set_option linter.unusedVariables false
namespace Go.Proofs.YtmdjdekgakidhaaDoor
theorem y0f (k:Nat):jnB true ((4*k:Nat):Int)=((4*k+3:Nat):Int)/\jnB true ((4*k+1:Nat):Int)=((4*k+2:Nat):Int)/\jnB true ((4*k+2:Nat):Int)=((4*k+1:Nat):Int)/\jnB true ((4*k+3:Nat):Int)=((4*k:Nat):Int)/\
  jnB false ((4*k:Nat):Int)=((4*k+1:Nat):Int)/\jnB false ((4*k+1:Nat):Int)=((4*k:Nat):Int)/\jnB false ((4*k+2:Nat):Int)=((4*k+3:Nat):Int)/\jnB false ((4*k+3:Nat):Int)=((4*k+2:Nat):Int):=by
 have o: ∀x:Int,x % 2=1->jnB true x=x-x % 4+(x % 4+5)% 4/\jnB false x=x-x % 4+(x % 4+3)% 4:=fun x h=>by
  unfold jnB;rw [yfg,ydw,decide_eq_true h];exact ⟨if_pos rfl,if_neg (by simp)⟩
 have e: ∀x:Int,¬x % 2=1->jnB true x=x-x % 4+(x % 4+3)% 4/\jnB false x=x-x % 4+(x % 4+5)% 4:=fun x h=>by
  unfold jnB;rw [yfg,ydw,decide_eq_false h];exact ⟨if_neg (by simp),if_pos rfl⟩
 rw [(e _ (by omega)).1,(o _ (by omega)).1,(e _ (by omega)).1,(o _ (by omega)).1,(e _ (by omega)).2,(o _ (by omega)).2,(e _ (by omega)).2,(o _ (by omega)).2]
 omega
theorem ydp {m:List Int} {n:Nat} (hp:yba m n) (hmm: ∀x:Nat,x<4*n->m.getD (m.getD x 0).toNat 0=x) (hmf: ∀x:Nat,x<4*n->m.getD x 0≠x) (ch:Nat->Bool):Inv2 n (fun x=>m.getD x.toNat 0) (fun x=>jnB (ch (x/4).toNat) x):=by
 have hml:=hp.1
 refine ⟨fun x hx=>?_,fun x hx=>?_,fun x hx=>?_,fun x hx=>?_,fun x hx=>?_,fun x _=>ylx _ x⟩
 ·unfold InR at*
  have:=hp.2 x.toNat (by omega)
  omega
 ·unfold InR at*
  have h1:=yfh (ch (x/4).toNat) x
  omega
 ·unfold InR at hx
  have:=hmm x.toNat (by omega)
  show m.getD (m.getD x.toNat 0).toNat 0=x
  rw [this];omega
 ·show jnB (ch (jnB (ch (x/4).toNat) x/4).toNat) (jnB (ch (x/4).toNat) x)=x
  rw [yfh,yi8]
 ·unfold InR at hx
  have:=hmf x.toNat (by omega)
  show m.getD x.toNat 0≠x
  omega
section
variable {n:Nat} {mt jn:Int->Int} {R:List Int}
theorem ygi (hi:Inv2 n mt jn) (hR:RepR R (4*n)) (h1: ∀x y:Nat,x<4*n->y<4*n->R.getD x 0=R.getD y 0->Cir mt jn x y) {g h:Nat} (hg:g<4*n) (hh:h<4*n) (hgh:Cir mt jn g h):
  ∀x y:Nat,x<4*n->y<4*n->(yar R g h).getD x 0=(yar R g h).getD y 0->Cir mt jn x y:=by
 intro x y hx hy e
 have ir: ∀z:Nat,z<4*n->InR n (z:Int):=fun z hz=>by unfold InR;omega
 rw [ya8 hR.len hx,ya8 hR.len hy] at e
 by_cases c1:R.getD x 0=R.getD g 0
 ·rw [if_pos c1] at e
  by_cases c2:R.getD y 0=R.getD g 0
  ·exact h1 x y hx hy (c1.trans c2.symm)
  ·rw [if_neg c2] at e
   exact ((h1 x g hx hg c1).trans hgh).trans (h1 h y hh hy e)
 ·rw [if_neg c1] at e
  by_cases c2:R.getD y 0=R.getD g 0
  ·rw [if_pos c2] at e
   exact ((h1 x h hx hh e).trans (hgh.symm hi (ir g hg))).trans (h1 g y hg hy c2.symm)
  ·rw [if_neg c2] at e
   exact h1 x y hx hy e
end
section
variable {m:List Int} {n:Nat} {ch:Nat->Bool}
theorem ypk (hp:yba m n) (hi:Inv2 n (fun x=>m.getD x.toNat 0) (fun x=>jnB (ch (x/4).toNat) x)): ∀k,k<=4*n->RepR (mgA m k) (4*n)/\
  (∀x y:Nat,x<4*n->y<4*n->(mgA m k).getD x 0=(mgA m k).getD y 0->Cir (fun x=>m.getD x.toNat 0) (fun x=>jnB (ch (x/4).toNat) x) x y)/\
  (∀x:Nat,x<k->(x:Int)<m.getD x 0->(mgA m k).getD (m.getD x 0).toNat 0=(mgA m k).getD x 0)
 |0,_=>by
  have hml:=hp.1
  have hu:=(UF.init (4*n)).rep
  refine ⟨by simp only [mgA,hml];exact hu,fun x y hx hy e=>?_,fun x hx=>by omega⟩
  have:(x:Int)=y:=by simpa [mgA,hml,hx,hy] using e
  have:x=y:=by omega
  subst this;exact .refl _
 |k+1,hk=>by
  obtain ⟨i1,i2,i3⟩:=ypk hp hi k (by omega)
  have hml:=hp.1
  have hmr:=hp.2 k (by omega)
  by_cases hlt:(k:Int)<m.getD k 0
  ·have e:mgA m (k+1)=yar (mgA m k) k (m.getD k 0).toNat:=by simp only [mgA,if_pos hlt]
   rw [e]
   have hy:(m.getD k 0).toNat<4*n:=by omega
   have hc:Cir (fun x=>m.getD x.toNat 0) (fun x=>jnB (ch (x/4).toNat) x) (k:Int) ((m.getD k 0).toNat:Int):=by
    have:=Cir.mate (mt:=fun x=>m.getD x.toNat 0) (jn:=fun x=>jnB (ch (x/4).toNat) x) (Cir.refl (k:Int))
    simp only [Int.toNat_natCast] at this
    rw [show ((m.getD k 0).toNat:Int)=m.getD k 0 by omega]
    exact this
   refine ⟨yey i1 (by omega) hy,ygi hi i1 i2 (by omega) hy hc,fun x hx hlx=>?_⟩
   by_cases ex:x=k
   ·subst ex;exact (ydy i1.len (by omega) hy).symm
   ·have hmx:=hp.2 x (by omega)
    exact ya6 i1.len (by omega) (by omega) (i3 x (by omega) hlx)
  ·have e:mgA m (k+1)=mgA m k:=by simp only [mgA,if_neg hlt]
   rw [e]
   refine ⟨i1,i2,fun x hx hlx=>?_⟩
   by_cases ex:x=k
   ·subst ex;exact absurd hlx hlt
   ·exact i3 x (by omega) hlx
theorem ypl (hp:yba m n) (hmm: ∀x:Nat,x<4*n->m.getD (m.getD x 0).toNat 0=x) (hmf: ∀x:Nat,x<4*n->m.getD x 0≠x): ∀k,k<=n->RepR (mgB m ch k) (4*n)/\
  (∀x y:Nat,x<4*n->y<4*n->(mgB m ch k).getD x 0=(mgB m ch k).getD y 0->Cir (fun x=>m.getD x.toNat 0) (fun x=>jnB (ch (x/4).toNat) x) x y)/\
  (∀x:Nat,x<4*n->(mgB m ch k).getD (m.getD x 0).toNat 0=(mgB m ch k).getD x 0)/\
  (∀x:Nat,x<4*k->(mgB m ch k).getD (jnB (ch (x/4)) x).toNat 0=(mgB m ch k).getD x 0)
 |0,_=>by
  have hi:=ydp hp hmm hmf ch
  have hml:=hp.1
  obtain ⟨i1,i2,i3⟩:=ypk (ch:=ch) hp hi (4*n) (Nat.le_refl _)
  simp only [mgB,hml]
  refine ⟨i1,i2,fun x hx=>?_,fun x hx=>by omega⟩
  have hmr:=hp.2 x (by omega)
  have hne:=hmf x hx
  by_cases hlt:(x:Int)<m.getD x 0
  ·exact i3 x hx hlt
  ·have h2:=hmm x hx
   have:=i3 (m.getD x 0).toNat (by omega) (by rw [h2];omega)
   rw [h2,Int.toNat_natCast] at this
   exact this.symm
 |k+1,hk=>by
  have hi:=ydp hp hmm hmf ch
  have hml:=hp.1
  obtain ⟨i1,i2,i3,i4⟩:=ypl hp hmm hmf k (by omega)
  have hjc: ∀x:Nat,Cir (fun x=>m.getD x.toNat 0) (fun x=>jnB (ch (x/4).toNat) x) (x:Int) (jnB (ch (x/4)) x):=fun x=>by
   have:=Cir.join (mt:=fun x=>m.getD x.toNat 0) (jn:=fun x=>jnB (ch (x/4).toNat) x) (Cir.refl (x:Int))
   rw [show ((x:Int)/4).toNat=x/4 by omega] at this
   exact this
  have gen: ∀a b c d:Nat,a<4*n->b<4*n->c<4*n->d<4*n->jnB (ch (a/4)) a=b->jnB (ch (c/4)) c=d->(∀x:Nat,x/4=k->(x=a\/x=b\/x=c\/x=d))->jnB (ch (b/4)) b=a->jnB (ch (d/4)) d=c->
   mgB m ch (k+1)=yar (yar (mgB m ch k) a b) c d->RepR (mgB m ch (k+1)) (4*n)/\
   (∀x y:Nat,x<4*n->y<4*n->(mgB m ch (k+1)).getD x 0=(mgB m ch (k+1)).getD y 0->Cir (fun x=>m.getD x.toNat 0) (fun x=>jnB (ch (x/4).toNat) x) x y)/\
   (∀x:Nat,x<4*n->(mgB m ch (k+1)).getD (m.getD x 0).toNat 0=(mgB m ch (k+1)).getD x 0)/\
   (∀x:Nat,x<4*(k+1)->(mgB m ch (k+1)).getD (jnB (ch (x/4)) x).toNat 0=(mgB m ch (k+1)).getD x 0):=by
   intro a b c d ha hb hc hd e1 e2 hx4 e3 e4 eM
   rw [eM]
   have r1:=yey i1 ha hb
   have c1:=ygi hi i1 i2 ha hb (by rw [←e1];exact hjc a)
   refine ⟨yey r1 hc hd,ygi hi r1 c1 hc hd (by rw [←e2];exact hjc c),fun x hx=>?_,fun x hx=>?_⟩
   ·have hmr:=hp.2 x (by omega)
    exact ya6 r1.len (by omega) hx (ya6 i1.len (by omega) hx (i3 x hx))
   ·by_cases hxk:x/4=k
    ·have p1:=ya6 r1.len (g:=c) (h:=d) ha hb (ydy i1.len ha hb)
     have p2:=ydy (N:=4*n) (R:=yar (mgB m ch k) a b) r1.len hc hd
     rcases hx4 x hxk with rfl|rfl|rfl|rfl
     ·rw [e1,Int.toNat_natCast];exact p1.symm
     ·rw [e3,Int.toNat_natCast];exact p1
     ·rw [e2,Int.toNat_natCast];exact p2.symm
     ·rw [e4,Int.toNat_natCast];exact p2
    ·have hj:=yfh (ch (x/4)) x
     exact ya6 r1.len (by omega) (by omega) (ya6 i1.len (by omega) (by omega) (i4 x (by omega)))
  have d0:(4*k)/4=k:=by omega
  have d1:(4*k+1)/4=k:=by omega
  have d2:(4*k+2)/4=k:=by omega
  have d3:(4*k+3)/4=k:=by omega
  obtain ⟨t0,t1,t2,t3,f0,f1,f2,f3⟩:=y0f k
  cases hch:ch k with
  |true=>
   exact gen (4*k+1) (4*k+2) (4*k+3) (4*k) (by omega) (by omega) (by omega) (by omega) (by rw [d1,hch];exact t1) (by rw [d3,hch];exact t3) (fun x hx=>by omega) (by rw [d2,hch];exact t2) (by rw [d0,hch];exact t0) (by simp only [mgB,hch,if_true])
  |false=>
   exact gen (4*k) (4*k+1) (4*k+2) (4*k+3) (by omega) (by omega) (by omega) (by omega) (by rw [d0,hch];exact f0) (by rw [d2,hch];exact f2) (fun x hx=>by omega) (by rw [d1,hch];exact f1) (by rw [d3,hch];exact f3) (by simp only [mgB,hch];rfl)
theorem y0g (hp:yba m n) (hmm: ∀x:Nat,x<4*n->m.getD (m.getD x 0).toNat 0=x) (hmf: ∀x:Nat,x<4*n->m.getD x 0≠x):CirR n (fun x=>m.getD x.toNat 0) (fun x=>jnB (ch (x/4).toNat) x) (mgB m ch n):=by
 obtain ⟨i1,i2,i3,i4⟩:=ypl (ch:=ch) hp hmm hmf n (Nat.le_refl _)
 refine CirR.of (ydp hp hmm hmf ch) i1 i2 (fun x hx=>by simp only [Int.toNat_natCast];exact i3 x hx) (fun x hx=>?_)
 have:=i4 x hx
 rw [show ((x:Int)/4).toNat=x/4 by omega]
 exact this
end
end Go.Proofs.YtmdjdekgakidhaaDoor
set_option linter.unusedSimpArgs false
set_option linter.unusedVariables false
namespace Go.Proofs.YtmdjdekgakidhaaDoor
def ncl (n:Nat) (mt b:Int->Int):Nat:=roots (crN mt b (4*n) (4*n))
def ctr (mt b:Int->Int) (y:Int) (x:Int):Int:=
 if x=y then mt y else if x=mt y then y else if x=b y then b (mt y) else if x=b (mt y) then b y else b x
section
variable {n:Nat} {mt b:Int->Int} (hi:Inv2 n mt b) {y:Int} (hy:InR n y) (hne:b y≠mt y)
include hi hy hne
theorem yez:InR n (mt y)/\InR n (b y)/\InR n (b (mt y))/\mt y≠y/\b y≠y/\b (mt y)≠mt y/\b (mt y)≠y/\b (mt y)≠b y/\b y≠mt y:=by
 have h1:=hi.mr y hy
 refine ⟨h1,hi.jr y hy,hi.jr _ h1,hi.mf y hy,hi.jf y hy,hi.jf _ h1,fun e=>?_,fun e=>?_,hne⟩
 ·have:=congrArg b e
  rw [hi.jj _ h1] at this
  exact hne this.symm
 ·have:=congrArg b e
  rw [hi.jj _ h1,hi.jj _ hy] at this
  exact hi.mf y hy this
theorem ymv:Inv2 n mt (ctr mt b y):=by
 obtain ⟨z1,p1,q1,n1,n2,n3,n4,n5,n6⟩:=yez hi hy hne
 refine ⟨hi.mr,fun x hx=>?_,hi.mm,fun x hx=>?_,hi.mf,fun x hx=>?_⟩
 ·unfold ctr
  split
  ·exact z1
  ·split
   ·exact hy
   ·split
    ·exact q1
    ·split
     ·exact p1
     ·exact hi.jr x hx
 ·by_cases e1:x=y
  ·rw [e1];unfold ctr;rw [if_pos rfl,if_neg n1,if_pos rfl]
  ·by_cases e2:x=mt y
   ·rw [e2];unfold ctr;rw [if_neg n1,if_pos rfl,if_pos rfl]
   ·by_cases e3:x=b y
    ·have:ctr mt b y x=b (mt y):=by unfold ctr;rw [if_neg e1,if_neg e2,if_pos e3]
     rw [this];unfold ctr;rw [if_neg n4,if_neg n3,if_neg n5,if_pos rfl,e3]
    ·by_cases e4:x=b (mt y)
     ·have:ctr mt b y x=b y:=by unfold ctr;rw [if_neg e1,if_neg e2,if_neg e3,if_pos e4]
      rw [this];unfold ctr;rw [if_neg n2,if_neg n6,if_pos rfl,e4]
     ·have:ctr mt b y x=b x:=by unfold ctr;rw [if_neg e1,if_neg e2,if_neg e3,if_neg e4]
      rw [this]
      have k1:b x≠y:=fun e=>e3 (by rw [←e,hi.jj x hx])
      have k2:b x≠mt y:=fun e=>e4 (by rw [←e,hi.jj x hx])
      have k3:b x≠b y:=fun e=>e1 (by have:=congrArg b e;rwa [hi.jj x hx,hi.jj y hy] at this)
      have k4:b x≠b (mt y):=fun e=>e2 (by have:=congrArg b e;rwa [hi.jj x hx,hi.jj _ z1] at this)
      unfold ctr;rw [if_neg k1,if_neg k2,if_neg k3,if_neg k4,hi.jj x hx]
 ·unfold ctr
  split
  ·rename_i e;rw [e];exact n1
  ·split
   ·rename_i e;rw [e];exact n1.symm
   ·split
    ·rename_i e;rw [e];exact n5
    ·split
     ·rename_i e;rw [e];exact n5.symm
     ·exact hi.jf x hx
theorem y2m {u v:Int} (h:Cir mt (ctr mt b y) u v) (hu:InR n u):Cir mt b u v:=by
 obtain ⟨z1,p1,q1,n1,n2,n3,n4,n5,n6⟩:=yez hi hy hne
 have hi2:=ymv hi hy hne
 have hyz:Cir mt b y (mt y):= .mate (.refl y)
 have hpq:Cir mt b (b y) (b (mt y)):=by
  have h1:Cir mt b (b y) (b (b y)):= .join (.refl _)
  rw [hi.jj y hy] at h1
  exact .join (.mate h1)
 induction h with
 |refl=>exact .refl _
 |mate _ ih=>exact .mate ih
 | @join w hw ih=>
   have hwr:=hw.rng hi2 hu
   refine ih.trans ?_
   unfold ctr
   split
   ·rename_i e;rw [e];exact hyz
   ·split
    ·rename_i e;rw [e];exact hyz.symm hi hy
    ·split
     ·rename_i e;rw [e];exact hpq
     ·split
      ·rename_i e;rw [e];exact hpq.symm hi p1
      ·exact .join (.refl _)
theorem y2n {v:Int} (h:Cir mt (ctr mt b y) y v):v=y\/v=mt y:=by
 obtain ⟨z1,p1,q1,n1,n2,n3,n4,n5,n6⟩:=yez hi hy hne
 induction h with
 |refl=>exact .inl rfl
 |mate _ ih=>
  rcases ih with e|e
  ·exact .inr (by rw [e])
  ·exact .inl (by rw [e,hi.mm y hy])
 |join _ ih=>
  rcases ih with e|e
  ·rw [e];unfold ctr;rw [if_pos rfl];exact .inr rfl
  ·rw [e];unfold ctr;rw [if_neg n1,if_pos rfl];exact .inl rfl
theorem y2o:ncl n mt (ctr mt b y)=ncl n mt b+1:=by
 obtain ⟨z1,p1,q1,n1,n2,n3,n4,n5,n6⟩:=yez hi hy hne
 have hi2:=ymv hi hy hne
 have hR:=yhv hi2
 have hB:=yhv hi
 unfold ncl
 generalize crN mt (ctr mt b y) (4*n) (4*n)=R at*
 have nat: ∀x,InR n x->x.toNat<4*n/\(x.toNat:Int)=x:=fun x hx=>by unfold InR at hx;omega
 obtain ⟨yl,ye⟩:=nat y hy
 obtain ⟨pl,pe⟩:=nat _ p1
 obtain ⟨zl,ze⟩:=nat _ z1
 obtain ⟨ql,qe⟩:=nat _ q1
 have hyp:Cir mt b y (b y):= .join (.refl y)
 have hnr:R.getD y.toNat 0≠R.getD (b y).toNat 0:=fun e=>by
  have:=(hR.iff _ _ yl pl).1 e
  rw [ye,pe] at this
  rcases y2n hi hy hne this with e1|e1
  ·exact n2 e1
  ·exact n6 e1
 have hst: ∀u v:Nat,u<4*n->v<4*n->Cir mt (ctr mt b y) u v->R.getD u 0=R.getD v 0:=fun u v hu hv h=>(hR.iff u v hu hv).2 h
 have hJ:CirR n mt b (yar R y.toNat (b y).toNat):=by
  refine CirR.of hi (yey hR.rep yl pl) ?_ (fun x hx=>?_) (fun x hx=>?_)
  ·refine ygi hi hR.rep (fun u v hu hv e=>y2m hi hy hne ((hR.iff u v hu hv).1 e) (by unfold InR;omega)) yl pl ?_
   rw [ye,pe];exact hyp
  ·have hxr:InR n (x:Int):=by unfold InR;omega
   obtain ⟨ml,me⟩:=nat _ (hi.mr _ hxr)
   refine ya6 hR.rep.len ml hx (hst _ _ ml hx ?_)
   rw [me]
   have h1:Cir mt (ctr mt b y) (mt x) (mt (mt x)):= .mate (.refl _)
   rwa [hi.mm _ hxr] at h1
  ·have hxr:InR n (x:Int):=by unfold InR;omega
   obtain ⟨bl,be⟩:=nat _ (hi.jr _ hxr)
   have step: ∀w:Int,InR n w-> ∀wl:w.toNat<4*n,R.getD (ctr mt b y w).toNat 0=R.getD w.toNat 0:=fun w hw wl=>by
    obtain ⟨cl,ce⟩:=nat _ (hi2.jr w hw)
    obtain ⟨_,we⟩:=nat w hw
    refine hst _ _ cl wl ?_
    rw [ce,we]
    have h1:Cir mt (ctr mt b y) (ctr mt b y w) (ctr mt b y (ctr mt b y w)):= .join (.refl _)
    rwa [hi2.jj w hw] at h1
   have hyz:R.getD (mt y).toNat 0=R.getD y.toNat 0:=by
    have:=step y hy yl
    unfold ctr at this;rwa [if_pos rfl] at this
   have hpq:R.getD (b (mt y)).toNat 0=R.getD (b y).toNat 0:=by
    have:=step (b y) p1 pl
    unfold ctr at this;rwa [if_neg n2,if_neg n6,if_pos rfl] at this
   have hj:=ydy hR.rep.len yl pl
   by_cases e1:(x:Int)=y
   ·have ex:x=y.toNat:=by omega
    rw [e1,ex];exact hj.symm
   ·by_cases e2:(x:Int)=mt y
    ·have ex:x=(mt y).toNat:=by omega
     rw [e2,ex]
     exact (ya6 hR.rep.len ql pl hpq).trans (hj.symm.trans (ya6 hR.rep.len yl zl hyz.symm))
    ·by_cases e3:(x:Int)=b y
     ·have ex:x=(b y).toNat:=by omega
      rw [e3,hi.jj y hy,ex];exact hj
     ·by_cases e4:(x:Int)=b (mt y)
      ·have ex:x=(b (mt y)).toNat:=by omega
       rw [e4,hi.jj _ z1,ex]
       exact ((ya6 hR.rep.len zl yl hyz).trans hj).trans (ya6 hR.rep.len pl ql hpq.symm)
      ·have h1:=step x hxr (by omega)
       have h2:ctr mt b y x=b x:=by unfold ctr;rw [if_neg e1,if_neg e2,if_neg e3,if_neg e4]
       rw [h2] at h1
       have:=ya6 (g:=y.toNat) (h:=(b y).toNat) hR.rep.len bl (show (x:Int).toNat<4*n by omega) h1
       simpa using this
 rw [ykc hR.rep yl pl hnr,yhu hJ hB]
end
end Go.Proofs.YtmdjdekgakidhaaDoor
set_option linter.unusedSimpArgs false
set_option linter.unusedVariables false
namespace Go.Proofs.YtmdjdekgakidhaaDoor
structure Nod (W:Nat) (arc:Nat->Nat) (glue:Nat->Int):Prop where
 ar: ∀x,x<W->arc x<W
 aa: ∀x,x<W->arc (arc x)=x
 af: ∀x,x<W->arc x≠x
 gr: ∀x,x<W->0<=glue x->glue x<W
 gg: ∀x,x<W->0<=glue x->glue (glue x).toNat=x
 gf: ∀x,x<W->glue x≠x
def pthN (arc:Nat->Nat) (glue:Nat->Int):Nat->List Bool->Nat->List Bool×Nat
 |0,sn,y=>(sn,y)
 |f+1,sn,y=>if 0<=glue y then pthN arc glue f ((sn.set y true).set (glue y).toNat true) (arc (glue y).toNat) else (sn,y)
def cycN (arc:Nat->Nat) (glue:Nat->Int):Nat->List Bool->Nat->List Bool
 |0,sn,_=>sn
 |f+1,sn,z=>if sn.getD z false then sn else cycN arc glue f ((sn.set z true).set (glue z).toNat true) (arc (glue z).toNat)
def endN (W:Nat) (arc:Nat->Nat) (glue:Nat->Int):Nat->List Bool
 |0=>List.replicate W false
 |k+1=>if 0<=glue k then endN W arc glue k else (pthN arc glue (W+1) (endN W arc glue k) (arc k)).1
def cirN (W:Nat) (arc:Nat->Nat) (glue:Nat->Int) (sn0:List Bool):Nat->List Bool×Nat
 |0=>(sn0,0)
 |k+1=>let r:=cirN W arc glue sn0 k
  if glue k<0\/r.1.getD k false=true then r else (cycN arc glue (W+1) r.1 k,r.2+1)
end Go.Proofs.YtmdjdekgakidhaaDoor
set_option linter.unusedSimpArgs false
set_option linter.unusedVariables false
namespace Go.Proofs.YtmdjdekgakidhaaDoor
inductive Pth (arc:Nat->Nat) (glue:Nat->Int):Nat->List Nat->Nat->Prop
 |nil {u:Nat} (h:glue (arc u)<0):Pth arc glue u [] (arc u)
 |cons {u e:Nat} {ys:List Nat} (h:0<=glue (arc u)) (k:Pth arc glue (glue (arc u)).toNat ys e):Pth arc glue u (arc u::ys) e
def setP (glue:Nat->Int) (sn:List Bool) (y:Nat):List Bool:=(sn.set y true).set (glue y).toNat true
theorem yd9 {arc:Nat->Nat} {glue:Nat->Int} {u e:Nat} {ys:List Nat} (h:Pth arc glue u ys e): ∀(f:Nat) (sn:List Bool),ys.length<f->pthN arc glue f sn (arc u)=(ys.foldl (setP glue) sn,e):=by
 induction h with
 |nil h=>
  intro f sn hf
  obtain ⟨f,rfl⟩: ∃f',f=f'+1:=⟨f-1,by omega⟩
  simp only [pthN,List.foldl_nil]
  rw [if_neg (by omega)]
 |cons h k ih=>
  intro f sn hf
  simp only [List.length_cons] at hf
  obtain ⟨f,rfl⟩: ∃f',f=f'+1:=⟨f-1,by omega⟩
  simp only [pthN,List.foldl_cons]
  rw [if_pos h]
  exact ih f _ (by omega)
theorem ypm {sn:List Bool} {y:Nat} (h:sn.getD y false=true):sn.set y true=sn:=by
 apply List.ext_getElem?
 intro i
 rw [List.getElem?_set]
 by_cases e:y=i
 ·subst e
  rw [if_pos rfl]
  rw [List.getD_eq_getElem?_getD] at h
  cases hq:sn[y]? with
  |none=>rw [hq] at h;simp at h
  |some v=>rw [hq] at h;simp at h;subst h;rw [if_pos (List.getElem?_eq_some_iff.1 hq).1]
 ·rw [if_neg e]
theorem ynt {glue:Nat->Int}: ∀(ys:List Nat) (sn:List Bool),(∀y∈ys,sn.getD y false=true/\sn.getD (glue y).toNat false=true)->ys.foldl (setP glue) sn=sn
 |[],_,_=>rfl
 |y::ys,sn,h=>by
  obtain ⟨h1,h2⟩:=h y (List.mem_cons_self ..)
  rw [List.foldl_cons,show setP glue sn y=sn by unfold setP;rw [ypm h1,ypm h2]]
  exact ynt ys sn fun z hz=>h z (List.mem_cons_of_mem _ hz)
theorem yio (l:List Bool) (i j:Nat) (hi:i<l.length):(l.set i true).getD j false=if i=j then true else l.getD j false:=by
 by_cases e:i=j
 ·subst e;rw [if_pos rfl];simp [List.getD_eq_getElem?_getD,hi]
 ·rw [if_neg e];simp [List.getD_eq_getElem?_getD,List.getElem?_set,e]
theorem ykq {glue:Nat->Int} {sn:List Bool} {y:Nat} (hy:y<sn.length) (hz:(glue y).toNat<sn.length) (j:Nat):(setP glue sn y).getD j false=if j=y\/j=(glue y).toNat then true else sn.getD j false:=by
 unfold setP
 rw [yio _ _ _ (by simpa using hz),yio _ _ _ hy]
 by_cases e1:(glue y).toNat=j
 ·rw [if_pos e1,if_pos (.inr e1.symm)]
 ·rw [if_neg e1]
  by_cases e2:y=j
  ·rw [if_pos e2,if_pos (.inl e2.symm)]
  ·rw [if_neg e2,if_neg (by rintro (g|g)<;>omega)]
theorem yhw (glue:Nat->Int) (sn:List Bool) (y:Nat):(setP glue sn y).length=sn.length:=by simp [setP]
theorem yhx: ∀(l:List Bool) (i:Nat),l.getD i false=false->i<l.length->(l.set i true).count true=l.count true+1
 |[],i,_,h=>by simp at h
 |x::l,0,h,_=>by
  simp only [List.getD_cons_zero] at h
  subst h;simp
 |x::l,i+1,h,hl=>by
  have ih:=yhx l i (by simpa using h) (by simpa using hl)
  simp only [List.set_cons_succ,List.count_cons,ih];omega
theorem yhy {glue:Nat->Int} {sn:List Bool} {y:Nat} (hy:y<sn.length) (hz:(glue y).toNat<sn.length) (hne:(glue y).toNat≠y) (h1:sn.getD y false=false) (h2:sn.getD (glue y).toNat false=false):(setP glue sn y).count true=sn.count true+2:=by
 unfold setP
 rw [yhx _ _ (by rw [yio _ _ _ hy,if_neg (fun e=>hne e.symm)];exact h2) (by simpa using hz),yhx _ _ h1 hy]
structure Emb (n W:Nat) (mt b0:Int->Int) (arc:Nat->Nat) (glue:Nat->Int) (hv:Nat->Int):Prop where
 nod:Nod W arc glue
 inv:Inv2 n mt b0
 inj: ∀x y,x<W->y<W->hv x=hv y->x=y
 rng: ∀x,x<W->InR n (hv x)
 mtg: ∀x,x<W->0<=glue x->mt (hv x)=hv (glue x).toNat
 ba: ∀x,x<W->b0 (hv x)=hv (arc x)
structure Pst (n W:Nat) (mt b0:Int->Int) (arc:Nat->Nat) (glue:Nat->Int) (hv:Nat->Int) (b:Int->Int) (sn:List Bool) (c:Nat) (ex dn:Nat->Prop):Prop where
 inv:Inv2 n mt b
 off: ∀h,InR n h->(∀x,x<W->h≠hv x)->b h=b0 h
 sl:sn.length=W
 seen: ∀x,x<W->sn.getD x false=true->0<=glue x/\sn.getD (glue x).toNat false=true/\b (hv x)=hv (glue x).toNat
 org: ∀x,x<W->sn.getD x false=false-> ¬ex x-> ¬dn x->b (hv x)=hv (arc x)
 dne: ∀u,dn u->u<W/\glue u<0/\ ∃ys e,Pth arc glue u ys e/\ys.length<=W/\dn e/\b (hv u)=hv e/\ ∀y∈ys,sn.getD y false=true/\sn.getD (glue y).toNat false=true
 cnt:2*ncl n mt b+2*c=2*ncl n mt b0+sn.count true
section
variable {n W:Nat} {mt b0:Int->Int} {arc:Nat->Nat} {glue:Nat->Int} {hv:Nat->Int} (E:Emb n W mt b0 arc glue hv)
include E
theorem Emb.gW {x:Nat} (hx:x<W) (hg:0<=glue x):(glue x).toNat<W/\((glue x).toNat:Int)=glue x/\glue (glue x).toNat=x/\(glue x).toNat≠x:=by
 have h1:=E.nod.gr x hx hg
 have h2:=E.nod.gf x hx
 exact ⟨by omega,by omega,E.nod.gg x hx hg,by omega⟩
theorem Pst.step {b:Int->Int} {sn:List Bool} {c x y:Nat} {dn:Nat->Prop} (h:Pst n W mt b0 arc glue hv b sn c (fun u=>u=x\/u=y) dn) (hx:x<W) (hy:y<W) (hxy:b (hv y)=hv x) (hg:0<=glue y) (hys:sn.getD y false=false) (hxz:x≠(glue y).toNat) (hxs:sn.getD x false=false) (hdx: ¬dn x):
  Pst n W mt b0 arc glue hv (ctr mt b (hv y)) (setP glue sn y) c (fun u=>u=x\/u=arc (glue y).toNat) dn/\ctr mt b (hv y) (hv x)=hv (arc (glue y).toNat)/\arc (glue y).toNat≠x/\ctr mt b (hv y) (hv (arc (glue y).toNat))=hv x:=by
 obtain ⟨zW,ze,zg,zy⟩:=E.gW hy hg
 have hmy:=E.mtg y hy hg
 have hxy':b (hv x)=hv y:=by have:=congrArg b hxy;rw [h.inv.jj _ (E.rng y hy)] at this;exact this.symm
 have hxney:x≠y:=fun e=>h.inv.jf _ (E.rng y hy) (by rw [hxy,e])
 have hzs:sn.getD (glue y).toNat false=false:=by
  cases hz:sn.getD (glue y).toNat false with
  |false=>rfl
  |true=>
   have:=(h.seen _ zW hz).2.1
   rw [zg] at this
   simp only [Int.toNat_natCast] at this
   rw [this] at hys;cases hys
 have hzd: ¬dn (glue y).toNat:=fun hd=>by have:=(h.dne _ hd).2.1;rw [zg] at this;omega
 have hbz:b (hv (glue y).toNat)=hv (arc (glue y).toNat):=h.org _ zW hzs (by rintro (e|e)<;>omega) hzd
 have aW:=E.nod.ar _ zW
 have hne:b (hv y)≠mt (hv y):=by rw [hxy,hmy];intro e;exact hxz (E.inj _ _ hx zW e)
 obtain ⟨f1,f2,f3,f4,f5,f6,f7,f8,f9⟩:=yez h.inv (E.rng y hy) hne
 rw [hmy,hbz,hxy] at f8
 rw [hmy,hbz] at f7
 have hax:arc (glue y).toNat≠x:=fun e=>f8 (by rw [e])
 have hay:arc (glue y).toNat≠y:=fun e=>f7 (by rw [e])
 have haz:arc (glue y).toNat≠(glue y).toNat:=E.nod.af _ zW
 have inj:=fun u v hu hv'=>fun e=>E.inj u v hu hv' e
 have val: ∀u,u<W->ctr mt b (hv y) (hv u)=if u=y then hv (glue y).toNat else if u=(glue y).toNat then hv y else if u=x then hv (arc (glue y).toNat) else if u=arc (glue y).toNat then hv x else b (hv u):=fun u hu=>by
  unfold ctr
  rw [hmy,hxy,hbz]
  by_cases e1:u=y
  ·rw [if_pos e1,if_pos (by rw [e1])]
  ·rw [if_neg e1,if_neg (fun e=>e1 (E.inj _ _ hu hy e))]
   by_cases e2:u=(glue y).toNat
   ·rw [if_pos e2,if_pos (by rw [←e2])]
   ·rw [if_neg e2,if_neg (fun e=>e2 (E.inj _ _ hu zW e))]
    by_cases e3:u=x
    ·rw [if_pos e3,if_pos (by rw [e3])]
    ·rw [if_neg e3,if_neg (fun e=>e3 (E.inj _ _ hu hx e))]
     by_cases e4:u=arc (glue y).toNat
     ·rw [if_pos e4,if_pos (by rw [←e4])]
     ·rw [if_neg e4,if_neg (fun e=>e4 (E.inj _ _ hu aW e))]
 have yl:y<sn.length:=by rw [h.sl];exact hy
 have zl:(glue y).toNat<sn.length:=by rw [h.sl];exact zW
 have sg:=fun j=>ykq (glue:=glue) yl zl j
 have has:sn.getD (arc (glue y).toNat) false=false:=by
  cases hq:sn.getD (arc (glue y).toNat) false with
  |false=>rfl
  |true=>
   obtain ⟨g1,_,g3⟩:=h.seen _ aW hq
   have h1:b (hv (arc (glue y).toNat))=hv (glue y).toNat:=by rw [←hbz,h.inv.jj _ (E.rng _ zW)]
   rw [g3] at h1
   have h2:=E.inj _ _ (E.gW aW g1).1 zW h1
   have h3:=E.nod.gg _ aW g1
   rw [h2,zg] at h3
   exact absurd (show y=arc (glue y).toNat by omega).symm hay
 refine ⟨⟨ymv h.inv (E.rng y hy) hne,fun q hq hn=>?_,by rw [yhw];exact h.sl,fun u hu hs=>?_,fun u hu hs hex hd=>?_,fun u hd=>?_,?_⟩,?_,hax,?_⟩
 ·have:ctr mt b (hv y) q=b q:=by
   unfold ctr
   rw [hmy,hxy,hbz,if_neg (hn y hy),if_neg (hn _ zW),if_neg (hn x hx),if_neg (hn _ aW)]
  rw [this];exact h.off q hq hn
 ·rw [sg] at hs
  rw [val u hu]
  by_cases e1:u=y
  ·rw [if_pos e1,e1];exact ⟨hg,by rw [sg,if_pos (.inr rfl)],rfl⟩
  ·by_cases e2:u=(glue y).toNat
   ·rw [if_neg e1,if_pos e2,e2,zg];exact ⟨by omega,by rw [sg,if_pos (.inl (by omega))],by simp⟩
   ·rw [if_neg (by rintro (g|g)<;>omega)] at hs
    obtain ⟨g1,g2,g3⟩:=h.seen u hu hs
    refine ⟨g1,by rw [sg];split<;>first|rfl|exact g2,?_⟩
    rw [if_neg e1,if_neg e2,if_neg (fun e=>by rw [e,hxs] at hs;cases hs),if_neg (fun e=>by rw [e,has] at hs;cases hs)]
    exact g3
 ·rw [sg] at hs
  by_cases e1:u=y\/u=(glue y).toNat
  ·rw [if_pos e1] at hs;cases hs
  ·rw [if_neg e1] at hs
   rw [val u hu,if_neg (fun e=>e1 (.inl e)),if_neg (fun e=>e1 (.inr e)),if_neg (fun e=>hex (.inl e)),if_neg (fun e=>hex (.inr e))]
   exact h.org u hu hs (by rintro (e|e);exact hex (.inl e);exact e1 (.inl e)) hd
 ·obtain ⟨g1,g2,ys,e,g3,g4,g5,g6,g7⟩:=h.dne u hd
  refine ⟨g1,g2,ys,e,g3,g4,g5,?_,fun w hw=>?_⟩
  ·have k1:u≠y:=fun e=>by rw [e] at g2;omega
   have k2:u≠(glue y).toNat:=fun e=>by rw [e,zg] at g2;omega
   have k3:u≠x:=fun e=>hdx (e▸hd)
   have k4:u≠arc (glue y).toNat:=fun e2=>by
    have h1:b (hv (arc (glue y).toNat))=hv (glue y).toNat:=by rw [←hbz,h.inv.jj _ (E.rng _ zW)]
    rw [←e2,g6] at h1
    have:=E.inj _ _ (h.dne e g5).1 zW h1
    exact hzd (this▸g5)
   rw [val u g1,if_neg k1,if_neg k2,if_neg k3,if_neg k4];exact g6
  ·obtain ⟨q1,q2⟩:=g7 w hw
   exact ⟨by rw [sg];split<;>first|rfl|exact q1,by rw [sg];split<;>first|rfl|exact q2⟩
 ·have h1:=y2o h.inv (E.rng y hy) hne
  have h2:=yhy yl zl zy hys hzs
  have:=h.cnt
  omega
 ·rw [val x hx,if_neg hxney,if_neg hxz,if_pos rfl]
 ·rw [val _ aW,if_neg hay,if_neg haz,if_neg hax,if_pos rfl]
end
end Go.Proofs.YtmdjdekgakidhaaDoor
set_option linter.unusedSimpArgs false
set_option linter.unusedVariables false
namespace Go.Proofs.YtmdjdekgakidhaaDoor
inductive Cyc (arc:Nat->Nat) (glue:Nat->Int):List Bool->Nat->List Nat->Prop
 |stop {sn:List Bool} {z:Nat} (h:sn.getD z false=true):Cyc arc glue sn z []
 |step {sn:List Bool} {z:Nat} {zs:List Nat} (h:sn.getD z false=false) (hg:0<=glue z) (k:Cyc arc glue (setP glue sn z) (arc (glue z).toNat) zs):Cyc arc glue sn z (z::zs)
theorem ypn {arc:Nat->Nat} {glue:Nat->Int} {sn:List Bool} {z:Nat} {zs:List Nat} (h:Cyc arc glue sn z zs): ∀f:Nat,zs.length<f->cycN arc glue f sn z=zs.foldl (setP glue) sn:=by
 induction h with
 |stop h=>
  intro f hf
  obtain ⟨f,rfl⟩: ∃f',f=f'+1:=⟨f-1,by omega⟩
  simp only [cycN,List.foldl_nil,h,if_true]
 |step h hg k ih=>
  intro f hf
  simp only [List.length_cons] at hf
  obtain ⟨f,rfl⟩: ∃f',f=f'+1:=⟨f-1,by omega⟩
  simp only [cycN,List.foldl_cons,h,Bool.false_eq_true,if_false]
  exact ih f (by omega)
def txN (arc:Nat->Nat) (glue index:Nat->Int) (W E:Nat):Nat->List Int
 |0=>List.replicate E 0
 |k+1=>if index k<0 then txN arc glue index W E k else (txN arc glue index W E k).set (index k).toNat (97+index (pthN arc glue (W+1) [] (arc k)).2)
theorem yea (arc:Nat->Nat) (glue index:Nat->Int) (W E:Nat): ∀k,(txN arc glue index W E k).length=E
 |0=>by simp [txN]
 |k+1=>by
  simp only [txN]
  split
  ·exact yea arc glue index W E k
  ·rw [List.length_set];exact yea arc glue index W E k
theorem ypo (arc:Nat->Nat) (glue:Nat->Int): ∀(f:Nat) (sn:List Bool) (y:Nat),(pthN arc glue f sn y).1.length=sn.length
 |0,_,_=>rfl
 |f+1,sn,y=>by
  simp only [pthN]
  split
  ·rw [ypo arc glue f];simp
  ·rfl
theorem yhz (W:Nat) (arc:Nat->Nat) (glue:Nat->Int): ∀k,(endN W arc glue k).length=W
 |0=>by simp [endN]
 |k+1=>by
  simp only [endN]
  split
  ·exact yhz W arc glue k
  ·rw [ypo];exact yhz W arc glue k
theorem ypp (arc:Nat->Nat) (glue:Nat->Int): ∀(f:Nat) (sn:List Bool) (z:Nat),(cycN arc glue f sn z).length=sn.length
 |0,_,_=>rfl
 |f+1,sn,z=>by
  simp only [cycN]
  split
  ·rfl
  ·rw [ypp arc glue f];simp
theorem yh0 (W:Nat) (arc:Nat->Nat) (glue:Nat->Int) (sn0:List Bool): ∀k,(cirN W arc glue sn0 k).1.length=sn0.length
 |0=>rfl
 |k+1=>by
  simp only [cirN]
  split
  ·exact yh0 W arc glue sn0 k
  ·rw [ypp];exact yh0 W arc glue sn0 k
theorem ymw (W:Nat) (arc:Nat->Nat) (glue:Nat->Int) (sn0:List Bool): ∀k,(cirN W arc glue sn0 k).2<=k
 |0=>Nat.le_refl _
 |k+1=>by
  have:=ymw W arc glue sn0 k
  simp only [cirN]
  split<;>omega
end Go.Proofs.YtmdjdekgakidhaaDoor
