/- Plain: the representatives of merge are those of the circles. -/
import Derived.Test.YtngegnonblbdhaaDoorZf
set_option linter.unusedSimpArgs false
set_option linter.unusedVariables false
namespace Go.Proofs.YtngegnonblbdhaaDoor
theorem y23 (k:Nat):jnB true ((4*k:Nat):Int)=((4*k+3:Nat):Int)/\jnB true ((4*k+1:Nat):Int)=((4*k+2:Nat):Int)/\jnB true ((4*k+2:Nat):Int)=((4*k+1:Nat):Int)/\jnB true ((4*k+3:Nat):Int)=((4*k:Nat):Int)/\
  jnB false ((4*k:Nat):Int)=((4*k+1:Nat):Int)/\jnB false ((4*k+1:Nat):Int)=((4*k:Nat):Int)/\jnB false ((4*k+2:Nat):Int)=((4*k+3:Nat):Int)/\jnB false ((4*k+3:Nat):Int)=((4*k+2:Nat):Int):=by
 have o: ∀x:Int,x % 2=1->jnB true x=x-x % 4+(x % 4+5)% 4/\jnB false x=x-x % 4+(x % 4+3)% 4:=fun x h=>by
  unfold jnB;rw [yd1,ycn,decide_eq_true h];exact ⟨if_pos rfl,if_neg (by simp)⟩
 have e: ∀x:Int,¬x % 2=1->jnB true x=x-x % 4+(x % 4+3)% 4/\jnB false x=x-x % 4+(x % 4+5)% 4:=fun x h=>by
  unfold jnB;rw [yd1,ycn,decide_eq_false h];exact ⟨if_neg (by simp),if_pos rfl⟩
 rw [(e _ (by omega)).1,(o _ (by omega)).1,(e _ (by omega)).1,(o _ (by omega)).1,(e _ (by omega)).2,(o _ (by omega)).2,(e _ (by omega)).2,(o _ (by omega)).2]
 omega
theorem yia {m:List Int} {n:Nat} (hp:ybt m n) (hmm: ∀x:Nat,x<4*n->m.getD (m.getD x 0).toNat 0=x) (hmf: ∀x:Nat,x<4*n->m.getD x 0≠x) (ch:Nat->Bool):Inv2 n (fun x=>m.getD x.toNat 0) (fun x=>jnB (ch (x/4).toNat) x):=by
 have hml:=hp.1
 refine ⟨fun x hx=>?_,fun x hx=>?_,fun x hx=>?_,fun x hx=>?_,fun x hx=>?_,fun x _=>ynq _ x⟩
 ·unfold InR at*
  have:=hp.2 x.toNat (by omega)
  omega
 ·unfold InR at*
  have h1:=yf9 (ch (x/4).toNat) x
  omega
 ·unfold InR at hx
  have:=hmm x.toNat (by omega)
  show m.getD (m.getD x.toNat 0).toNat 0=x
  rw [this];omega
 ·show jnB (ch (jnB (ch (x/4).toNat) x/4).toNat) (jnB (ch (x/4).toNat) x)=x
  rw [yf9,yk3]
 ·unfold InR at hx
  have:=hmf x.toNat (by omega)
  show m.getD x.toNat 0≠x
  omega
section
variable {n:Nat} {mt jn:Int->Int} {R:List Int}
theorem yhr (hi:Inv2 n mt jn) (hR:RepR R (4*n)) (h1: ∀x y:Nat,x<4*n->y<4*n->R.getD x 0=R.getD y 0->Cir mt jn x y) {g h:Nat} (hg:g<4*n) (hh:h<4*n) (hgh:Cir mt jn g h):
  ∀x y:Nat,x<4*n->y<4*n->(yaj R g h).getD x 0=(yaj R g h).getD y 0->Cir mt jn x y:=by
 intro x y hx hy e
 have ir: ∀z:Nat,z<4*n->InR n (z:Int):=fun z hz=>by unfold InR;omega
 rw [yax hR.len hx,yax hR.len hy] at e
 by_cases c1:R.getD x 0=R.getD g 0
 ·rw [if_pos c1] at e
  by_cases c2:R.getD y 0=R.getD g 0
  ·exact h1 x y hx hy (c1.trans c2.symm)
  ·rw [if_neg c2] at e
   exact ((h1 x g hx hg c1).trans hgh).trans (h1 h y hh hy e)
 ·rw [if_neg c1] at e
  by_cases c2:R.getD y 0=R.getD g 0
  ·rw [if_pos c2] at e
   exact ((h1 x h hx hh e).trans (hgh.symm hi (ir g hg))).trans (h1 g y hg hy c2.symm)
  ·rw [if_neg c2] at e
   exact h1 x y hx hy e
end
section
variable {m:List Int} {n:Nat} {ch:Nat->Bool}
theorem ynv (hp:ybt m n) (hi:Inv2 n (fun x=>m.getD x.toNat 0) (fun x=>jnB (ch (x/4).toNat) x)): ∀k,k<=4*n->RepR (mgA m k) (4*n)/\
  (∀x y:Nat,x<4*n->y<4*n->(mgA m k).getD x 0=(mgA m k).getD y 0->Cir (fun x=>m.getD x.toNat 0) (fun x=>jnB (ch (x/4).toNat) x) x y)/\
  (∀x:Nat,x<k->(x:Int)<m.getD x 0->(mgA m k).getD (m.getD x 0).toNat 0=(mgA m k).getD x 0)
 |0,_=>by
  have hml:=hp.1
  have hu:=(UF.init (4*n)).rep
  refine ⟨by simp only [mgA,hml];exact hu,fun x y hx hy e=>?_,fun x hx=>by omega⟩
  have:(x:Int)=y:=by simpa [mgA,hml,hx,hy] using e
  have:x=y:=by omega
  subst this;exact .refl _
 |k+1,hk=>by
  obtain ⟨i1,i2,i3⟩:=ynv hp hi k (by omega)
  have hml:=hp.1
  have hmr:=hp.2 k (by omega)
  by_cases hlt:(k:Int)<m.getD k 0
  ·have e:mgA m (k+1)=yaj (mgA m k) k (m.getD k 0).toNat:=by simp only [mgA,if_pos hlt]
   rw [e]
   have hy:(m.getD k 0).toNat<4*n:=by omega
   have hc:Cir (fun x=>m.getD x.toNat 0) (fun x=>jnB (ch (x/4).toNat) x) (k:Int) ((m.getD k 0).toNat:Int):=by
    have:=Cir.mate (mt:=fun x=>m.getD x.toNat 0) (jn:=fun x=>jnB (ch (x/4).toNat) x) (Cir.refl (k:Int))
    simp only [Int.toNat_natCast] at this
    rw [show ((m.getD k 0).toNat:Int)=m.getD k 0 by omega]
    exact this
   refine ⟨yeq i1 (by omega) hy,yhr hi i1 i2 (by omega) hy hc,fun x hx hlx=>?_⟩
   by_cases ex:x=k
   ·subst ex;exact (ye1 i1.len (by omega) hy).symm
   ·have hmx:=hp.2 x (by omega)
    exact ycg i1.len (by omega) (by omega) (i3 x (by omega) hlx)
  ·have e:mgA m (k+1)=mgA m k:=by simp only [mgA,if_neg hlt]
   rw [e]
   refine ⟨i1,i2,fun x hx hlx=>?_⟩
   by_cases ex:x=k
   ·subst ex;exact absurd hlx hlt
   ·exact i3 x (by omega) hlx
theorem ynw (hp:ybt m n) (hmm: ∀x:Nat,x<4*n->m.getD (m.getD x 0).toNat 0=x) (hmf: ∀x:Nat,x<4*n->m.getD x 0≠x): ∀k,k<=n->RepR (mgB m ch k) (4*n)/\
  (∀x y:Nat,x<4*n->y<4*n->(mgB m ch k).getD x 0=(mgB m ch k).getD y 0->Cir (fun x=>m.getD x.toNat 0) (fun x=>jnB (ch (x/4).toNat) x) x y)/\
  (∀x:Nat,x<4*n->(mgB m ch k).getD (m.getD x 0).toNat 0=(mgB m ch k).getD x 0)/\
  (∀x:Nat,x<4*k->(mgB m ch k).getD (jnB (ch (x/4)) x).toNat 0=(mgB m ch k).getD x 0)
 |0,_=>by
  have hi:=yia hp hmm hmf ch
  have hml:=hp.1
  obtain ⟨i1,i2,i3⟩:=ynv (ch:=ch) hp hi (4*n) (Nat.le_refl _)
  simp only [mgB,hml]
  refine ⟨i1,i2,fun x hx=>?_,fun x hx=>by omega⟩
  have hmr:=hp.2 x (by omega)
  have hne:=hmf x hx
  by_cases hlt:(x:Int)<m.getD x 0
  ·exact i3 x hx hlt
  ·have h2:=hmm x hx
   have:=i3 (m.getD x 0).toNat (by omega) (by rw [h2];omega)
   rw [h2,Int.toNat_natCast] at this
   exact this.symm
 |k+1,hk=>by
  have hi:=yia hp hmm hmf ch
  have hml:=hp.1
  obtain ⟨i1,i2,i3,i4⟩:=ynw hp hmm hmf k (by omega)
  have hjc: ∀x:Nat,Cir (fun x=>m.getD x.toNat 0) (fun x=>jnB (ch (x/4).toNat) x) (x:Int) (jnB (ch (x/4)) x):=fun x=>by
   have:=Cir.join (mt:=fun x=>m.getD x.toNat 0) (jn:=fun x=>jnB (ch (x/4).toNat) x) (Cir.refl (x:Int))
   rw [show ((x:Int)/4).toNat=x/4 by omega] at this
   exact this
  have gen: ∀a b c d:Nat,a<4*n->b<4*n->c<4*n->d<4*n->jnB (ch (a/4)) a=b->jnB (ch (c/4)) c=d->(∀x:Nat,x/4=k->(x=a\/x=b\/x=c\/x=d))->jnB (ch (b/4)) b=a->jnB (ch (d/4)) d=c->
   mgB m ch (k+1)=yaj (yaj (mgB m ch k) a b) c d->RepR (mgB m ch (k+1)) (4*n)/\
   (∀x y:Nat,x<4*n->y<4*n->(mgB m ch (k+1)).getD x 0=(mgB m ch (k+1)).getD y 0->Cir (fun x=>m.getD x.toNat 0) (fun x=>jnB (ch (x/4).toNat) x) x y)/\
   (∀x:Nat,x<4*n->(mgB m ch (k+1)).getD (m.getD x 0).toNat 0=(mgB m ch (k+1)).getD x 0)/\
   (∀x:Nat,x<4*(k+1)->(mgB m ch (k+1)).getD (jnB (ch (x/4)) x).toNat 0=(mgB m ch (k+1)).getD x 0):=by
   intro a b c d ha hb hc hd e1 e2 hx4 e3 e4 eM
   rw [eM]
   have r1:=yeq i1 ha hb
   have c1:=yhr hi i1 i2 ha hb (by rw [←e1];exact hjc a)
   refine ⟨yeq r1 hc hd,yhr hi r1 c1 hc hd (by rw [←e2];exact hjc c),fun x hx=>?_,fun x hx=>?_⟩
   ·have hmr:=hp.2 x (by omega)
    exact ycg r1.len (by omega) hx (ycg i1.len (by omega) hx (i3 x hx))
   ·by_cases hxk:x/4=k
    ·have p1:=ycg r1.len (g:=c) (h:=d) ha hb (ye1 i1.len ha hb)
     have p2:=ye1 (N:=4*n) (R:=yaj (mgB m ch k) a b) r1.len hc hd
     rcases hx4 x hxk with rfl|rfl|rfl|rfl
     ·rw [e1,Int.toNat_natCast];exact p1.symm
     ·rw [e3,Int.toNat_natCast];exact p1
     ·rw [e2,Int.toNat_natCast];exact p2.symm
     ·rw [e4,Int.toNat_natCast];exact p2
    ·have hj:=yf9 (ch (x/4)) x
     exact ycg r1.len (by omega) (by omega) (ycg i1.len (by omega) (by omega) (i4 x (by omega)))
  have d0:(4*k)/4=k:=by omega
  have d1:(4*k+1)/4=k:=by omega
  have d2:(4*k+2)/4=k:=by omega
  have d3:(4*k+3)/4=k:=by omega
  obtain ⟨t0,t1,t2,t3,f0,f1,f2,f3⟩:=y23 k
  cases hch:ch k with
  |true=>
   exact gen (4*k+1) (4*k+2) (4*k+3) (4*k) (by omega) (by omega) (by omega) (by omega) (by rw [d1,hch];exact t1) (by rw [d3,hch];exact t3) (fun x hx=>by omega) (by rw [d2,hch];exact t2) (by rw [d0,hch];exact t0) (by simp only [mgB,hch,if_true])
  |false=>
   exact gen (4*k) (4*k+1) (4*k+2) (4*k+3) (by omega) (by omega) (by omega) (by omega) (by rw [d0,hch];exact f0) (by rw [d2,hch];exact f2) (fun x hx=>by omega) (by rw [d1,hch];exact f1) (by rw [d3,hch];exact f3) (by simp only [mgB,hch];rfl)
theorem y24 (hp:ybt m n) (hmm: ∀x:Nat,x<4*n->m.getD (m.getD x 0).toNat 0=x) (hmf: ∀x:Nat,x<4*n->m.getD x 0≠x):CirR n (fun x=>m.getD x.toNat 0) (fun x=>jnB (ch (x/4).toNat) x) (mgB m ch n):=by
 obtain ⟨i1,i2,i3,i4⟩:=ynw (ch:=ch) hp hmm hmf n (Nat.le_refl _)
 refine CirR.of (yia hp hmm hmf ch) i1 i2 (fun x hx=>by simp only [Int.toNat_natCast];exact i3 x hx) (fun x hx=>?_)
 have:=i4 x hx
 rw [show ((x:Int)/4).toNat=x/4 by omega]
 exact this
end
end Go.Proofs.YtngegnonblbdhaaDoor
