/- Plain: the representatives of merge are those of the circles. -/
import Derived.Test.YtjpnnnognoaaiaaDoorZj
import Derived.Test.YtjpnnnognoaaiaaDoorZi
import Derived.Test.YtjpnnnognoaaiaaDoorZf
set_option linter.unusedSimpArgs false
set_option linter.unusedVariables false
namespace Go.Proofs.YtjpnnnognoaaiaaDoor
theorem ypk (k:Nat):jnB true ((4*k:Nat):Int)=((4*k+3:Nat):Int)/\jnB true ((4*k+1:Nat):Int)=((4*k+2:Nat):Int)/\jnB true ((4*k+2:Nat):Int)=((4*k+1:Nat):Int)/\jnB true ((4*k+3:Nat):Int)=((4*k:Nat):Int)/\
  jnB false ((4*k:Nat):Int)=((4*k+1:Nat):Int)/\jnB false ((4*k+1:Nat):Int)=((4*k:Nat):Int)/\jnB false ((4*k+2:Nat):Int)=((4*k+3:Nat):Int)/\jnB false ((4*k+3:Nat):Int)=((4*k+2:Nat):Int):=by
 have o: ∀x:Int,x % 2=1->jnB true x=x-x % 4+(x % 4+5)% 4/\jnB false x=x-x % 4+(x % 4+3)% 4:=fun x h=>by
  unfold jnB;rw [yen,yc9,decide_eq_true h];exact ⟨if_pos rfl,if_neg (by simp)⟩
 have e: ∀x:Int,¬x % 2=1->jnB true x=x-x % 4+(x % 4+3)% 4/\jnB false x=x-x % 4+(x % 4+5)% 4:=fun x h=>by
  unfold jnB;rw [yen,yc9,decide_eq_false h];exact ⟨if_neg (by simp),if_pos rfl⟩
 rw [(e _ (by omega)).1,(o _ (by omega)).1,(e _ (by omega)).1,(o _ (by omega)).1,(e _ (by omega)).2,(o _ (by omega)).2,(e _ (by omega)).2,(o _ (by omega)).2]
 omega
theorem ygi {m:List Int} {n:Nat} (hp:yb1 m n) (hmm: ∀x:Nat,x<4*n->m.getD (m.getD x 0).toNat 0=x) (hmf: ∀x:Nat,x<4*n->m.getD x 0≠x) (ch:Nat->Bool):Inv2 n (fun x=>m.getD x.toNat 0) (fun x=>jnB (ch (x/4).toNat) x):=by
 have hml:=hp.1
 refine ⟨fun x hx=>?_,fun x hx=>?_,fun x hx=>?_,fun x hx=>?_,fun x hx=>?_,fun x _=>yql _ x⟩
 ·unfold InR at*
  have:=hp.2 x.toNat (by omega)
  omega
 ·unfold InR at*
  have h1:=ybo (ch (x/4).toNat) x
  omega
 ·unfold InR at hx
  have:=hmm x.toNat (by omega)
  show m.getD (m.getD x.toNat 0).toNat 0=x
  rw [this];omega
 ·show jnB (ch (jnB (ch (x/4).toNat) x/4).toNat) (jnB (ch (x/4).toNat) x)=x
  rw [ybo,ycq]
 ·unfold InR at hx
  have:=hmf x.toNat (by omega)
  show m.getD x.toNat 0≠x
  omega
section
variable {n:Nat} {mt jn:Int->Int} {R:List Int}
theorem yjw (hi:Inv2 n mt jn) (hR:RepR R (4*n)) (h1: ∀x y:Nat,x<4*n->y<4*n->R.getD x 0=R.getD y 0->Cir mt jn x y) {g h:Nat} (hg:g<4*n) (hh:h<4*n) (hgh:Cir mt jn g h):
  ∀x y:Nat,x<4*n->y<4*n->(yci R g h).getD x 0=(yci R g h).getD y 0->Cir mt jn x y:=by
 intro x y hx hy e
 have ir: ∀z:Nat,z<4*n->InR n (z:Int):=fun z hz=>by unfold InR;omega
 rw [ycp hR.len hx,ycp hR.len hy] at e
 by_cases c1:R.getD x 0=R.getD g 0
 ·rw [if_pos c1] at e
  by_cases c2:R.getD y 0=R.getD g 0
  ·exact h1 x y hx hy (c1.trans c2.symm)
  ·rw [if_neg c2] at e
   exact ((h1 x g hx hg c1).trans hgh).trans (h1 h y hh hy e)
 ·rw [if_neg c1] at e
  by_cases c2:R.getD y 0=R.getD g 0
  ·rw [if_pos c2] at e
   exact ((h1 x h hx hh e).trans (hgh.symm hi (ir g hg))).trans (h1 g y hg hy c2.symm)
  ·rw [if_neg c2] at e
   exact h1 x y hx hy e
end
section
variable {m:List Int} {n:Nat} {ch:Nat->Bool}
theorem yqy (hp:yb1 m n) (hi:Inv2 n (fun x=>m.getD x.toNat 0) (fun x=>jnB (ch (x/4).toNat) x)): ∀k,k<=4*n->RepR (mgA m k) (4*n)/\
  (∀x y:Nat,x<4*n->y<4*n->(mgA m k).getD x 0=(mgA m k).getD y 0->Cir (fun x=>m.getD x.toNat 0) (fun x=>jnB (ch (x/4).toNat) x) x y)/\
  (∀x:Nat,x<k->(x:Int)<m.getD x 0->(mgA m k).getD (m.getD x 0).toNat 0=(mgA m k).getD x 0)
 |0,_=>by
  have hml:=hp.1
  have hu:=(UF.init (4*n)).rep
  refine ⟨by simp only [mgA,hml];exact hu,fun x y hx hy e=>?_,fun x hx=>by omega⟩
  have:(x:Int)=y:=by simpa [mgA,hml,hx,hy] using e
  have:x=y:=by omega
  subst this;exact .refl _
 |k+1,hk=>by
  obtain ⟨i1,i2,i3⟩:=yqy hp hi k (by omega)
  have hml:=hp.1
  have hmr:=hp.2 k (by omega)
  by_cases hlt:(k:Int)<m.getD k 0
  ·have e:mgA m (k+1)=yci (mgA m k) k (m.getD k 0).toNat:=by simp only [mgA,if_pos hlt]
   rw [e]
   have hy:(m.getD k 0).toNat<4*n:=by omega
   have hc:Cir (fun x=>m.getD x.toNat 0) (fun x=>jnB (ch (x/4).toNat) x) (k:Int) ((m.getD k 0).toNat:Int):=by
    have:=Cir.mate (mt:=fun x=>m.getD x.toNat 0) (jn:=fun x=>jnB (ch (x/4).toNat) x) (Cir.refl (k:Int))
    simp only [Int.toNat_natCast] at this
    rw [show ((m.getD k 0).toNat:Int)=m.getD k 0 by omega]
    exact this
   refine ⟨yjv i1 (by omega) hy,yjw hi i1 i2 (by omega) hy hc,fun x hx hlx=>?_⟩
   by_cases ex:x=k
   ·subst ex;exact (yiz i1.len (by omega) hy).symm
   ·have hmx:=hp.2 x (by omega)
    exact yd7 i1.len (by omega) (by omega) (i3 x (by omega) hlx)
  ·have e:mgA m (k+1)=mgA m k:=by simp only [mgA,if_neg hlt]
   rw [e]
   refine ⟨i1,i2,fun x hx hlx=>?_⟩
   by_cases ex:x=k
   ·subst ex;exact absurd hlx hlt
   ·exact i3 x (by omega) hlx
theorem yqz (hp:yb1 m n) (hmm: ∀x:Nat,x<4*n->m.getD (m.getD x 0).toNat 0=x) (hmf: ∀x:Nat,x<4*n->m.getD x 0≠x): ∀k,k<=n->RepR (mgB m ch k) (4*n)/\
  (∀x y:Nat,x<4*n->y<4*n->(mgB m ch k).getD x 0=(mgB m ch k).getD y 0->Cir (fun x=>m.getD x.toNat 0) (fun x=>jnB (ch (x/4).toNat) x) x y)/\
  (∀x:Nat,x<4*n->(mgB m ch k).getD (m.getD x 0).toNat 0=(mgB m ch k).getD x 0)/\
  (∀x:Nat,x<4*k->(mgB m ch k).getD (jnB (ch (x/4)) x).toNat 0=(mgB m ch k).getD x 0)
 |0,_=>by
  have hi:=ygi hp hmm hmf ch
  have hml:=hp.1
  obtain ⟨i1,i2,i3⟩:=yqy (ch:=ch) hp hi (4*n) (Nat.le_refl _)
  simp only [mgB,hml]
  refine ⟨i1,i2,fun x hx=>?_,fun x hx=>by omega⟩
  have hmr:=hp.2 x (by omega)
  have hne:=hmf x hx
  by_cases hlt:(x:Int)<m.getD x 0
  ·exact i3 x hx hlt
  ·have h2:=hmm x hx
   have:=i3 (m.getD x 0).toNat (by omega) (by rw [h2];omega)
   rw [h2,Int.toNat_natCast] at this
   exact this.symm
 |k+1,hk=>by
  have hi:=ygi hp hmm hmf ch
  have hml:=hp.1
  obtain ⟨i1,i2,i3,i4⟩:=yqz hp hmm hmf k (by omega)
  have hjc: ∀x:Nat,Cir (fun x=>m.getD x.toNat 0) (fun x=>jnB (ch (x/4).toNat) x) (x:Int) (jnB (ch (x/4)) x):=fun x=>by
   have:=Cir.join (mt:=fun x=>m.getD x.toNat 0) (jn:=fun x=>jnB (ch (x/4).toNat) x) (Cir.refl (x:Int))
   rw [show ((x:Int)/4).toNat=x/4 by omega] at this
   exact this
  have gen: ∀a b c d:Nat,a<4*n->b<4*n->c<4*n->d<4*n->jnB (ch (a/4)) a=b->jnB (ch (c/4)) c=d->(∀x:Nat,x/4=k->(x=a\/x=b\/x=c\/x=d))->jnB (ch (b/4)) b=a->jnB (ch (d/4)) d=c->
   mgB m ch (k+1)=yci (yci (mgB m ch k) a b) c d->RepR (mgB m ch (k+1)) (4*n)/\
   (∀x y:Nat,x<4*n->y<4*n->(mgB m ch (k+1)).getD x 0=(mgB m ch (k+1)).getD y 0->Cir (fun x=>m.getD x.toNat 0) (fun x=>jnB (ch (x/4).toNat) x) x y)/\
   (∀x:Nat,x<4*n->(mgB m ch (k+1)).getD (m.getD x 0).toNat 0=(mgB m ch (k+1)).getD x 0)/\
   (∀x:Nat,x<4*(k+1)->(mgB m ch (k+1)).getD (jnB (ch (x/4)) x).toNat 0=(mgB m ch (k+1)).getD x 0):=by
   intro a b c d ha hb hc hd e1 e2 hx4 e3 e4 eM
   rw [eM]
   have r1:=yjv i1 ha hb
   have c1:=yjw hi i1 i2 ha hb (by rw [←e1];exact hjc a)
   refine ⟨yjv r1 hc hd,yjw hi r1 c1 hc hd (by rw [←e2];exact hjc c),fun x hx=>?_,fun x hx=>?_⟩
   ·have hmr:=hp.2 x (by omega)
    exact yd7 r1.len (by omega) hx (yd7 i1.len (by omega) hx (i3 x hx))
   ·by_cases hxk:x/4=k
    ·have p1:=yd7 r1.len (g:=c) (h:=d) ha hb (yiz i1.len ha hb)
     have p2:=yiz (N:=4*n) (R:=yci (mgB m ch k) a b) r1.len hc hd
     rcases hx4 x hxk with rfl|rfl|rfl|rfl
     ·rw [e1,Int.toNat_natCast];exact p1.symm
     ·rw [e3,Int.toNat_natCast];exact p1
     ·rw [e2,Int.toNat_natCast];exact p2.symm
     ·rw [e4,Int.toNat_natCast];exact p2
    ·have hj:=ybo (ch (x/4)) x
     exact yd7 r1.len (by omega) (by omega) (yd7 i1.len (by omega) (by omega) (i4 x (by omega)))
  have d0:(4*k)/4=k:=by omega
  have d1:(4*k+1)/4=k:=by omega
  have d2:(4*k+2)/4=k:=by omega
  have d3:(4*k+3)/4=k:=by omega
  obtain ⟨t0,t1,t2,t3,f0,f1,f2,f3⟩:=ypk k
  cases hch:ch k with
  |true=>
   exact gen (4*k+1) (4*k+2) (4*k+3) (4*k) (by omega) (by omega) (by omega) (by omega) (by rw [d1,hch];exact t1) (by rw [d3,hch];exact t3) (fun x hx=>by omega) (by rw [d2,hch];exact t2) (by rw [d0,hch];exact t0) (by simp only [mgB,hch,if_true])
  |false=>
   exact gen (4*k) (4*k+1) (4*k+2) (4*k+3) (by omega) (by omega) (by omega) (by omega) (by rw [d0,hch];exact f0) (by rw [d2,hch];exact f2) (fun x hx=>by omega) (by rw [d1,hch];exact f1) (by rw [d3,hch];exact f3) (by simp only [mgB,hch];rfl)
theorem ypl (hp:yb1 m n) (hmm: ∀x:Nat,x<4*n->m.getD (m.getD x 0).toNat 0=x) (hmf: ∀x:Nat,x<4*n->m.getD x 0≠x):CirR n (fun x=>m.getD x.toNat 0) (fun x=>jnB (ch (x/4).toNat) x) (mgB m ch n):=by
 obtain ⟨i1,i2,i3,i4⟩:=yqz (ch:=ch) hp hmm hmf n (Nat.le_refl _)
 refine CirR.of (ygi hp hmm hmf ch) i1 i2 (fun x hx=>by simp only [Int.toNat_natCast];exact i3 x hx) (fun x hx=>?_)
 have:=i4 x hx
 rw [show ((x:Int)/4).toNat=x/4 by omega]
 exact this
end
end Go.Proofs.YtjpnnnognoaaiaaDoor
namespace Go.Proofs.YtjpnnnognoaaiaaDoor
set_option linter.unusedSimpArgs false
set_option linter.unusedVariables false
def sm (f:Nat->Int):Nat->Int
 |0=>0
 |n+1=>sm f n+f n
theorem yq0 {l:List Nat} {f:Nat->Nat} (h: ∀x∈l,∀y∈l,f x=f y->x=y) (hn:l.Nodup):(l.map f).Nodup:=by
 rw [List.nodup_iff_pairwise_ne,List.pairwise_map]
 exact List.Pairwise.imp_of_mem (fun ha hb hne e=>hne (h _ ha _ hb e)) (List.nodup_iff_pairwise_ne.1 hn)
structure Way (n:Nat) (mt jn:Int->Int) (c:Nat) (x e:Int) (O:Int->Prop):Prop where
 inX:O x
 inE:O e
 ne:e≠x
 eC:e/4=c
 ends: ∀y,O y->y/4=c->y=x\/y=e
 mate: ∀y,O y->O (mt y)
 join: ∀y,O y->y/4≠c->O (jn y)
 rng: ∀y,O y->InR n y
section
variable {n:Nat} {mt jn:Int->Int} {c:Nat}
def JnC (jn:Int->Int):Prop:= ∀x,jn x/4=x/4
theorem way (hi:Inv2 n mt jn) (hj:JnC jn) {x:Int} (hx:InR n x) (hxc:x/4=c): ∃e O,Way n mt jn c x e O/\ ∀kn:Int->Int,(∀y:Int,0<=y->y/4≠c->kn y=jn y)-> ∀y,O y->Cir mt kn x y:=by
 have hR: ∀j,InR n (it (fun x=>jn (mt x)) j x):=fun j=>(ye1 hi).it hx j
 obtain ⟨k,hk,hper⟩:=(ye1 hi).per hx
 have hk0:=hper.pos
 have hback:=hper.back
 have ex: ∃j,mt (it (fun x=>jn (mt x)) j x)/4=c:=by
  refine ⟨k-1,?_⟩
  have e:it (fun x=>jn (mt x)) ((k-1)+1) x=x:=by rw [show k-1+1=k by omega];exact hback
  have e2:jn (mt (it (fun x=>jn (mt x)) (k-1) x))=x:=e
  rw [←hj,e2,hxc]
 have ymv: ∀b,(∃j,j<=b/\mt (it (fun x=>jn (mt x)) j x)/4=c)-> ∃j,mt (it (fun x=>jn (mt x)) j x)/4=c/\ ∀i,i<j->mt (it (fun x=>jn (mt x)) i x)/4≠c:=by
  intro b
  induction b with
  |zero=>rintro ⟨j,hj,h⟩;obtain rfl:j=0:=by omega
         exact ⟨0,h,fun i hi=>by omega⟩
  |succ b ih=>
   rintro ⟨j,hj,h⟩
   by_cases hq: ∃j,j<=b/\mt (it (fun x=>jn (mt x)) j x)/4=c
   ·exact ih hq
   ·refine ⟨j,h,fun i hi hc=>hq ⟨i,by omega,hc⟩⟩
 obtain ⟨j0,h0⟩:=ex
 obtain ⟨j,hjc,hjl⟩:=ymv j0 ⟨j0,Nat.le_refl _,h0⟩
 have succ: ∀i,it (fun x=>jn (mt x)) (i+1) x=jn (mt (it (fun x=>jn (mt x)) i x)):=fun i=>rfl
 have off: ∀i,0<i->i<=j->it (fun x=>jn (mt x)) i x/4≠c:=fun i h1 h2=>by
  obtain ⟨i,rfl⟩: ∃i',i=i'+1:=⟨i-1,by omega⟩
  rw [succ,hj];exact hjl i (by omega)
 refine ⟨mt (it (fun x=>jn (mt x)) j x),fun y=> ∃i,i<=j/\(y=it (fun x=>jn (mt x)) i x\/y=mt (it (fun x=>jn (mt x)) i x)),⟨⟨0,by omega, .inl rfl⟩,⟨j,Nat.le_refl _, .inr rfl⟩,?_,hjc,?_,?_,?_,?_⟩,?_⟩
 ·exact fun e=>(yqx hi hx j 0 j (by omega)).2 e.symm
 ·rintro y ⟨i,hij,rfl|rfl⟩ hyc
  ·by_cases hi0:i=0
   ·subst hi0;exact .inl rfl
   ·exact absurd hyc (off i (by omega) hij)
  ·by_cases hi0:i=j
   ·subst hi0;exact .inr rfl
   ·exact absurd hyc (hjl i (by omega))
 ·rintro y ⟨i,hij,rfl|rfl⟩
  ·exact ⟨i,hij, .inr rfl⟩
  ·exact ⟨i,hij, .inl (hi.mm _ (hR i))⟩
 ·rintro y ⟨i,hij,rfl|rfl⟩ hyc
  ·by_cases hi0:i=0
   ·subst hi0;exact absurd hxc hyc
   ·obtain ⟨i,rfl⟩: ∃i',i=i'+1:=⟨i-1,by omega⟩
    exact ⟨i,by omega, .inr (by rw [succ,hi.jj _ (hi.mr _ (hR i))])⟩
  ·by_cases hi0:i=j
   ·subst hi0;exact absurd hjc hyc
   ·exact ⟨i+1,by omega, .inl rfl⟩
 ·rintro y ⟨i,hij,rfl|rfl⟩
  ·exact hR i
  ·exact hi.mr _ (hR i)
 ·intro kn hkn y hy
  have hc: ∀i,i<=j->Cir mt kn x (it (fun x=>jn (mt x)) i x):=by
   intro i
   induction i with
   |zero=>intro _;exact .refl _
   |succ i ih=>
    intro hij
    rw [succ,←hkn _ (by have:=hi.mr _ (hR i);unfold InR at this;exact this.1) (hjl i (by omega))]
    exact .join (.mate (ih (by omega)))
  obtain ⟨i,hij,rfl|rfl⟩:=hy
  ·exact hc i hij
  ·exact .mate (hc i hij)
end
def pr3:Nat->Int->Int
 |0,x=>jnB false x
 |1,x=>jnB true x
 |_,x=>x-x % 4+(x % 4+2)% 4
theorem yto (t:Nat) (x:Int):pr3 t x/4=x/4:=by
 unfold pr3
 split
 ·exact ybo _ _
 ·exact ybo _ _
 ·omega
theorem y5a: ∀(t:Nat) (x:Int),pr3 t (pr3 t x)=x
 |0,x=>ycq _ _
 |1,x=>ycq _ _
 |t+2,x=>by simp only [pr3];omega
theorem y67 (t:Nat) (x:Int):pr3 t x≠x:=by
 unfold pr3
 split
 ·exact yql _ _
 ·exact yql _ _
 ·omega
def st3 (s:Nat->Nat) (x:Int):Int:=pr3 (s (x/4).toNat) x
theorem ytp {n:Nat} {m:List Int} (hp:yb1 m n) (hmm: ∀x:Nat,x<4*n->m.getD (m.getD x 0).toNat 0=x) (hmf: ∀x:Nat,x<4*n->m.getD x 0≠x) (s:Nat->Nat):Inv2 n (fun x=>m.getD x.toNat 0) (st3 s):=by
 have h:=ygi hp hmm hmf (fun _=>false)
 refine ⟨h.mr,fun x hx=>?_,h.mm,fun x hx=>?_,h.mf,fun x _=>y67 _ _⟩
 ·have:=yto (s (x/4).toNat) x
  unfold InR st3 at*;omega
 ·unfold st3;rw [yto,y5a]
def cir3 (m:List Int) (n:Nat) (s:Nat->Nat):Nat:=roots (crN (fun x=>m.getD x.toNat 0) (st3 s) (4*n) (4*n))
end Go.Proofs.YtjpnnnognoaaiaaDoor
namespace Go.Proofs.YtjpnnnognoaaiaaDoor
set_option linter.unusedSimpArgs false
set_option linter.unusedVariables false
section
variable {K:Nat} {c:Nat->Nat} {w:Nat->Int}
end
theorem AscN.len {p:List (Int×Int)} (h:AscN p): ∀{a b:Int},(∀t∈p,a<=t.1/\t.1<=b)->(p.length:Int)<=max 0 (b-a+1):=by
 induction p with
 |nil=>intro a b _;simp;omega
 |cons t p ih=>
  intro a b hb
  have h1:=hb t (List.mem_cons_self ..)
  have:=ih h.tail (a:=t.1+1) (b:=b) fun u hu=>by
   have h2:=h.head u hu
   have h3:=hb u (List.mem_cons_of_mem _ hu)
   omega
  simp only [List.length_cons]
  omega
end Go.Proofs.YtjpnnnognoaaiaaDoor
set_option linter.unusedSimpArgs false
set_option linter.unusedVariables false
namespace Go.Proofs.YtjpnnnognoaaiaaDoor
set_option maxRecDepth 100000
theorem yq1 {v l:Int} (h0: -l<=v) (h1:v<=l):fitB v l=true:=by unfold fitB;simp;omega
def trm (c e:Int):List (Int×Int):=if c=0 then [] else [(e,c)]
structure ybw (p:List (Int×Int)) (f:Int->Int):Prop where
 asc:AscN p
 cf: ∀e,cfL p e=f e
theorem ybw.nil:ybw [] (fun _=>0):=⟨AscN.nil,fun _=>rfl⟩
theorem ybw.congr {p:List (Int×Int)} {f g:Int->Int} (h:ybw p f) (e: ∀x,f x=g x):ybw p g:=⟨h.asc,fun x=>(h.cf x).trans (e x)⟩
theorem ybw.mem {p:List (Int×Int)} {f:Int->Int} (h:ybw p f) {t:Int×Int} (ht:t∈p):t.2=f t.1/\f t.1≠0:=by
 have:=ygh h.asc ht
 rw [h.cf] at this
 exact ⟨this.symm,by rw [this];exact h.asc.nz t ht⟩
theorem ybw.len {p:List (Int×Int)} {f:Int->Int} (h:ybw p f) (hs: ∀e,f e≠0-> -1000<=e/\e<=1000):p.length<=2001:=by
 have:=h.asc.len (a:= -1000) (b:=1000) fun t ht=>hs _ (h.mem ht).2
 omega
theorem ybw.fits {p:List (Int×Int)} {f:Int->Int} (h:ybw p f) (hb: ∀e,-1125899906842624<=f e/\f e<=1125899906842624):yfu p:=fun t ht=>by
 rw [(h.mem ht).1];exact hb _
theorem y11 {p:List (Int×Int)} (h:p.Pairwise fun a b=>a.1<b.1) {t:Int×Int} (ht:t∈p):cfL p t.1=t.2:=by
 induction p with
 |nil=>cases ht
 |cons u p ih=>
  have h1:=List.pairwise_cons.1 h
  simp only [cfL]
  rcases List.mem_cons.1 ht with rfl|ht
  ·rw [if_pos rfl,yck fun v hv=>by have:=h1.1 v hv;omega];omega
  ·rw [if_neg (by have:=h1.1 t ht;omega),ih h1.2 ht];omega
theorem y68 (c e:Int):ybw (trm c e) (fun x=>if x=e then c else 0):=by
 unfold trm
 split
 ·rename_i h
  exact ybw.nil.congr fun x=>by rw [h];split<;>rfl
 ·rename_i h
  refine ⟨⟨by simp,fun t ht=>by simp only [List.mem_singleton] at ht;subst ht;exact h⟩,fun x=>?_⟩
  simp only [cfL,Int.add_zero]
  by_cases hx:x=e
  ·rw [if_pos hx.symm,if_pos hx]
  ·rw [if_neg (fun h=>hx h.symm),if_neg hx]
end Go.Proofs.YtjpnnnognoaaiaaDoor
