/- Plain: sums over a range; the numbers of circles of neighbouring states. -/
import Derived.Test.YtngegnonblbdhaaDoorPd
namespace Go.Proofs.YtngegnonblbdhaaDoor
set_option linter.unusedSimpArgs false
set_option linter.unusedVariables false
def sm (f:Nat->Int):Nat->Int
 |0=>0
 |n+1=>sm f n+f n
theorem ybb {f g:Nat->Int}: ∀{n:Nat},(∀x,x<n->f x=g x)->sm f n=sm g n
 |0,_=>rfl
 |n+1,h=>by simp only [sm];rw [ybb fun x hx=>h x (by omega),h n (by omega)]
theorem yc7 (f g:Nat->Int): ∀n,sm (fun x=>f x+g x) n=sm f n+sm g n
 |0=>rfl
 |n+1=>by simp only [sm];rw [yc7 f g n];omega
theorem yke (c:Int) (f:Nat->Int): ∀n,sm (fun x=>c*f x) n=c*sm f n
 |0=>by simp [sm]
 |n+1=>by simp only [sm];rw [yke c f n,Int.mul_add]
theorem ybp (c:Int): ∀n:Nat,sm (fun _=>c) n=c*n
 |0=>by simp [sm]
 |n+1=>by simp only [sm];rw [ybp c n,Int.natCast_add,Int.mul_add];simp
theorem ykf {f g:Nat->Int}: ∀{n:Nat},(∀x,x<n->f x<=g x)->sm f n<=sm g n
 |0,_=>Int.le_refl _
 |n+1,h=>by
  simp only [sm]
  have:=ykf (n:=n) fun x hx=>h x (by omega)
  have:=h n (by omega)
  omega
theorem ynx (f:Nat->Int) (a:Nat): ∀b,sm f (a+b)=sm f a+sm (fun x=>f (a+x)) b
 |0=>by simp [sm]
 |b+1=>by rw [←Nat.add_assoc];simp only [sm];rw [ynx f a b];omega
theorem yk5 (f:Nat->Int): ∀n,sm f n=((List.range n).map f).sum
 |0=>rfl
 |n+1=>by rw [List.range_succ,List.map_append,List.sum_append_int,←yk5 f n];simp [sm]
theorem ywj {l k:List Int} (h:l.Perm k):l.sum=k.sum:=by
 induction h with
 |nil=>rfl
 |cons x _ ih=>simp only [List.sum_cons,ih]
 |swap x y l=>simp only [List.sum_cons];omega
 |trans _ _ h1 h2=>rw [h1,h2]
theorem yd3 {l:List Nat} {f:Nat->Nat} (h: ∀x∈l,∀y∈l,f x=f y->x=y) (hn:l.Nodup):(l.map f).Nodup:=by
 rw [List.nodup_iff_pairwise_ne,List.pairwise_map]
 exact List.Pairwise.imp_of_mem (fun ha hb hne e=>hne (h _ ha _ hb e)) (List.nodup_iff_pairwise_ne.1 hn)
theorem yk6 (f:Nat->Int) {N:Nat} (g:Nat->Nat) (hr: ∀x,x<N->g x<N) (hi: ∀x y,x<N->y<N->g x=g y->x=y):sm (fun x=>f (g x)) N=sm f N:=by
 have hn:((List.range N).map g).Nodup:=yd3 (fun x hx y hy=>hi x y (List.mem_range.1 hx) (List.mem_range.1 hy)) List.nodup_range
 have hp:((List.range N).map g).Perm (List.range N):=by
  have hle:=yb3 (l:=List.range N) (k:=(List.range N).map g) List.nodup_range
  refine (List.perm_ext_iff_of_nodup hn List.nodup_range).2 fun a=>⟨fun h=>?_,fun h=>?_⟩
  ·obtain ⟨x,hx,rfl⟩:=List.mem_map.1 h
   exact List.mem_range.2 (hr x (List.mem_range.1 hx))
  ·by_cases hm:a∈(List.range N).map g
   ·exact hm
   ·exfalso
    have h2:=yb3 (l:=a::(List.range N).map g) (k:=List.range N) (List.nodup_cons.2 ⟨hm,hn⟩) (fun y hy=>by
     rcases List.mem_cons.1 hy with rfl|hy
     ·exact h
     ·obtain ⟨x,hx,rfl⟩:=List.mem_map.1 hy
      exact List.mem_range.2 (hr x (List.mem_range.1 hx)))
    simp at h2
    omega
 rw [yk5,yk5]
 have:=ywj (hp.map f)
 rw [List.map_map] at this
 exact this
theorem yl6 (p:Nat->Bool): ∀n,((List.range n).countP p:Int)=sm (fun x=>if p x then 1 else 0) n
 |0=>rfl
 |n+1=>by
  rw [List.range_succ,List.countP_append,Int.natCast_add,yl6 p n]
  simp only [sm,List.countP_cons,List.countP_nil]
  split<;>simp
theorem yny {n:Nat} {mt jn:Int->Int} {R:List Int} (hi:Inv2 n mt jn) (hR:CirR n mt jn R):4*(roots R:Int)<=4*n+sm (fun x=>if mt x=jn x then 1 else 0) (4*n):=by
 let p:Nat->Int:=fun x=>if (R.getD x 0==(x:Int))=true then 1 else 0
 have hroots:(roots R:Int)=sm p (4*n):=by
  unfold roots;rw [yl6,hR.rep.len]
 have ir: ∀x:Nat,x<4*n->InR n (x:Int):=fun x hx=>by unfold InR;omega
 have mr: ∀x:Nat,x<4*n->(mt x).toNat<4*n/\((mt x).toNat:Int)=mt x:=fun x hx=>by have:=hi.mr x (ir x hx);unfold InR at this;omega
 have jr: ∀x:Nat,x<4*n->(jn x).toNat<4*n/\((jn x).toNat:Int)=jn x:=fun x hx=>by have:=hi.jr x (ir x hx);unfold InR at this;omega
 have s1:sm (fun x=>p (mt x).toNat) (4*n)=sm p (4*n):=yk6 p (fun x=>(mt x).toNat) (fun x hx=>(mr x hx).1) (fun x y hx hy e=>by
  have h1:=hi.mm x (ir x hx)
  have h2:=hi.mm y (ir y hy)
  have:=mr x hx
  have:=mr y hy
  rw [show mt x=mt y by omega,h2] at h1;omega)
 have s2:sm (fun x=>p (jn x).toNat) (4*n)=sm p (4*n):=yk6 p (fun x=>(jn x).toNat) (fun x hx=>(jr x hx).1) (fun x y hx hy e=>by
  have h1:=hi.jj x (ir x hx)
  have h2:=hi.jj y (ir y hy)
  have:=jr x hx
  have:=jr y hy
  rw [show jn x=jn y by omega,h2] at h1;omega)
 have s3:sm (fun x=>p (jn ((mt x).toNat:Int)).toNat) (4*n)=sm p (4*n):=by
  rw [←s2]
  exact yk6 (fun x=>p (jn x).toNat) (fun x=>(mt x).toNat) (fun x hx=>(mr x hx).1) (fun x y hx hy e=>by
   have h1:=hi.mm x (ir x hx)
   have h2:=hi.mm y (ir y hy)
   have:=mr x hx
   have:=mr y hy
   rw [show mt x=mt y by omega,h2] at h1;omega)
 have key:4*sm p (4*n)=sm (fun x=>p x+p (mt x).toNat+(p (jn x).toNat+p (jn ((mt x).toNat:Int)).toNat)) (4*n):=by
  rw [yc7,yc7,yc7,s1,s2,s3];omega
 have p01: ∀x,p x=0\/p x=1:=fun x=>by show (if _ then _ else _)=_\/(if _ then _ else _)=_;split<;>simp
 have one: ∀x y:Nat,x<4*n->y<4*n->Cir mt jn x y->x≠y->p x+p y<=1:=fun x y hx hy hc hne=>by
  have e:=(hR.iff x y hx hy).2 hc
  show (if _ then _ else _)+(if _ then _ else _)<=_
  by_cases hx1:(R.getD x 0==(x:Int))=true
  ·have hy1: ¬(R.getD y 0==(y:Int))=true:=fun h=>by
    simp only [beq_iff_eq] at hx1 h;omega
   rw [if_neg hy1];split<;>omega
  ·rw [if_neg hx1];split<;>omega
 have e1:sm (fun x=>p x+p (mt x).toNat+(p (jn x).toNat+p (jn ((mt x).toNat:Int)).toNat)) (4*n)<=sm (fun x=>1+(if mt x=jn x then 1 else 0)) (4*n):=by
  refine ykf fun x hx=>?_
  have hM:=mr x hx
  have hJ:=jr x hx
  have hJM:=jr (mt x).toNat hM.1
  rw [hM.2] at hJM
  simp only [hM.2]
  have cM:Cir mt jn x (mt x):= .mate (.refl _)
  have cJ:Cir mt jn x (jn x):= .join (.refl _)
  have cJM:Cir mt jn x (jn (mt x)):= .join (.mate (.refl _))
  have hx0:=ir x hx
  have hm0:=hi.mr _ hx0
  have nM:=hi.mf _ hx0
  have nJ:=hi.jf _ hx0
  have nJM:=hi.jf _ hm0
  have a1:=one x (mt x).toNat hx hM.1 (by rw [hM.2];exact cM) (by omega)
  have a2:=one x (jn x).toNat hx hJ.1 (by rw [hJ.2];exact cJ) (by omega)
  by_cases e:mt x=jn x
  ·rw [if_pos e,show jn (mt x)=x by rw [e];exact hi.jj _ hx0,Int.toNat_natCast,e]
   rw [e] at a1
   omega
  ·rw [if_neg e]
   have n1:jn (mt x)≠x:=fun h=>e (by rw [←hi.jj _ hm0,h])
   have n2:jn (mt x)≠jn x:=fun h=>nM (by rw [←hi.jj _ hm0,h,hi.jj _ hx0])
   have a3:=one x (jn (mt x)).toNat hx hJM.1 (by rw [hJM.2];exact cJM) (by omega)
   have sy:Cir mt jn (mt x) (jn x):=(cM.symm hi hx0).trans cJ
   have a4:=one (mt x).toNat (jn x).toNat hM.1 hJ.1 (by rw [hM.2,hJ.2];exact sy) (by omega)
   have sy2:Cir mt jn (mt x) (jn (mt x)):= .join (.refl _)
   have a5:=one (mt x).toNat (jn (mt x)).toNat hM.1 hJM.1 (by rw [hM.2,hJM.2];exact sy2) (by omega)
   have sy3:Cir mt jn (jn x) (jn (mt x)):=(cJ.symm hi hx0).trans cJM
   have a6:=one (jn x).toNat (jn (mt x)).toNat hJ.1 hJM.1 (by rw [hJ.2,hJM.2];exact sy3) (by omega)
   have b1:=p01 x
   have b2:=p01 (mt x).toNat
   have b3:=p01 (jn x).toNat
   have b4:=p01 (jn (mt x)).toNat
   omega
 have e2:=yc7 (fun _=>(1:Int)) (fun x:Nat=>if mt x=jn x then (1:Int) else 0) (4*n)
 rw [e2,ybp,←key] at e1
 rw [hroots]
 omega
theorem ywk {n:Nat} {mt jn kn:Int->Int} {R S:List Int} (hi:Inv2 n mt jn) (hj:Inv2 n mt kn) (hR:CirR n mt jn R) (hS:CirR n mt kn S) (hne: ∀x,InR n x->jn x≠kn x):roots R+roots S<=3*n:=by
 have h1:=yny hi hR
 have h2:=yny hj hS
 have h3:sm (fun x=>if mt x=jn x then 1 else 0) (4*n)+sm (fun x=>if mt x=kn x then 1 else 0) (4*n)<=sm (fun _=>1) (4*n):=by
  rw [←yc7]
  refine ykf fun x hx=>?_
  have:=hne x (by unfold InR;omega)
  by_cases e1:mt x=jn x
  ·rw [if_pos e1,if_neg (by omega)];omega
  ·rw [if_neg e1];split<;>omega
 rw [ybp] at h3
 omega
inductive Con4 (mt jn:Int->Int) (c:Int):Int->Int->Prop
 |refl (x:Int):Con4 mt jn c x x
 |mate {x y:Int} (h:Con4 mt jn c x y):Con4 mt jn c x (mt y)
 |join {x y:Int} (h:Con4 mt jn c x y) (hy:y/4≠c):Con4 mt jn c x (jn y)
 |any {x y z:Int} (h:Con4 mt jn c x y) (hy:y/4=c) (hz:z/4=c):Con4 mt jn c x z
theorem Con4.trans {mt jn:Int->Int} {c x y z:Int} (h1:Con4 mt jn c x y) (h2:Con4 mt jn c y z):Con4 mt jn c x z:=by
 induction h2 with
 |refl=>exact h1
 |mate _ ih=>exact .mate ih
 |join _ hy ih=>exact .join ih hy
 |any _ hy hz ih=>exact .any ih hy hz
structure Way (n:Nat) (mt jn:Int->Int) (c:Nat) (x e:Int) (O:Int->Prop):Prop where
 inX:O x
 inE:O e
 ne:e≠x
 eC:e/4=c
 ends: ∀y,O y->y/4=c->y=x\/y=e
 mate: ∀y,O y->O (mt y)
 join: ∀y,O y->y/4≠c->O (jn y)
 rng: ∀y,O y->InR n y
section
variable {n:Nat} {mt jn:Int->Int} {c:Nat}
def JnC (jn:Int->Int):Prop:= ∀x,jn x/4=x/4
theorem way (hi:Inv2 n mt jn) (hj:JnC jn) {x:Int} (hx:InR n x) (hxc:x/4=c): ∃e O,Way n mt jn c x e O/\ ∀kn:Int->Int,(∀y:Int,0<=y->y/4≠c->kn y=jn y)-> ∀y,O y->Cir mt kn x y:=by
 have hR: ∀j,InR n (it (fun x=>jn (mt x)) j x):=fun j=>(yds hi).it hx j
 obtain ⟨k,hk,hper⟩:=(yds hi).per hx
 have hk0:=hper.pos
 have hback:=hper.back
 have ex: ∃j,mt (it (fun x=>jn (mt x)) j x)/4=c:=by
  refine ⟨k-1,?_⟩
  have e:it (fun x=>jn (mt x)) ((k-1)+1) x=x:=by rw [show k-1+1=k by omega];exact hback
  have e2:jn (mt (it (fun x=>jn (mt x)) (k-1) x))=x:=e
  rw [←hj,e2,hxc]
 have ykb: ∀b,(∃j,j<=b/\mt (it (fun x=>jn (mt x)) j x)/4=c)-> ∃j,mt (it (fun x=>jn (mt x)) j x)/4=c/\ ∀i,i<j->mt (it (fun x=>jn (mt x)) i x)/4≠c:=by
  intro b
  induction b with
  |zero=>rintro ⟨j,hj,h⟩;obtain rfl:j=0:=by omega
         exact ⟨0,h,fun i hi=>by omega⟩
  |succ b ih=>
   rintro ⟨j,hj,h⟩
   by_cases hq: ∃j,j<=b/\mt (it (fun x=>jn (mt x)) j x)/4=c
   ·exact ih hq
   ·refine ⟨j,h,fun i hi hc=>hq ⟨i,by omega,hc⟩⟩
 obtain ⟨j0,h0⟩:=ex
 obtain ⟨j,hjc,hjl⟩:=ykb j0 ⟨j0,Nat.le_refl _,h0⟩
 have succ: ∀i,it (fun x=>jn (mt x)) (i+1) x=jn (mt (it (fun x=>jn (mt x)) i x)):=fun i=>rfl
 have off: ∀i,0<i->i<=j->it (fun x=>jn (mt x)) i x/4≠c:=fun i h1 h2=>by
  obtain ⟨i,rfl⟩: ∃i',i=i'+1:=⟨i-1,by omega⟩
  rw [succ,hj];exact hjl i (by omega)
 refine ⟨mt (it (fun x=>jn (mt x)) j x),fun y=> ∃i,i<=j/\(y=it (fun x=>jn (mt x)) i x\/y=mt (it (fun x=>jn (mt x)) i x)),⟨⟨0,by omega, .inl rfl⟩,⟨j,Nat.le_refl _, .inr rfl⟩,?_,hjc,?_,?_,?_,?_⟩,?_⟩
 ·exact fun e=>(ynt hi hx j 0 j (by omega)).2 e.symm
 ·rintro y ⟨i,hij,rfl|rfl⟩ hyc
  ·by_cases hi0:i=0
   ·subst hi0;exact .inl rfl
   ·exact absurd hyc (off i (by omega) hij)
  ·by_cases hi0:i=j
   ·subst hi0;exact .inr rfl
   ·exact absurd hyc (hjl i (by omega))
 ·rintro y ⟨i,hij,rfl|rfl⟩
  ·exact ⟨i,hij, .inr rfl⟩
  ·exact ⟨i,hij, .inl (hi.mm _ (hR i))⟩
 ·rintro y ⟨i,hij,rfl|rfl⟩ hyc
  ·by_cases hi0:i=0
   ·subst hi0;exact absurd hxc hyc
   ·obtain ⟨i,rfl⟩: ∃i',i=i'+1:=⟨i-1,by omega⟩
    exact ⟨i,by omega, .inr (by rw [succ,hi.jj _ (hi.mr _ (hR i))])⟩
  ·by_cases hi0:i=j
   ·subst hi0;exact absurd hjc hyc
   ·exact ⟨i+1,by omega, .inl rfl⟩
 ·rintro y ⟨i,hij,rfl|rfl⟩
  ·exact hR i
  ·exact hi.mr _ (hR i)
 ·intro kn hkn y hy
  have hc: ∀i,i<=j->Cir mt kn x (it (fun x=>jn (mt x)) i x):=by
   intro i
   induction i with
   |zero=>intro _;exact .refl _
   |succ i ih=>
    intro hij
    rw [succ,←hkn _ (by have:=hi.mr _ (hR i);unfold InR at this;exact this.1) (hjl i (by omega))]
    exact .join (.mate (ih (by omega)))
  obtain ⟨i,hij,rfl|rfl⟩:=hy
  ·exact hc i hij
  ·exact .mate (hc i hij)
theorem ynz (hi:Inv2 n mt jn) (hj:JnC jn) {R:List Int} (hR:CirR n mt jn R) {x y:Nat} (hx:x<4*n) (hy:y<4*n) (hxc:x/4=c) (hyc:y/4=c)
  (hall: ∀z:Int,z/4=c->z=x\/z=jn x\/z=y\/z=jn y):
  RepR (yaj R x y) (4*n)/\ ∀a b:Nat,a<4*n->b<4*n->((yaj R x y).getD a 0=(yaj R x y).getD b 0↔Con4 mt jn c a b):=by
 have hl:=hR.rep.len
 have ir: ∀x:Nat,x<4*n->InR n (x:Int):=fun x hx=>by unfold InR;omega
 have toC: ∀{a b:Int},Cir mt jn a b->Con4 mt jn c a b:=fun h=>by
  induction h with
  |refl=>exact .refl _
  |mate _ ih=>exact .mate ih
  | @join z _ ih=>
    by_cases hz:z/4=c
    ·exact .any ih hz (by rw [hj];exact hz)
    ·exact .join ih hz
 have xy:Con4 mt jn c x y:= .any (.refl _) (by omega) (by omega)
 have yx:Con4 mt jn c y x:= .any (.refl _) (by omega) (by omega)
 refine ⟨yeq hR.rep hx hy,fun a b ha hb=>⟨fun e=>?_,fun h=>?_⟩⟩
 ·rw [yax hl ha,yax hl hb] at e
  by_cases c1:R.getD a 0=R.getD x 0
  ·rw [if_pos c1] at e
   by_cases c2:R.getD b 0=R.getD x 0
   ·exact toC ((hR.iff a b ha hb).1 (c1.trans c2.symm))
   ·rw [if_neg c2] at e
    exact ((toC ((hR.iff a x ha hx).1 c1)).trans xy).trans (toC ((hR.iff y b hy hb).1 e))
  ·rw [if_neg c1] at e
   by_cases c2:R.getD b 0=R.getD x 0
   ·rw [if_pos c2] at e
    exact ((toC ((hR.iff a y ha hy).1 e)).trans yx).trans (toC ((hR.iff x b hx hb).1 c2.symm))
   ·rw [if_neg c2] at e
    exact toC ((hR.iff a b ha hb).1 e)
 ·have cx:(yaj R x y).getD x 0=(yaj R x y).getD y 0:=ye1 hl hx hy
  have stC: ∀u v:Nat,u<4*n->v<4*n->Cir mt jn u v->(yaj R x y).getD u 0=(yaj R x y).getD v 0:=fun u v hu hv h=>ycg hl hu hv ((hR.iff u v hu hv).2 h)
  have jx:=hi.jr _ (ir x hx)
  have jy:=hi.jr _ (ir y hy)
  have four: ∀z:Nat,z<4*n->z/4=c->(yaj R x y).getD z 0=(yaj R x y).getD x 0:=fun z hz hzc=>by
   rcases hall z (by omega) with h|h|h|h
   ·rw [show z=x by omega]
   ·exact (stC x z hx hz (by rw [h];exact .join (.refl _))).symm
   ·rw [show z=y by omega];exact cx.symm
   ·rw [cx];exact (stC y z hy hz (by rw [h];exact .join (.refl _))).symm
  have key: ∀z,Con4 mt jn c a z->InR n z->InR n z/\(yaj R x y).getD z.toNat 0=(yaj R x y).getD a 0:=by
   intro z hz
   induction hz with
   |refl=>exact fun h=>⟨h,by rw [Int.toNat_natCast]⟩
   | @mate u h ih=>
     intro hr
     have hu:InR n u:=by
      have: ∀w,Con4 mt jn c a w->InR n w:=fun w hw=>by
       induction hw with
       |refl=>exact ir a ha
       |mate _ ih2=>exact hi.mr _ ih2
       |join _ _ ih2=>exact hi.jr _ ih2
       |any h hy' hz' ih2=>unfold InR at*;omega
      exact this u h
     obtain ⟨_,e⟩:=ih hu
     refine ⟨hr,?_⟩
     unfold InR at hu hr
     rw [←e]
     exact (stC u.toNat (mt u).toNat (by omega) (by omega) (by rw [show ((u.toNat:Nat):Int)=u by omega,show (((mt u).toNat:Nat):Int)=mt u by omega];exact .mate (.refl _))).symm
   | @join u h hu4 ih=>
     intro hr
     have hu:InR n u:=by
      have: ∀w,Con4 mt jn c a w->InR n w:=fun w hw=>by
       induction hw with
       |refl=>exact ir a ha
       |mate _ ih2=>exact hi.mr _ ih2
       |join _ _ ih2=>exact hi.jr _ ih2
       |any h hy' hz' ih2=>unfold InR at*;omega
      exact this u h
     obtain ⟨_,e⟩:=ih hu
     refine ⟨hr,?_⟩
     unfold InR at hu hr
     rw [←e]
     exact (stC u.toNat (jn u).toNat (by omega) (by omega) (by rw [show ((u.toNat:Nat):Int)=u by omega,show (((jn u).toNat:Nat):Int)=jn u by omega];exact .join (.refl _))).symm
   | @any u v h hu4 hv4 ih=>
     intro hr
     have hu:InR n u:=by unfold InR;omega
     obtain ⟨_,e⟩:=ih hu
     refine ⟨hr,?_⟩
     unfold InR at hu hr
     rw [←e,four v.toNat (by omega) (by omega),four u.toNat (by omega) (by omega)]
  have:=(key b h (ir b hb)).2
  rw [Int.toNat_natCast] at this
  exact this.symm
end
def pr3:Nat->Int->Int
 |0,x=>jnB false x
 |1,x=>jnB true x
 |_,x=>x-x % 4+(x % 4+2)% 4
theorem yci (c:Int):pr3 0 (4*c)=4*c+1/\pr3 0 (4*c+1)=4*c/\pr3 0 (4*c+2)=4*c+3/\pr3 0 (4*c+3)=4*c+2/\
  pr3 1 (4*c)=4*c+3/\pr3 1 (4*c+1)=4*c+2/\pr3 1 (4*c+2)=4*c+1/\pr3 1 (4*c+3)=4*c/\
  pr3 2 (4*c)=4*c+2/\pr3 2 (4*c+1)=4*c+3/\pr3 2 (4*c+2)=4*c/\pr3 2 (4*c+3)=4*c+1:=by
 have o: ∀x:Int,x % 2=1->jnB true x=x-x % 4+(x % 4+5)% 4/\jnB false x=x-x % 4+(x % 4+3)% 4:=fun x h=>by
  unfold jnB;rw [yd1,ycn,decide_eq_true h];exact ⟨if_pos rfl,if_neg (by simp)⟩
 have e: ∀x:Int,¬x % 2=1->jnB true x=x-x % 4+(x % 4+3)% 4/\jnB false x=x-x % 4+(x % 4+5)% 4:=fun x h=>by
  unfold jnB;rw [yd1,ycn,decide_eq_false h];exact ⟨if_neg (by simp),if_pos rfl⟩
 simp only [pr3]
 rw [(e _ (by omega)).1,(o _ (by omega)).1,(e _ (by omega)).1,(o _ (by omega)).1,(e _ (by omega)).2,(o _ (by omega)).2,(e _ (by omega)).2,(o _ (by omega)).2]
 omega
theorem ye6 (t:Nat) (x:Int):pr3 t x/4=x/4:=by
 unfold pr3
 split
 ·exact yf9 _ _
 ·exact yf9 _ _
 ·omega
theorem yk7: ∀(t:Nat) (x:Int),pr3 t (pr3 t x)=x
 |0,x=>yk3 _ _
 |1,x=>yk3 _ _
 |t+2,x=>by simp only [pr3];omega
theorem y1s (t:Nat) (x:Int):pr3 t x≠x:=by
 unfold pr3
 split
 ·exact ynq _ _
 ·exact ynq _ _
 ·omega
def st3 (s:Nat->Nat) (x:Int):Int:=pr3 (s (x/4).toNat) x
theorem ydt {n:Nat} {m:List Int} (hp:ybt m n) (hmm: ∀x:Nat,x<4*n->m.getD (m.getD x 0).toNat 0=x) (hmf: ∀x:Nat,x<4*n->m.getD x 0≠x) (s:Nat->Nat):Inv2 n (fun x=>m.getD x.toNat 0) (st3 s):=by
 have h:=yia hp hmm hmf (fun _=>false)
 refine ⟨h.mr,fun x hx=>?_,h.mm,fun x hx=>?_,h.mf,fun x _=>y1s _ _⟩
 ·have:=ye6 (s (x/4).toNat) x
  unfold InR st3 at*;omega
 ·unfold st3;rw [ye6,yk7]
theorem yxv (s:Nat->Nat):JnC (st3 s):=fun x=>ye6 _ _
def cir3 (m:List Int) (n:Nat) (s:Nat->Nat):Nat:=roots (crN (fun x=>m.getD x.toNat 0) (st3 s) (4*n) (4*n))
theorem yk8 (n:Nat) {mt jn:Int->Int} {R:List Int} (hR:CirR n mt jn R) (hn:0<n):1<=roots R:=by
 have h1:=hR.rep.rng 0 (by omega)
 have h2:=hR.rep.idem 0 (by omega)
 unfold roots
 have:0<(List.range R.length).countP fun x=>R.getD x 0==(x:Int):=by
  rw [List.countP_pos_iff]
  exact ⟨(R.getD 0 0).toNat,List.mem_range.2 (by rw [hR.rep.len];omega),by simp only [beq_iff_eq];omega⟩
 omega
theorem yn0 {n:Nat} {mt:Int->Int} {j:Nat->Int->Int} {c:Nat} (hc:c<n) (hi: ∀t,t<3->Inv2 n mt (j t)) (hj: ∀t,t<3->JnC (j t)) (hat: ∀t,t<3-> ∀x:Int,x/4=c->j t x=pr3 t x) (hoff: ∀t,t<3-> ∀x:Int,0<=x->x/4≠c->j t x=j 0 x)
  {R:Nat->List Int} (hR: ∀t,t<3->CirR n mt (j t) (R t)): ∃K t0,t0<3/\(∀t,t<3->roots (R t)=if t=t0 then K+1 else K)/\ ∀t,t<3->t≠t0-> ∀y:Nat,y<4*n->y/4=c->(R t).getD (4*c) 0=(R t).getD y 0:=by
 obtain ⟨e,O,hw,hreach⟩:=way (c:=c) (hi 0 (by omega)) (hj 0 (by omega)) (x:=4*c) (by unfold InR;omega) (by omega)
 have V:=yci c
 have eC:=hw.eC
 have eN:=hw.ne
 have eR:=hw.rng e hw.inE
 obtain ⟨t0,ht0,hte⟩: ∃t0,t0<3/\pr3 t0 (4*c)=e:=by
  rcases (show e=4*c+1\/e=4*c+2\/e=4*c+3 by omega) with h|h|h
  ·exact ⟨0,by omega,by omega⟩
  ·exact ⟨2,by omega,by omega⟩
  ·exact ⟨1,by omega,by omega⟩
 have all4: ∀t,t<3-> ∀y:Int,y/4=c->y≠4*c->y≠j t (4*c)-> ∀z:Int,z/4=c->z=4*c\/z=j t (4*c)\/z=y\/z=j t y:=fun t ht y hy h1 h2 z hz=>by
  rw [hat t ht _ (by omega)] at h2⊢
  rw [hat t ht y hy]
  rcases (show y=4*c+1\/y=4*c+2\/y=4*c+3 by omega) with rfl|rfl|rfl<;>
  rcases (show z=4*c\/z=4*c+1\/z=4*c+2\/z=4*c+3 by omega) with rfl|rfl|rfl|rfl<;>
  rcases (show t=0\/t=1\/t=2 by omega) with rfl|rfl|rfl<;>omega
 have rngC: ∀t,t<3-> ∀a b,InR n a->Con4 mt (j t) c a b->InR n b:=fun t ht a b ha h=>by
  induction h with
  |refl=>exact ha
  |mate _ ih=>exact (hi t ht).mr _ ih
  |join _ _ ih=>exact (hi t ht).jr _ ih
  |any _ hy hz ih=>unfold InR at*;omega
 have conEq: ∀t,t<3-> ∀a b,InR n a->(Con4 mt (j t) c a b↔Con4 mt (j 0) c a b):=fun t ht a b ha=>by
  constructor
  ·intro h
   induction h with
   |refl=>exact .refl _
   |mate _ ih=>exact .mate ih
   |join h hy ih=>rw [hoff t ht _ (rngC t ht _ _ ha h).1 hy];exact .join ih hy
   |any _ hy hz ih=>exact .any ih hy hz
  ·intro h
   induction h with
   |refl=>exact .refl _
   |mate _ ih=>exact .mate ih
   |join h hy ih=>rw [←hoff t ht _ (rngC 0 (by omega) _ _ ha h).1 hy];exact .join ih hy
   |any _ hy hz ih=>exact .any ih hy hz
 have J: ∀t,t<3-> ∃y:Nat,y<4*n/\y/4=c/\(y:Int)≠4*c/\(y:Int)≠j t (4*c)/\(t≠t0->(y:Int)=e):=fun t ht=>by
  by_cases h:t=t0
  ·subst h
   have h1:=hat t ht (4*c) (by omega)
   by_cases h2:j t (4*c)=4*c+1
   ·exact ⟨4*c+2,by omega,by omega,by omega,by omega,fun h=>absurd rfl h⟩
   ·exact ⟨4*c+1,by omega,by omega,by omega,by omega,fun h=>absurd rfl h⟩
  ·unfold InR at eR
   refine ⟨e.toNat,by omega,by omega,by omega,?_,fun _=>by omega⟩
   rw [hat t ht _ (by omega),show ((e.toNat:Nat):Int)=e by omega,←hte]
   rcases (show t=0\/t=1\/t=2 by omega) with rfl|rfl|rfl<;>
   rcases (show t0=0\/t0=1\/t0=2 by omega) with rfl|rfl|rfl<;>omega
 have hxN:4*c<4*n:=by omega
 have xcast:((4*c:Nat):Int)=4*(c:Int):=by omega
 obtain ⟨y0,hy0,hy1,hy2,hy3,hy4⟩:=J t0 ht0
 obtain ⟨K,hK⟩: ∃K,roots (yaj (R t0) (4*c) y0)=K:=⟨_,rfl⟩
 have same: ∀t,t<3-> ∀y:Nat,y<4*n->y/4=c->(y:Int)≠4*c->(y:Int)≠j t (4*c)->roots (yaj (R t) (4*c) y)=K:=fun t ht y h1 h2 h3 h4=>by
  rw [←hK]
  have A:=ynz (c:=c) (hi t ht) (hj t ht) (hR t ht) (x:=4*c) hxN h1 (by omega) h2 (by rw [xcast];exact all4 t ht y (by omega) h3 h4)
  have B:=ynz (c:=c) (hi t0 ht0) (hj t0 ht0) (hR t0 ht0) (x:=4*c) hxN hy0 (by omega) hy1 (by rw [xcast];exact all4 t0 ht0 y0 (by omega) hy2 hy3)
  have AB: ∀a b:Nat,a<4*n->b<4*n->((yaj (R t) (4*c) y).getD a 0=(yaj (R t) (4*c) y).getD b 0↔(yaj (R t0) (4*c) y0).getD a 0=(yaj (R t0) (4*c) y0).getD b 0):=fun a b ha hb=>by
   have ia:InR n (a:Int):=by unfold InR;omega
   rw [A.2 a b ha hb,B.2 a b ha hb,conEq t ht _ _ ia,conEq t0 ht0 _ _ ia]
  exact Nat.le_antisymm (yg1 B.1 A.1 fun a b ha hb=>(AB a b ha hb).symm) (yg1 A.1 B.1 AB)
 have on: ∀t,t<3->t≠t0-> ∀y:Nat,y<4*n->y/4=c->(R t).getD (4*c) 0=(R t).getD y 0:=fun t ht h y hy hyc=>by
  obtain ⟨w,h1,h2,h3,h4,h5⟩:=J t ht
  have e0:(R t).getD (4*c) 0=(R t).getD w 0:=((hR t ht).iff _ _ hxN h1).2 (by
   rw [xcast,h5 h];exact hreach (j t) (fun z h0 hz=>hoff t ht z h0 hz) e hw.inE)
  rcases all4 t ht w (by omega) h3 h4 y (by omega) with h6|h6|h6|h6
  ·rw [show y=4*c by omega]
  ·exact ((hR t ht).iff _ _ hxN hy).2 (by rw [xcast,h6];exact .join (.refl _))
  ·rw [e0,show y=w by omega]
  ·rw [e0];exact ((hR t ht).iff _ _ h1 hy).2 (by rw [h6];exact .join (.refl _))
 refine ⟨K,t0,ht0,fun t ht=>?_,on⟩
 by_cases h:t=t0
 ·rw [if_pos h]
  subst h
  rw [←hK]
  refine yi2 (hR t ht).rep hxN hy0 fun e1=>?_
  have hc1:=((hR t ht).iff _ _ hxN hy0).1 e1
  rw [xcast] at hc1
  have inO: ∀z,Cir mt (j t) (4*c) z->O z:=fun z hz=>by
   induction hz with
   |refl=>exact hw.inX
   |mate _ ih=>exact hw.mate _ ih
   | @join u _ ih=>
     by_cases hu:u/4=c
     ·rw [hat t ht u hu]
      rcases hw.ends u ih hu with rfl|rfl
      ·rw [hte];exact hw.inE
      ·rw [←hte,yk7];exact hw.inX
     ·rw [hoff t ht u (hw.rng u ih).1 hu];exact hw.join u ih hu
  rcases hw.ends _ (inO _ hc1) (by omega) with h5|h5
  ·exact hy2 h5
  ·rw [hat t ht _ (by omega),hte] at hy3;exact hy3 h5
 ·rw [if_neg h]
  obtain ⟨y,h1,h2,h3,h4,h5⟩:=J t ht
  rw [←same t ht y h1 h2 h3 h4]
  have:(R t).getD (4*c) 0=(R t).getD y 0:=((hR t ht).iff _ _ hxN h1).2 (by
   rw [xcast,h5 h];exact hreach (j t) (fun z h0 hz=>hoff t ht z h0 hz) e hw.inE)
  unfold yaj;rw [if_pos this]
theorem y25 {n:Nat} {mt:Int->Int} {j:Nat->Int->Int} {c:Nat} (hc:c<n) (hi: ∀t,t<3->Inv2 n mt (j t)) (hj: ∀t,t<3->JnC (j t)) (hat: ∀t,t<3-> ∀x:Int,x/4=c->j t x=pr3 t x) (hoff: ∀t,t<3-> ∀x:Int,0<=x->x/4≠c->j t x=j 0 x)
  {R:Nat->List Int} (hR: ∀t,t<3->CirR n mt (j t) (R t)): ∃K t0,t0<3/\ ∀t,t<3->roots (R t)=if t=t0 then K+1 else K:=by
 obtain ⟨K,t0,h1,h2,_⟩:=yn0 hc hi hj hat hoff hR
 exact ⟨K,t0,h1,h2⟩
end Go.Proofs.YtngegnonblbdhaaDoor
