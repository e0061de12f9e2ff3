/- Plain: sums over a range; the numbers of circles of neighbouring states. -/
import Derived.Test.YtphjphpmfflfpaaGreatDoorZc
import Derived.Test.YtphjphpmfflfpaaGreatDoorZb
namespace Go.Proofs.YtphjphpmfflfpaaGreatDoor
set_option linter.unusedSimpArgs false
set_option linter.unusedVariables false
def sm (f:Nat->Int):Nat->Int
 |0=>0
 |n+1=>sm f n+f n
theorem dO {f g:Nat->Int}: ∀{n:Nat},(∀x,x<n->f x=g x)->sm f n=sm g n
 |0,_=>rfl
 |n+1,h=>by simp only [sm];rw [dO fun x hx=>h x (by omega),h n (by omega)]
theorem nH (f g:Nat->Int): ∀n,sm (fun x=>f x+g x) n=sm f n+sm g n
 |0=>rfl
 |n+1=>by simp only [sm];rw [nH f g n];omega
theorem sz (c:Int) (f:Nat->Int): ∀n,sm (fun x=>c*f x) n=c*sm f n
 |0=>by simp [sm]
 |n+1=>by simp only [sm];rw [sz c f n,Int.mul_add]
theorem k8 (c:Int): ∀n:Nat,sm (fun _=>c) n=c*n
 |0=>by simp [sm]
 |n+1=>by simp only [sm];rw [k8 c n,Int.natCast_add,Int.mul_add];simp
theorem ON {f g:Nat->Int}: ∀{n:Nat},(∀x,x<n->f x<=g x)->sm f n<=sm g n
 |0,_=>Int.le_refl _
 |n+1,h=>by
  simp only [sm]
  have:=ON (n:=n) fun x hx=>h x (by omega)
  have:=h n (by omega)
  omega
theorem Dn (f:Nat->Int) (a:Nat): ∀b,sm f (a+b)=sm f a+sm (fun x=>f (a+x)) b
 |0=>by simp [sm]
 |b+1=>by rw [←Nat.add_assoc];simp only [sm];rw [Dn f a b];omega
theorem GP (f:Nat->Int): ∀n,sm f n=((List.range n).map f).sum
 |0=>rfl
 |n+1=>by rw [List.range_succ,List.map_append,List.sum_append_int,←GP f n];simp [sm]
theorem KX {l k:List Int} (h:l.Perm k):l.sum=k.sum:=by
 induction h with
 |nil=>rfl
 |cons x _ ih=>simp only [List.sum_cons,ih]
 |swap x y l=>simp only [List.sum_cons];omega
 |trans _ _ h1 h2=>rw [h1,h2]
theorem HT {l:List Nat} {f:Nat->Nat} (h: ∀x∈l,∀y∈l,f x=f y->x=y) (hn:l.Nodup):(l.map f).Nodup:=by
 rw [List.nodup_iff_pairwise_ne,List.pairwise_map];exact List.Pairwise.imp_of_mem (fun ha hb az e=>az (h _ ha _ hb e)) (List.nodup_iff_pairwise_ne.1 hn)
theorem xr (f:Nat->Int) {N:Nat} (g:Nat->Nat) (hr: ∀x,x<N->g x<N) (hi: ∀x y,x<N->y<N->g x=g y->x=y):sm (fun x=>f (g x)) N=sm f N:=by
 have hn:((List.range N).map g).Nodup:=HT (fun x hx y hy=>hi x y (List.mem_range.1 hx) (List.mem_range.1 hy)) List.nodup_range;have hp:((List.range N).map g).Perm (List.range N):=by
  have hle:=te (l:=List.range N) (k:=(List.range N).map g) List.nodup_range;refine (List.perm_ext_iff_of_nodup hn List.nodup_range).2 fun a=>⟨fun h=>?_,fun h=>?_⟩
  ·obtain ⟨x,hx,rfl⟩:=List.mem_map.1 h;exact List.mem_range.2 (hr x (List.mem_range.1 hx))
  ·by_cases hm:a∈(List.range N).map g
   ·exact hm
   ·exfalso;have h2:=te (l:=a::(List.range N).map g) (k:=List.range N) (List.nodup_cons.2 ⟨hm,hn⟩) (fun y hy=>by
     rcases List.mem_cons.1 hy with rfl|hy
     ·exact h
     ·obtain ⟨x,hx,rfl⟩:=List.mem_map.1 hy;exact List.mem_range.2 (hr x (List.mem_range.1 hx)))
    simp at h2;omega
 rw [GP,GP]
 have:=KX (hp.map f)
 rw [List.map_map] at this;exact this
theorem B1 (p:Nat->Bool): ∀n,((List.range n).countP p:Int)=sm (fun x=>if p x then 1 else 0) n
 |0=>rfl
 |n+1=>by
  rw [List.range_succ,List.countP_append,Int.natCast_add,B1 p n];simp only [sm,List.countP_cons,List.countP_nil]
  split<;>simp
theorem SL {n:Nat} {mt jn:Int->Int} {R:List Int} (hi:Inv2 n mt jn) (hR:dX n mt jn R):4*(roots R:Int)<=4*n+sm (fun x=>if mt x=jn x then 1 else 0) (4*n):=by
 let p:Nat->Int:=fun x=>if (R.getD x 0==(x:Int))=true then 1 else 0
 have pT:(roots R:Int)=sm p (4*n):=by
  unfold roots;rw [B1,hR.rep.len]
 have ir: ∀x:Nat,x<4*n->au n (x:Int):=fun x hx=>by unfold au;omega
 have mr: ∀x:Nat,x<4*n->(mt x).toNat<4*n/\((mt x).toNat:Int)=mt x:=fun x hx=>by have:=hi.mr x (ir x hx);unfold au at this;omega
 have jr: ∀x:Nat,x<4*n->(jn x).toNat<4*n/\((jn x).toNat:Int)=jn x:=fun x hx=>by have:=hi.jr x (ir x hx);unfold au at this;omega
 have s1:sm (fun x=>p (mt x).toNat) (4*n)=sm p (4*n):=xr p (fun x=>(mt x).toNat) (fun x hx=>(mr x hx).1) (fun x y hx hy e=>by
  have h1:=hi.mm x (ir x hx);have h2:=hi.mm y (ir y hy)
  have:=mr x hx
  have:=mr y hy
  rw [show mt x=mt y by omega,h2] at h1;omega)
 have s2:sm (fun x=>p (jn x).toNat) (4*n)=sm p (4*n):=xr p (fun x=>(jn x).toNat) (fun x hx=>(jr x hx).1) (fun x y hx hy e=>by
  have h1:=hi.jj x (ir x hx);have h2:=hi.jj y (ir y hy)
  have:=jr x hx
  have:=jr y hy
  rw [show jn x=jn y by omega,h2] at h1;omega)
 have s3:sm (fun x=>p (jn ((mt x).toNat:Int)).toNat) (4*n)=sm p (4*n):=by
  rw [←s2];exact xr (fun x=>p (jn x).toNat) (fun x=>(mt x).toNat) (fun x hx=>(mr x hx).1) (fun x y hx hy e=>by
   have h1:=hi.mm x (ir x hx);have h2:=hi.mm y (ir y hy)
   have:=mr x hx
   have:=mr y hy
   rw [show mt x=mt y by omega,h2] at h1;omega)
 have key:4*sm p (4*n)=sm (fun x=>p x+p (mt x).toNat+(p (jn x).toNat+p (jn ((mt x).toNat:Int)).toNat)) (4*n):=by
  rw [nH,nH,nH,s1,s2,s3];omega
 have H5: ∀x,p x=0\/p x=1:=fun x=>by show (if _ then _ else _)=_\/(if _ then _ else _)=_;split<;>simp
 have one: ∀x y:Nat,x<4*n->y<4*n->aL mt jn x y->x≠y->p x+p y<=1:=fun x y hx hy hc az=>by
  have e:=(hR.iff x y hx hy).2 hc;show (if _ then _ else _)+(if _ then _ else _)<=_;by_cases Ev:(R.getD x 0==(x:Int))=true
  ·have Pc: ¬(R.getD y 0==(y:Int))=true:=fun h=>by
    simp only [beq_iff_eq] at Ev h;omega
   rw [if_neg Pc];split<;>omega
  ·rw [if_neg Ev];split<;>omega
 have e1:sm (fun x=>p x+p (mt x).toNat+(p (jn x).toNat+p (jn ((mt x).toNat:Int)).toNat)) (4*n)<=sm (fun x=>1+(if mt x=jn x then 1 else 0)) (4*n):=by
  refine ON fun x hx=>?_;have hM:=mr x hx;have hJ:=jr x hx;have Ax:=jr (mt x).toNat hM.1;rw [hM.2] at Ax;simp only [hM.2];have cM:aL mt jn x (mt x):= .aH (.refl _);have cJ:aL mt jn x (jn x):= .join (.refl _);have Yd:aL mt jn x (jn (mt x)):= .join (.aH (.refl _));have nT:=ir x hx;have kB:=hi.mr _ nT;have nM:=hi.mf _ nT;have nJ:=hi.jf _ nT;have nJM:=hi.jf _ kB
  have a1:=one x (mt x).toNat hx hM.1 (by rw [hM.2];exact cM) (by omega);have a2:=one x (jn x).toNat hx hJ.1 (by rw [hJ.2];exact cJ) (by omega);by_cases e:mt x=jn x
  ·rw [if_pos e,show jn (mt x)=x by rw [e];exact hi.jj _ nT,Int.toNat_natCast,e];rw [e] at a1;omega
  ·rw [if_neg e];have n1:jn (mt x)≠x:=fun h=>e (by rw [←hi.jj _ kB,h]);have n2:jn (mt x)≠jn x:=fun h=>nM (by rw [←hi.jj _ kB,h,hi.jj _ nT]);have a3:=one x (jn (mt x)).toNat hx Ax.1 (by rw [Ax.2];exact Yd) (by omega);have sy:aL mt jn (mt x) (jn x):=(cM.symm hi nT).trans cJ;have a4:=one (mt x).toNat (jn x).toNat hM.1 hJ.1 (by rw [hM.2,hJ.2];exact sy) (by omega)
   have sy2:aL mt jn (mt x) (jn (mt x)):= .join (.refl _);have a5:=one (mt x).toNat (jn (mt x)).toNat hM.1 Ax.1 (by rw [hM.2,Ax.2];exact sy2) (by omega);have sy3:aL mt jn (jn x) (jn (mt x)):=(cJ.symm hi nT).trans Yd;have a6:=one (jn x).toNat (jn (mt x)).toNat hJ.1 Ax.1 (by rw [hJ.2,Ax.2];exact sy3) (by omega);have b1:=H5 x;have b2:=H5 (mt x).toNat;have b3:=H5 (jn x).toNat
   have b4:=H5 (jn (mt x)).toNat;omega
 have e2:=nH (fun _=>(1:Int)) (fun x:Nat=>if mt x=jn x then (1:Int) else 0) (4*n);rw [e2,k8,←key] at e1;rw [pT];omega
theorem Zi {n:Nat} {mt jn kn:Int->Int} {R S:List Int} (hi:Inv2 n mt jn) (hj:Inv2 n mt kn) (hR:dX n mt jn R) (hS:dX n mt kn S) (az: ∀x,au n x->jn x≠kn x):roots R+roots S<=3*n:=by
 have h1:=SL hi hR;have h2:=SL hj hS;have h3:sm (fun x=>if mt x=jn x then 1 else 0) (4*n)+sm (fun x=>if mt x=kn x then 1 else 0) (4*n)<=sm (fun _=>1) (4*n):=by
  rw [←nH];refine ON fun x hx=>?_
  have:=az x (by unfold au;omega)
  by_cases e1:mt x=jn x
  ·rw [if_pos e1,if_neg (by omega)];omega
  ·rw [if_neg e1];split<;>omega
 rw [k8] at h3;omega
inductive eJ (mt jn:Int->Int) (c:Int):Int->Int->Prop
 |refl (x:Int):eJ mt jn c x x
 |aH {x y:Int} (h:eJ mt jn c x y):eJ mt jn c x (mt y)
 |join {x y:Int} (h:eJ mt jn c x y) (hy:y/4≠c):eJ mt jn c x (jn y)
 |any {x y z:Int} (h:eJ mt jn c x y) (hy:y/4=c) (hz:z/4=c):eJ mt jn c x z
theorem eJ.trans {mt jn:Int->Int} {c x y z:Int} (h1:eJ mt jn c x y) (h2:eJ mt jn c y z):eJ mt jn c x z:=by
 induction h2 with
 |refl=>exact h1
 |aH _ ih=>exact .aH ih
 |join _ hy ih=>exact .join ih hy
 |any _ hy hz ih=>exact .any ih hy hz
structure Way (n:Nat) (mt jn:Int->Int) (c:Nat) (x e:Int) (O:Int->Prop):Prop where
 inX:O x
 inE:O e
 ne:e≠x
 eC:e/4=c
 ends: ∀y,O y->y/4=c->y=x\/y=e
 aH: ∀y,O y->O (mt y)
 join: ∀y,O y->y/4≠c->O (jn y)
 cn: ∀y,O y->au n y
section
variable {n:Nat} {mt jn:Int->Int} {c:Nat}
def I5 (jn:Int->Int):Prop:= ∀x,jn x/4=x/4
theorem way (hi:Inv2 n mt jn) (hj:I5 jn) {x:Int} (hx:au n x) (Et:x/4=c): ∃e O,Way n mt jn c x e O/\ ∀kn:Int->Int,(∀y:Int,0<=y->y/4≠c->kn y=jn y)-> ∀y,O y->aL mt kn x y:=by
 have hR: ∀j,au n (it (fun x=>jn (mt x)) j x):=fun j=>(uW hi).it hx j;obtain ⟨k,hk,lJ⟩:=(uW hi).Cc hx;have nU:=lJ.pos;have uh:=lJ.back;have ex: ∃j,mt (it (fun x=>jn (mt x)) j x)/4=c:=by
  refine ⟨k-1,?_⟩;have e:it (fun x=>jn (mt x)) ((k-1)+1) x=x:=by rw [show k-1+1=k by omega];exact uh
  have e2:jn (mt (it (fun x=>jn (mt x)) (k-1) x))=x:=e;rw [←hj,e2,Et]
 have AW: ∀b,(∃j,j<=b/\mt (it (fun x=>jn (mt x)) j x)/4=c)-> ∃j,mt (it (fun x=>jn (mt x)) j x)/4=c/\ ∀i,i<j->mt (it (fun x=>jn (mt x)) i x)/4≠c:=by
  intro b
  induction b with
  |zero=>rintro ⟨j,hj,h⟩;obtain rfl:j=0:=by omega
         exact ⟨0,h,fun i hi=>by omega⟩
  |succ b ih=>
   rintro ⟨j,hj,h⟩;by_cases hq: ∃j,j<=b/\mt (it (fun x=>jn (mt x)) j x)/4=c
   ·exact ih hq
   ·refine ⟨j,h,fun i hi hc=>hq ⟨i,by omega,hc⟩⟩
 obtain ⟨j0,h0⟩:=ex;obtain ⟨j,tP,cO⟩:=AW j0 ⟨j0,Nat.le_refl _,h0⟩;have succ: ∀i,it (fun x=>jn (mt x)) (i+1) x=jn (mt (it (fun x=>jn (mt x)) i x)):=fun i=>rfl;have off: ∀i,0<i->i<=j->it (fun x=>jn (mt x)) i x/4≠c:=fun i h1 h2=>by
  obtain ⟨i,rfl⟩: ∃i',i=i'+1:=⟨i-1,by omega⟩;rw [succ,hj];exact cO i (by omega)
 refine ⟨mt (it (fun x=>jn (mt x)) j x),fun y=> ∃i,i<=j/\(y=it (fun x=>jn (mt x)) i x\/y=mt (it (fun x=>jn (mt x)) i x)),⟨⟨0,by omega, .inl rfl⟩,⟨j,Nat.le_refl _, .inr rfl⟩,?_,tP,?_,?_,?_,?_⟩,?_⟩
 ·exact fun e=>(K8 hi hx j 0 j (by omega)).2 e.symm
 ·rintro y ⟨i,eK,rfl|rfl⟩ Cg
  ·by_cases tT:i=0
   ·subst tT;exact .inl rfl
   ·exact absurd Cg (off i (by omega) eK)
  ·by_cases tT:i=j
   ·subst tT;exact .inr rfl
   ·exact absurd Cg (cO i (by omega))
 ·rintro y ⟨i,eK,rfl|rfl⟩
  ·exact ⟨i,eK, .inr rfl⟩
  ·exact ⟨i,eK, .inl (hi.mm _ (hR i))⟩
 ·rintro y ⟨i,eK,rfl|rfl⟩ Cg
  ·by_cases tT:i=0
   ·subst tT;exact absurd Et Cg
   ·obtain ⟨i,rfl⟩: ∃i',i=i'+1:=⟨i-1,by omega⟩;exact ⟨i,by omega, .inr (by rw [succ,hi.jj _ (hi.mr _ (hR i))])⟩
  ·by_cases tT:i=j
   ·subst tT;exact absurd tP Cg
   ·exact ⟨i+1,by omega, .inl rfl⟩
 ·rintro y ⟨i,eK,rfl|rfl⟩
  ·exact hR i
  ·exact hi.mr _ (hR i)
 ·intro kn wJ y hy;have hc: ∀i,i<=j->aL mt kn x (it (fun x=>jn (mt x)) i x):=by
   intro i
   induction i with
   |zero=>intro _;exact .refl _
   |succ i ih=>
    intro eK;rw [succ,←wJ _ (by have:=hi.mr _ (hR i);unfold au at this;exact this.1) (cO i (by omega))];exact .join (.aH (ih (by omega)))
  obtain ⟨i,eK,rfl|rfl⟩:=hy
  ·exact hc i eK
  ·exact .aH (hc i eK)
theorem SK (hi:Inv2 n mt jn) (hj:I5 jn) {R:List Int} (hR:dX n mt jn R) {x y:Nat} (hx:x<4*n) (hy:y<4*n) (Et:x/4=c) (Cg:y/4=c)
  (cE: ∀z:Int,z/4=c->z=x\/z=jn x\/z=y\/z=jn y):
  gG (eg R x y) (4*n)/\ ∀a b:Nat,a<4*n->b<4*n->((eg R x y).getD a 0=(eg R x y).getD b 0↔eJ mt jn c a b):=by
 have hl:=hR.rep.len;have ir: ∀x:Nat,x<4*n->au n (x:Int):=fun x hx=>by unfold au;omega
 have B7: ∀{a b:Int},aL mt jn a b->eJ mt jn c a b:=fun h=>by
  induction h with
  |refl=>exact .refl _
  |aH _ ih=>exact .aH ih
  | @join z _ ih=>
    by_cases hz:z/4=c
    ·exact .any ih hz (by rw [hj];exact hz)
    ·exact .join ih hz
 have xy:eJ mt jn c x y:= .any (.refl _) (by omega) (by omega);have yx:eJ mt jn c y x:= .any (.refl _) (by omega) (by omega);refine ⟨BU hR.rep hx hy,fun a b ha hb=>⟨fun e=>?_,fun h=>?_⟩⟩
 ·rw [n7 hl ha,n7 hl hb] at e;by_cases c1:R.getD a 0=R.getD x 0
  ·rw [if_pos c1] at e;by_cases c2:R.getD b 0=R.getD x 0
   ·exact B7 ((hR.iff a b ha hb).1 (c1.trans c2.symm))
   ·rw [if_neg c2] at e;exact ((B7 ((hR.iff a x ha hx).1 c1)).trans xy).trans (B7 ((hR.iff y b hy hb).1 e))
  ·rw [if_neg c1] at e;by_cases c2:R.getD b 0=R.getD x 0
   ·rw [if_pos c2] at e;exact ((B7 ((hR.iff a y ha hy).1 e)).trans yx).trans (B7 ((hR.iff x b hx hb).1 c2.symm))
   ·rw [if_neg c2] at e;exact B7 ((hR.iff a b ha hb).1 e)
 ·have cx:(eg R x y).getD x 0=(eg R x y).getD y 0:=Dy hl hx hy;have HY: ∀u v:Nat,u<4*n->v<4*n->aL mt jn u v->(eg R x y).getD u 0=(eg R x y).getD v 0:=fun u v hu hv h=>pI hl hu hv ((hR.iff u v hu hv).2 h);have jx:=hi.jr _ (ir x hx);have jy:=hi.jr _ (ir y hy);have four: ∀z:Nat,z<4*n->z/4=c->(eg R x y).getD z 0=(eg R x y).getD x 0:=fun z hz hzc=>by
   rcases cE z (by omega) with h|h|h|h
   ·rw [show z=x by omega]
   ·exact (HY x z hx hz (by rw [h];exact .join (.refl _))).symm
   ·rw [show z=y by omega];exact cx.symm
   ·rw [cx];exact (HY y z hy hz (by rw [h];exact .join (.refl _))).symm
  have key: ∀z,eJ mt jn c a z->au n z->au n z/\(eg R x y).getD z.toNat 0=(eg R x y).getD a 0:=by
   intro z hz
   induction hz with
   |refl=>exact fun h=>⟨h,by rw [Int.toNat_natCast]⟩
   | @aH u h ih=>
     intro hr;have hu:au n u:=by
      have: ∀w,eJ mt jn c a w->au n w:=fun w hw=>by
       induction hw with
       |refl=>exact ir a ha
       |aH _ ih2=>exact hi.mr _ ih2
       |join _ _ ih2=>exact hi.jr _ ih2
       |any h Ep wy ih2=>unfold au at*;omega
      exact this u h
     obtain ⟨_,e⟩:=ih hu;refine ⟨hr,?_⟩;unfold au at hu hr;rw [←e];exact (HY u.toNat (mt u).toNat (by omega) (by omega) (by rw [show ((u.toNat:Nat):Int)=u by omega,show (((mt u).toNat:Nat):Int)=mt u by omega];exact .aH (.refl _))).symm
   | @join u h hu4 ih=>
     intro hr;have hu:au n u:=by
      have: ∀w,eJ mt jn c a w->au n w:=fun w hw=>by
       induction hw with
       |refl=>exact ir a ha
       |aH _ ih2=>exact hi.mr _ ih2
       |join _ _ ih2=>exact hi.jr _ ih2
       |any h Ep wy ih2=>unfold au at*;omega
      exact this u h
     obtain ⟨_,e⟩:=ih hu;refine ⟨hr,?_⟩;unfold au at hu hr;rw [←e];exact (HY u.toNat (jn u).toNat (by omega) (by omega) (by rw [show ((u.toNat:Nat):Int)=u by omega,show (((jn u).toNat:Nat):Int)=jn u by omega];exact .join (.refl _))).symm
   | @any u v h hu4 Cj ih=>
     intro hr;have hu:au n u:=by unfold au;omega
     obtain ⟨_,e⟩:=ih hu;refine ⟨hr,?_⟩;unfold au at hu hr;rw [←e,four v.toNat (by omega) (by omega),four u.toNat (by omega) (by omega)]
  have:=(key b h (ir b hb)).2
  rw [Int.toNat_natCast] at this;exact this.symm
end
def pr3:Nat->Int->Int
 |0,x=>bd false x
 |1,x=>bd true x
 |_,x=>x-x % 4+(x % 4+2)% 4
theorem Dm (c:Int):pr3 0 (4*c)=4*c+1/\pr3 0 (4*c+1)=4*c/\pr3 0 (4*c+2)=4*c+3/\pr3 0 (4*c+3)=4*c+2/\
  pr3 1 (4*c)=4*c+3/\pr3 1 (4*c+1)=4*c+2/\pr3 1 (4*c+2)=4*c+1/\pr3 1 (4*c+3)=4*c/\
  pr3 2 (4*c)=4*c+2/\pr3 2 (4*c+1)=4*c+3/\pr3 2 (4*c+2)=4*c/\pr3 2 (4*c+3)=4*c+1:=by
 have o: ∀x:Int,x % 2=1->bd true x=x-x % 4+(x % 4+5)% 4/\bd false x=x-x % 4+(x % 4+3)% 4:=fun x h=>by
  unfold bd;rw [qo,pD,decide_eq_true h];exact ⟨if_pos rfl,if_neg (by simp)⟩
 have e: ∀x:Int,¬x % 2=1->bd true x=x-x % 4+(x % 4+3)% 4/\bd false x=x-x % 4+(x % 4+5)% 4:=fun x h=>by
  unfold bd;rw [qo,pD,decide_eq_false h];exact ⟨if_neg (by simp),if_pos rfl⟩
 simp only [pr3];rw [(e _ (by omega)).1,(o _ (by omega)).1,(e _ (by omega)).1,(o _ (by omega)).1,(e _ (by omega)).2,(o _ (by omega)).2,(e _ (by omega)).2,(o _ (by omega)).2];omega
theorem BD (t:Nat) (x:Int):pr3 t x/4=x/4:=by
 unfold pr3
 split
 ·exact xl _ _
 ·exact xl _ _
 ·omega
theorem Kc: ∀(t:Nat) (x:Int),pr3 t (pr3 t x)=x
 |0,x=>GU _ _
 |1,x=>GU _ _
 |t+2,x=>by simp only [pr3];omega
theorem MB (t:Nat) (x:Int):pr3 t x≠x:=by
 unfold pr3
 split
 ·exact Gm _ _
 ·exact Gm _ _
 ·omega
def dD (s:Nat->Nat) (x:Int):Int:=pr3 (s (x/4).toNat) x
theorem vP {n:Nat} {m:List Int} (hp:kh m n) (rO: ∀x:Nat,x<4*n->m.getD (m.getD x 0).toNat 0=x) (tM: ∀x:Nat,x<4*n->m.getD x 0≠x) (s:Nat->Nat):Inv2 n (fun x=>m.getD x.toNat 0) (dD s):=by
 have h:=l6 hp rO tM (fun _=>false);refine ⟨h.mr,fun x hx=>?_,h.mm,fun x hx=>?_,h.mf,fun x _=>MB _ _⟩
 ·have:=BD (s (x/4).toNat) x
  unfold au dD at*;omega
 ·unfold dD;rw [BD,Kc]
theorem DO (s:Nat->Nat):I5 (dD s):=fun x=>BD _ _
def dy (m:List Int) (n:Nat) (s:Nat->Nat):Nat:=roots (crN (fun x=>m.getD x.toNat 0) (dD s) (4*n) (4*n))
theorem Kb (n:Nat) {mt jn:Int->Int} {R:List Int} (hR:dX n mt jn R) (hn:0<n):1<=roots R:=by
 have h1:=hR.rep.cn 0 (by omega);have h2:=hR.rep.idem 0 (by omega);unfold roots
 have:0<(List.range R.length).countP fun x=>R.getD x 0==(x:Int):=by
  rw [List.countP_pos_iff];exact ⟨(R.getD 0 0).toNat,List.mem_range.2 (by rw [hR.rep.len];omega),by simp only [beq_iff_eq];omega⟩
 omega
theorem three {n:Nat} {mt:Int->Int} {j:Nat->Int->Int} {c:Nat} (hc:c<n) (hi: ∀t,t<3->Inv2 n mt (j t)) (hj: ∀t,t<3->I5 (j t)) (wW: ∀t,t<3-> ∀x:Int,x/4=c->j t x=pr3 t x) (fV: ∀t,t<3-> ∀x:Int,0<=x->x/4≠c->j t x=j 0 x)
  {R:Nat->List Int} (hR: ∀t,t<3->dX n mt (j t) (R t)): ∃K t0,t0<3/\ ∀t,t<3->roots (R t)=if t=t0 then K+1 else K:=by
 obtain ⟨e,O,hw,zS⟩:=way (c:=c) (hi 0 (by omega)) (hj 0 (by omega)) (x:=4*c) (by unfold au;omega) (by omega);have V:=Dm c;have eC:=hw.eC;have eN:=hw.ne;have eR:=hw.cn e hw.inE;obtain ⟨t0,vm,Ij⟩: ∃t0,t0<3/\pr3 t0 (4*c)=e:=by
  rcases (show e=4*c+1\/e=4*c+2\/e=4*c+3 by omega) with h|h|h
  ·exact ⟨0,by omega,by omega⟩
  ·exact ⟨2,by omega,by omega⟩
  ·exact ⟨1,by omega,by omega⟩
 have FU: ∀t,t<3-> ∀y:Int,y/4=c->y≠4*c->y≠j t (4*c)-> ∀z:Int,z/4=c->z=4*c\/z=j t (4*c)\/z=y\/z=j t y:=fun t ht y hy h1 h2 z hz=>by
  rw [wW t ht _ (by omega)] at h2⊢;rw [wW t ht y hy];rcases (show y=4*c+1\/y=4*c+2\/y=4*c+3 by omega) with rfl|rfl|rfl<;>
  rcases (show z=4*c\/z=4*c+1\/z=4*c+2\/z=4*c+3 by omega) with rfl|rfl|rfl|rfl<;>
  rcases (show t=0\/t=1\/t=2 by omega) with rfl|rfl|rfl<;>omega
 have DV: ∀t,t<3-> ∀a b,au n a->eJ mt (j t) c a b->au n b:=fun t ht a b ha h=>by
  induction h with
  |refl=>exact ha
  |aH _ ih=>exact (hi t ht).mr _ ih
  |join _ _ ih=>exact (hi t ht).jr _ ih
  |any _ hy hz ih=>unfold au at*;omega
 have yJ: ∀t,t<3-> ∀a b,au n a->(eJ mt (j t) c a b↔eJ mt (j 0) c a b):=fun t ht a b ha=>by
  constructor
  ·intro h
   induction h with
   |refl=>exact .refl _
   |aH _ ih=>exact .aH ih
   |join h hy ih=>rw [fV t ht _ (DV t ht _ _ ha h).1 hy];exact .join ih hy
   |any _ hy hz ih=>exact .any ih hy hz
  ·intro h
   induction h with
   |refl=>exact .refl _
   |aH _ ih=>exact .aH ih
   |join h hy ih=>rw [←fV t ht _ (DV 0 (by omega) _ _ ha h).1 hy];exact .join ih hy
   |any _ hy hz ih=>exact .any ih hy hz
 have J: ∀t,t<3-> ∃y:Nat,y<4*n/\y/4=c/\(y:Int)≠4*c/\(y:Int)≠j t (4*c)/\(t≠t0->(y:Int)=e):=fun t ht=>by
  by_cases h:t=t0
  ·subst h;have h1:=wW t ht (4*c) (by omega);by_cases h2:j t (4*c)=4*c+1
   ·exact ⟨4*c+2,by omega,by omega,by omega,by omega,fun h=>absurd rfl h⟩
   ·exact ⟨4*c+1,by omega,by omega,by omega,by omega,fun h=>absurd rfl h⟩
  ·unfold au at eR;refine ⟨e.toNat,by omega,by omega,by omega,?_,fun _=>by omega⟩;rw [wW t ht _ (by omega),show ((e.toNat:Nat):Int)=e by omega,←Ij];rcases (show t=0\/t=1\/t=2 by omega) with rfl|rfl|rfl<;>
   rcases (show t0=0\/t0=1\/t0=2 by omega) with rfl|rfl|rfl<;>omega
 have Eu:4*c<4*n:=by omega
 have qw:((4*c:Nat):Int)=4*(c:Int):=by omega
 obtain ⟨y0,Pd,Pc,Ic,Pb,hy4⟩:=J t0 vm;obtain ⟨K,hK⟩: ∃K,roots (eg (R t0) (4*c) y0)=K:=⟨_,rfl⟩;have same: ∀t,t<3-> ∀y:Nat,y<4*n->y/4=c->(y:Int)≠4*c->(y:Int)≠j t (4*c)->roots (eg (R t) (4*c) y)=K:=fun t ht y h1 h2 h3 h4=>by
  rw [←hK];have A:=SK (c:=c) (hi t ht) (hj t ht) (hR t ht) (x:=4*c) Eu h1 (by omega) h2 (by rw [qw];exact FU t ht y (by omega) h3 h4);have B:=SK (c:=c) (hi t0 vm) (hj t0 vm) (hR t0 vm) (x:=4*c) Eu Pd (by omega) Pc (by rw [qw];exact FU t0 vm y0 (by omega) Ic Pb)
  have AB: ∀a b:Nat,a<4*n->b<4*n->((eg (R t) (4*c) y).getD a 0=(eg (R t) (4*c) y).getD b 0↔(eg (R t0) (4*c) y0).getD a 0=(eg (R t0) (4*c) y0).getD b 0):=fun a b ha hb=>by
   have ia:au n (a:Int):=by unfold au;omega
   rw [A.2 a b ha hb,B.2 a b ha hb,yJ t ht _ _ ia,yJ t0 vm _ _ ia]
  exact Nat.le_antisymm (Hk B.1 A.1 fun a b ha hb=>(AB a b ha hb).symm) (Hk A.1 B.1 AB)
 refine ⟨K,t0,vm,fun t ht=>?_⟩;by_cases h:t=t0
 ·rw [if_pos h];subst h;rw [←hK];refine LG (hR t ht).rep Eu Pd fun e1=>?_;have iA:=((hR t ht).iff _ _ Eu Pd).1 e1;rw [qw] at iA;have inO: ∀z,aL mt (j t) (4*c) z->O z:=fun z hz=>by
   induction hz with
   |refl=>exact hw.inX
   |aH _ ih=>exact hw.aH _ ih
   | @join u _ ih=>
     by_cases hu:u/4=c
     ·rw [wW t ht u hu];rcases hw.ends u ih hu with rfl|rfl
      ·rw [Ij];exact hw.inE
      ·rw [←Ij,Kc];exact hw.inX
     ·rw [fV t ht u (hw.cn u ih).1 hu];exact hw.join u ih hu
  rcases hw.ends _ (inO _ iA) (by omega) with h5|h5
  ·exact Ic h5
  ·rw [wW t ht _ (by omega),Ij] at Pb;exact Pb h5
 ·rw [if_neg h];obtain ⟨y,h1,h2,h3,h4,h5⟩:=J t ht;rw [←same t ht y h1 h2 h3 h4]
  have:(R t).getD (4*c) 0=(R t).getD y 0:=((hR t ht).iff _ _ Eu h1).2 (by
   rw [qw,h5 h];exact zS (j t) (fun z h0 hz=>fV t ht z h0 hz) e hw.inE)
  unfold eg;rw [if_pos this]
end Go.Proofs.YtphjphpmfflfpaaGreatDoor
set_option linter.unusedSimpArgs false
set_option linter.unusedVariables false
namespace Go.Proofs.YtphjphpmfflfpaaGreatDoor
def cfL:List (Int×Int)->Int->Int
 |[],_=>0
 |t::p,e=>(if t.1=e then t.2 else 0)+cfL p e
structure b8 (p:List (Int×Int)):Prop where
 asc:p.Pairwise fun a b=>a.1<b.1
 nz: ∀t∈p,t.2≠0
theorem Q7 (p q:List (Int×Int)) (e:Int):cfL (p++q) e=cfL p e+cfL q e:=by
 induction p with
 |nil=>simp [cfL]
 |cons t p ih=>simp only [List.cons_append,cfL,ih];omega
theorem rq {p:List (Int×Int)} {e:Int} (h: ∀t∈p,t.1≠e):cfL p e=0:=by
 induction p with
 |nil=>rfl
 |cons t p ih=>
  simp only [cfL];rw [if_neg (h t (List.mem_cons_self ..)),ih fun u hu=>h u (List.mem_cons_of_mem _ hu)];rfl
theorem b8.tail {t:Int×Int} {p:List (Int×Int)} (h:b8 (t::p)):b8 p:=⟨(List.pairwise_cons.1 h.asc).2,fun u hu=>h.nz u (List.mem_cons_of_mem _ hu)⟩
theorem b8.head {t:Int×Int} {p:List (Int×Int)} (h:b8 (t::p)): ∀u∈p,t.1<u.1:=(List.pairwise_cons.1 h.asc).1
theorem b8.nil:b8 []:=⟨.nil,fun _ h=>by cases h⟩
theorem za {p:List (Int×Int)} (h:b8 p) {t:Int×Int} (ht:t∈p):cfL p t.1=t.2:=by
 induction p with
 |nil=>cases ht
 |cons u p ih=>
  simp only [cfL];rcases List.mem_cons.1 ht with rfl|ht
  ·rw [if_pos rfl,rq fun v hv=>by have:=h.head v hv;omega];omega
  ·rw [if_neg (by have:=h.head t ht;omega),ih h.tail ht];omega
theorem Gh {p:List (Int×Int)} {e:Int} (h:cfL p e≠0): ∃t∈p,t.1=e:=by
 induction p with
 |nil=>exact absurd rfl h
 |cons t p ih=>
  by_cases ht:t.1=e
  ·exact ⟨t,List.mem_cons_self ..,ht⟩
  ·simp only [cfL,if_neg ht,Int.zero_add] at h;obtain ⟨u,hu,e2⟩:=ih h;exact ⟨u,List.mem_cons_of_mem _ hu,e2⟩
theorem b8.ext: ∀{p q:List (Int×Int)},b8 p->b8 q->(∀e,cfL p e=cfL q e)->p=q
 |[],[],_,_,_=>rfl
 |[],t::q,_,hq,h=>by
  have:=h t.1
  rw [za hq (List.mem_cons_self ..)] at this;exact absurd this.symm (hq.nz t (List.mem_cons_self ..))
 |t::p,[],hp,_,h=>by
  have:=h t.1
  rw [za hp (List.mem_cons_self ..)] at this;exact absurd this (hp.nz t (List.mem_cons_self ..))
 |t::p,u::q,hp,hq,h=>by
  have m1:cfL (t::p) t.1=t.2:=za hp (List.mem_cons_self ..);have m2:cfL (u::q) u.1=u.2:=za hq (List.mem_cons_self ..);have n1:=hp.nz t (List.mem_cons_self ..);have n2:=hq.nz u (List.mem_cons_self ..);have e1:t.1=u.1:=by
   obtain ⟨v,hv,ev⟩:=Gh (p:=u::q) (e:=t.1) (by rw [←h,m1];exact n1);obtain ⟨w,hw,ew⟩:=Gh (p:=t::p) (e:=u.1) (by rw [h,m2];exact n2);rcases List.mem_cons.1 hv with rfl|hv
   ·exact ev.symm
   ·rcases List.mem_cons.1 hw with rfl|hw
    ·exact ew
    ·have:=hq.head v hv
     have:=hp.head w hw
     omega
  have e2:t.2=u.2:=by rw [←m1,←m2,h,e1]
  have et:t=u:=Prod.ext e1 e2;subst et;rw [b8.ext hp.tail hq.tail fun e=>by have:=h e;simp only [cfL] at this;omega]
theorem Q6: ∀(e:Int) (l:List Int),∀t∈tmI e l,e<=t.1/\t.1<e+l.length
 |_,[],t,ht=>by cases ht
 |e,c::r,t,ht=>by
  simp only [tmI] at ht;have key:t∈tmI (e+1) r->e<=t.1/\t.1<e+(c::r).length:=fun h=>by
   have:=Q6 (e+1) r t h
   simp only [List.length_cons];omega
  split at ht
  ·exact key ht
  ·rcases List.mem_cons.1 ht with rfl|ht
   ·simp only [List.length_cons];omega
   ·exact key ht
theorem GO: ∀(e:Int) (l:List Int),b8 (tmI e l)
 |_,[]=> .nil
 |e,c::r=>by
  have ih:=GO (e+1) r;simp only [tmI]
  split
  ·exact ih
  ·rename_i h
   refine ⟨List.pairwise_cons.2 ⟨fun u hu=>by have:=Q6 (e+1) r u hu;show e<u.1;omega,ih.asc⟩,fun u hu=>?_⟩;rcases List.mem_cons.1 hu with rfl|hu
   ·exact h
   ·exact ih.nz u hu
theorem C3: ∀(e:Int) (l:List Int) (x:Int),cfL (tmI e l) x=if e<=x then l.getD (x-e).toNat 0 else 0
 |e,[],x=>by simp [tmI,cfL]
 |e,c::r,x=>by
  have ih:=C3 (e+1) r x;by_cases hx:e=x
  ·subst hx;rw [if_neg (by omega)] at ih;simp only [tmI]
   split
   ·rename_i h;rw [ih,if_pos (Int.le_refl _)];simp [h]
   ·simp only [cfL,ih];simp
  ·have k:cfL (tmI e (c::r)) x=cfL (tmI (e+1) r) x:=by
    simp only [tmI]
    split
    ·rfl
    ·simp only [cfL];rw [if_neg hx];omega
   rw [k,ih];by_cases hl:e+1<=x
   ·rw [if_pos hl,if_pos (by omega)];obtain ⟨d,hd⟩: ∃d:Nat,x=e+1+d:=⟨(x-e-1).toNat,by omega⟩;rw [hd,show (e+1+(d:Int)-e).toNat=d+1 by omega,show (e+1+(d:Int)-(e+1)).toNat=d by omega,List.getD_cons_succ]
   ·rw [if_neg hl,if_neg (by omega)]
theorem Vu (l:List (Int×Int)) (e:Int):cfL (nz l) e=cfL l e:=by
 induction l with
 |nil=>rfl
 |cons t l ih=>
  unfold nz at ih⊢;by_cases h:t.2=0
  ·rw [List.filter_cons_of_neg (by simp [h]),ih];simp only [cfL,h];split<;>omega
  ·rw [List.filter_cons_of_pos (by simp [h])];simp only [cfL,ih]
theorem Df (f:Int->Int->Int) (x:Int): ∀p q:List (Int×Int),(∀t∈p,x<t.1)->(∀t∈q,x<t.1)-> ∀t∈mrg f p q,x<t.1:=by
 intro p q
 induction p,q using mrg.induct with
 |case1=>intro _ _ t ht;simp [mrg] at ht
 |case2 e a p ih=>
  intro hp hq t ht;unfold mrg at ht;rcases List.mem_cons.1 ht with rfl|ht
  ·exact hp (e,a) (List.mem_cons_self ..)
  ·exact ih (fun u hu=>hp u (List.mem_cons_of_mem _ hu)) hq t ht
 |case3 e b q ih=>
  intro hp hq t ht;unfold mrg at ht;rcases List.mem_cons.1 ht with rfl|ht
  ·exact hq (e,b) (List.mem_cons_self ..)
  ·exact ih hp (fun u hu=>hq u (List.mem_cons_of_mem _ hu)) t ht
 |case4 e a p e' b q h ih=>
  intro hp hq t ht;unfold mrg at ht;rw [if_pos h] at ht;rcases List.mem_cons.1 ht with rfl|ht
  ·exact hp (e,a) (List.mem_cons_self ..)
  ·exact ih (fun u hu=>hp u (List.mem_cons_of_mem _ hu)) hq t ht
 |case5 e a p e' b q h h2 ih=>
  intro hp hq t ht;unfold mrg at ht;rw [if_neg h,if_pos h2] at ht;rcases List.mem_cons.1 ht with rfl|ht
  ·exact hq (e',b) (List.mem_cons_self ..)
  ·exact ih hp (fun u hu=>hq u (List.mem_cons_of_mem _ hu)) t ht
 |case6 e a p e' b q h h2 ih=>
  intro hp hq t ht;unfold mrg at ht;rw [if_neg h,if_neg h2] at ht;rcases List.mem_cons.1 ht with rfl|ht
  ·exact hp (e,a) (List.mem_cons_self ..)
  ·exact ih (fun u hu=>hp u (List.mem_cons_of_mem _ hu)) (fun u hu=>hq u (List.mem_cons_of_mem _ hu)) t ht
theorem Q5 (f:Int->Int->Int): ∀p q:List (Int×Int),p.Pairwise (fun a b=>a.1<b.1)->q.Pairwise (fun a b=>a.1<b.1)->(mrg f p q).Pairwise fun a b=>a.1<b.1:=by
 intro p q
 induction p,q using mrg.induct with
 |case1=>intro _ _;simp [mrg]
 |case2 e a p ih=>
  intro hp hq;unfold mrg;have h1:=List.pairwise_cons.1 hp;exact List.pairwise_cons.2 ⟨Df f e p [] h1.1 (fun _ h=>by cases h),ih h1.2 hq⟩
 |case3 e b q ih=>
  intro hp hq;unfold mrg;have h1:=List.pairwise_cons.1 hq;exact List.pairwise_cons.2 ⟨Df f e [] q (fun _ h=>by cases h) h1.1,ih hp h1.2⟩
 |case4 e a p e' b q h ih=>
  intro hp hq;unfold mrg;rw [if_pos h];have h1:=List.pairwise_cons.1 hp;have h2:=List.pairwise_cons.1 hq;refine List.pairwise_cons.2 ⟨Df f e p _ h1.1 (fun t ht=>?_),ih h1.2 hq⟩;rcases List.mem_cons.1 ht with rfl|ht
  ·exact h
  ·have:=h2.1 t ht;show e<t.1;simp only at this;omega
 |case5 e a p e' b q h h2 ih=>
  intro hp hq;unfold mrg;rw [if_neg h,if_pos h2];have h3:=List.pairwise_cons.1 hp;have h4:=List.pairwise_cons.1 hq;refine List.pairwise_cons.2 ⟨Df f e' _ q (fun t ht=>?_) h4.1,ih hp h4.2⟩;rcases List.mem_cons.1 ht with rfl|ht
  ·exact h2
  ·have:=h3.1 t ht;show e'<t.1;simp only at this;omega
 |case6 e a p e' b q h h2 ih=>
  intro hp hq;unfold mrg;rw [if_neg h,if_neg h2];have h3:=List.pairwise_cons.1 hp;have h4:=List.pairwise_cons.1 hq;refine List.pairwise_cons.2 ⟨Df f e p q h3.1 (fun t ht=>?_),ih h3.2 h4.2⟩
  have:=h4.1 t ht;show e<t.1;simp only at this;omega
theorem Ka (f:Int->Int->Int) (h0:f 0 0=0): ∀p q:List (Int×Int),p.Pairwise (fun a b=>a.1<b.1)->q.Pairwise (fun a b=>a.1<b.1)-> ∀x,cfL (mrg f p q) x=f (cfL p x) (cfL q x):=by
 intro p q
 induction p,q using mrg.induct with
 |case1=>intro _ _ x;simp [mrg,cfL,h0]
 |case2 e a p ih=>
  intro hp hq x;have h1:=List.pairwise_cons.1 hp
  conv=>lhs;unfold mrg
  simp only [cfL];rw [ih h1.2 hq];by_cases hx:e=x
  ·have n1:cfL p x=0:=rq fun t ht=>by have:=h1.1 t ht;simp only at this;omega
   rw [if_pos hx,if_pos hx,n1];simp [cfL,h0]
  ·rw [if_neg hx,if_neg hx];simp [cfL]
 |case3 e b q ih=>
  intro hp hq x;have h1:=List.pairwise_cons.1 hq
  conv=>lhs;unfold mrg
  simp only [cfL];rw [ih hp h1.2];by_cases hx:e=x
  ·have n1:cfL q x=0:=rq fun t ht=>by have:=h1.1 t ht;simp only at this;omega
   rw [if_pos hx,if_pos hx,n1];simp [cfL,h0]
  ·rw [if_neg hx,if_neg hx];simp [cfL]
 |case4 e a p e' b q h ih=>
  intro hp hq x;have h1:=List.pairwise_cons.1 hp;have h2:=List.pairwise_cons.1 hq
  conv=>lhs;unfold mrg
  rw [if_pos h];simp only [cfL];rw [ih h1.2 hq];simp only [cfL];by_cases hx:e=x
  ·have n1:cfL p x=0:=rq fun t ht=>by have:=h1.1 t ht;simp only at this;omega
   have n2:cfL q x=0:=rq fun t ht=>by have:=h2.1 t ht;simp only at this;omega
   rw [if_pos hx,if_pos hx,n1,n2,if_neg (by omega)];simp [h0]
  ·rw [if_neg hx,if_neg hx];simp
 |case5 e a p e' b q h h2 ih=>
  intro hp hq x;have h3:=List.pairwise_cons.1 hp;have h4:=List.pairwise_cons.1 hq
  conv=>lhs;unfold mrg
  rw [if_neg h,if_pos h2];simp only [cfL];rw [ih hp h4.2];simp only [cfL];by_cases hx:e'=x
  ·have n1:cfL p x=0:=rq fun t ht=>by have:=h3.1 t ht;simp only at this;omega
   have n2:cfL q x=0:=rq fun t ht=>by have:=h4.1 t ht;simp only at this;omega
   rw [if_pos hx,if_pos hx,n1,n2,if_neg (by omega)];simp [h0]
  ·rw [if_neg hx,if_neg hx];simp
 |case6 e a p e' b q h h2 ih=>
  intro hp hq x;have h3:=List.pairwise_cons.1 hp;have h4:=List.pairwise_cons.1 hq
  conv=>lhs;unfold mrg
  rw [if_neg h,if_neg h2];simp only [cfL];rw [ih h3.2 h4.2];have ee:e'=e:=by omega
  by_cases hx:e=x
  ·have n1:cfL p x=0:=rq fun t ht=>by have:=h3.1 t ht;simp only at this;omega
   have n2:cfL q x=0:=rq fun t ht=>by have:=h4.1 t ht;simp only at this;omega
   rw [if_pos hx,if_pos hx,n1,n2,if_pos (by omega)];simp [h0]
  ·rw [if_neg hx,if_neg hx,if_neg (by omega)];simp
theorem Vt {l:List (Int×Int)} (h:l.Pairwise fun a b=>a.1<b.1):b8 (nz l):=by
 refine ⟨List.Pairwise.filter _ h,fun t ht=>?_⟩
 have:=(List.mem_filter.1 ht).2
 simpa using this
def cvL (p:List (Int×Int)) (g:Int->Int) (e:Int):Int:=match p with
 |[]=>0
 |t::p=>t.2*g (e-t.1)+cvL p g e
theorem td (l:List Int) (i j:Nat) (v:Int) (hi:i<l.length):(l.set i v).getD j 0=if i=j then v else l.getD j 0:=by
 by_cases h:i=j
 ·subst h;simp [hi]
 ·rw [if_neg h];simp [List.getD_eq_getElem?_getD,List.getElem?_set_ne h]
theorem Zh (p:List (Int×Int)) (t:Int×Int) (e:Int):cfL (p++[t]) e=cfL p e+if t.1=e then t.2 else 0:=by
 rw [Q7];simp [cfL]
theorem Lv {α:Type} {l:List α} {k:Nat} (d:α) (h:k<l.length):l.take (k+1)=l.take k++[l.getD k d]:=by
 rw [List.take_succ_eq_append_getElem h];simp [h]
theorem Q4 (q:List (Int×Int)) (low e c:Int) (zs:List Int) (hr: ∀j,j<q.length->low<=e+(q.getD j (0,0)).1/\e+(q.getD j (0,0)).1<low+zs.length):
  ∀j,j<=q.length-> ∀x:Nat,x<zs.length->(pz2 q low e c j zs).getD x 0=zs.getD x 0+c*cfL (q.take j) (low+x-e)
 |0,_,x,_=>by simp [pz2,cfL]
 |j+1,hj,x,hx=>by
  have ih:=Q4 q low e c zs hr j (by omega);have h1:=hr j (by omega);have hl:=GR q low e c j zs;rw [Lv (0,0) (by omega),Zh];simp only [pz2];rw [td _ _ _ _ (by omega)];by_cases h:(e+(q.getD j (0,0)).1-low).toNat=x
  ·rw [if_pos h,h,ih x hx,if_pos (by omega),Int.mul_add];omega
  ·rw [if_neg h,ih x hx,if_neg (by omega),Int.add_zero]
theorem Zg (p:List (Int×Int)) (t:Int×Int) (g:Int->Int) (e:Int):cvL (p++[t]) g e=cvL p g e+t.2*g (e-t.1):=by
 induction p with
 |nil=>simp [cvL]
 |cons u p ih=>simp only [List.cons_append,cvL,ih];omega
theorem Q3 (p q:List (Int×Int)) (low:Int) (zs:List Int) (hr: ∀i j,i<p.length->j<q.length->low<=(p.getD i (0,0)).1+(q.getD j (0,0)).1/\(p.getD i (0,0)).1+(q.getD j (0,0)).1<low+zs.length):
  ∀i,i<=p.length-> ∀x:Nat,x<zs.length->(qC p q low i zs).getD x 0=zs.getD x 0+cvL (p.take i) (cfL q) (low+x)
 |0,_,x,_=>by simp [qC,cvL]
 |i+1,hi,x,hx=>by
  have ih:=Q3 p q low zs hr i (by omega);have hl:=C6 p q low i zs;simp only [qC];rw [Q4 q low _ _ _ (fun j hj=>by have:=hr i j (by omega) hj;rw [hl];exact this) q.length (Nat.le_refl _) x (by omega),ih x hx,Lv (0,0) (by omega),Zg,List.take_length];omega
theorem Zf {p:List (Int×Int)} {g:Int->Int} {e:Int} (h: ∀t∈p,g (e-t.1)=0):cvL p g e=0:=by
 induction p with
 |nil=>rfl
 |cons t p ih=>simp only [cvL,h t (List.mem_cons_self ..),ih fun u hu=>h u (List.mem_cons_of_mem _ hu)];simp
theorem uV {p:List (Int×Int)} (h:b8 p) {t:Int×Int} (ht:t∈p):aS p<=t.1/\t.1<=fv p:=by
 obtain ⟨i,hi,rfl⟩:=List.mem_iff_getElem.1 ht;have P:=List.pairwise_iff_getElem.1 h.asc;unfold aS fv;simp only [List.getD_eq_getElem?_getD,List.getElem?_eq_getElem (show 0<p.length by omega),List.getElem?_eq_getElem (show p.length-1<p.length by omega),Option.getD_some];constructor
 ·by_cases h0:i=0
  ·subst h0;exact Int.le_refl _
  ·have:=P 0 i (by omega) hi (by omega);omega
 ·by_cases h0:i=p.length-1
  ·subst h0;exact Int.le_refl _
  ·have:=P i (p.length-1) hi (by omega) (by omega);omega
theorem jW {p:List (Int×Int)} {i:Nat} (hi:i<p.length):p.getD i (0,0)∈p:=by
 simp [List.getD_eq_getElem?_getD,List.getElem?_eq_getElem hi]
theorem NK {p q:List (Int×Int)} (hp:b8 p) (hq:b8 q) (e:Int):cfL (tmI (aS p+aS q) (mW p q)) e=cvL p (cfL q) e:=by
 rw [C3];unfold mW;obtain ⟨N,hN⟩: ∃N:Nat,(fv p+fv q-(aS p+aS q)+1).toNat=N:=⟨_,rfl⟩;rw [hN];have out: ∀e,(∀t∈p,∀u∈q,t.1+u.1≠e)->cvL p (cfL q) e=0:=fun e h=>Zf fun t ht=>rq fun u hu=>by have:=h t ht u hu;omega
 by_cases h1:aS p+aS q<=e
 ·rw [if_pos h1];obtain ⟨x,hx⟩: ∃x:Nat,e=aS p+aS q+x:=⟨(e-(aS p+aS q)).toNat,by omega⟩;rw [hx,show (aS p+aS q+(x:Int)-(aS p+aS q)).toNat=x by omega];have hl:=C6 p q (aS p+aS q) p.length (List.replicate N 0);rw [List.length_replicate] at hl;by_cases h2:x<N
  ·rw [Q3 p q _ _ (fun i j hi hj=>?_) p.length (Nat.le_refl _) x (by simpa using h2),List.take_length]
   ·simp [List.getD_eq_getElem?_getD,h2]
   ·have a:=uV hp (jW hi);have b:=uV hq (jW hj);rw [List.length_replicate];omega
  ·rw [List.getD_eq_getElem?_getD,List.getElem?_eq_none (by omega)];exact (out _ fun t ht u hu=>by have a:=uV hp ht;have b:=uV hq hu;omega).symm
 ·rw [if_neg h1];exact (out _ fun t ht u hu=>by have a:=uV hp ht;have b:=uV hq hu;omega).symm
def cS (f:Int->Int) (e:Int):Int:= -(f (e+2))-f (e-2)
def dpw:Nat->Int->Int
 |0,e=>if e=0 then 1 else 0
 |j+1,e=>cS (dpw j) e
theorem zo: ∀(j:Nat) (e:Int),dpw j e≠0-> -(2*(j:Int))<=e/\e<=2*j
 |0,e,h=>by
  have:e=0:=by
   by_cases h0:e=0
   ·exact h0
   ·simp [dpw,h0] at h
  omega
 |j+1,e,h=>by
  by_cases h1:dpw j (e+2)=0
  ·by_cases h2:dpw j (e-2)=0
   ·exact absurd (by simp [dpw,cS,h1,h2]) h
   ·have:=zo j _ h2;omega
  ·have:=zo j _ h1;omega
theorem GN: ∀(j:Nat) (e:Int),-((2^j:Nat):Int)<=dpw j e/\dpw j e<=((2^j:Nat):Int)
 |0,e=>by simp only [dpw];split<;>simp
 |j+1,e=>by
  have h1:=GN j (e+2);have h2:=GN j (e-2);simp only [dpw,cS,Nat.pow_succ];omega
theorem FH (p:List (Int×Int)) (e:Int):cvL p (cfL [(-2,-1),(2,-1)]) e=cS (cfL p) e:=by
 induction p with
 |nil=>rfl
 |cons t p ih=>
  have key:t.2*cfL [(-2,-1),(2,-1)] (e-t.1)= -(if t.1=e+2 then t.2 else 0)-(if t.1=e-2 then t.2 else 0):=by
   simp only [cfL];by_cases h1:t.1=e+2
   ·rw [if_pos (by omega),if_neg (by omega),if_pos h1,if_neg (by omega)];omega
   ·rw [if_neg (by omega),if_neg h1];by_cases h2:t.1=e-2
    ·rw [if_pos (by omega),if_pos h2];omega
    ·rw [if_neg (by omega),if_neg h2];omega
  show t.2*cfL [(-2,-1),(2,-1)] (e-t.1)+cvL p (cfL [(-2,-1),(2,-1)]) e=_;rw [key,ih];simp only [cS,cfL];omega
def pc (K:Nat) (c:Nat->Nat) (w:Nat->Int) (j:Nat) (e:Int):Int:=sm (fun k=>if j<=c k then dpw (c k-j) (e-w k) else 0) K
def sM (K:Nat) (c:Nat->Nat) (w:Nat->Int) (j:Nat) (e:Int):Int:=sm (fun k=>if c k=j/\e=w k then 1 else 0) K
section
variable {K:Nat} {c:Nat->Nat} {w:Nat->Int}
theorem Hg (j:Nat) (e:Int):pc K c w j e=cS (pc K c w (j+1)) e+sM K c w j e:=by
 induction K with
 |zero=>rfl
 |succ K ih=>
  unfold pc sM cS at ih⊢;simp only [sm];rw [ih];have key:(if j<=c K then dpw (c K-j) (e-w K) else 0)= -(if j+1<=c K then dpw (c K-(j+1)) (e+2-w K) else 0)-(if j+1<=c K then dpw (c K-(j+1)) (e-2-w K) else 0)+(if c K=j/\e=w K then 1 else 0):=by
   by_cases h1:j+1<=c K
   ·rw [if_pos (by omega),if_pos h1,if_pos h1,if_neg (by omega),show c K-j=(c K-(j+1))+1 by omega];simp only [dpw,cS];rw [show e-w K+2=e+2-w K by omega,show e-w K-2=e-2-w K by omega];omega
   ·rw [if_neg h1,if_neg h1];by_cases h2:c K=j
    ·rw [if_pos (by omega),show c K-j=0 by omega];simp only [dpw];by_cases h3:e=w K
     ·rw [if_pos (by omega),if_pos ⟨h2,h3⟩];omega
     ·rw [if_neg (by omega),if_neg (by omega)];omega
    ·rw [if_neg (by omega),if_neg (by omega)];omega
  dsimp only;omega
theorem F7 {f:Nat->Int}: ∀{n:Nat},sm f n≠0-> ∃k,k<n/\f k≠0
 |0,h=>absurd rfl h
 |n+1,h=>by
  by_cases h1:f n=0
  ·simp only [sm,h1,Int.add_zero] at h;obtain ⟨k,h2,h3⟩:=F7 h;exact ⟨k,by omega,h3⟩
  ·exact ⟨n,by omega,h1⟩
theorem Vs {f:Nat->Int} {b:Int}: ∀{n:Nat},(∀k,k<n-> -b<=f k/\f k<=b)-> -(b*n)<=sm f n/\sm f n<=b*n
 |0,_=>by simp [sm]
 |n+1,h=>by
  have h1:=Vs (n:=n) fun k hk=>h k (by omega);have h2:=h n (by omega);simp only [sm,Int.natCast_add,Int.mul_add];omega
theorem Ze {j:Nat} {e:Int} (h:pc K c w j e≠0): ∃k,k<K/\j<=c k/\w k-2*((c k:Int)-j)<=e/\e<=w k+2*((c k:Int)-j):=by
 obtain ⟨k,hk,h2⟩:=F7 h;by_cases hj:j<=c k
 ·rw [if_pos hj] at h2
  have:=zo _ _ h2
  exact ⟨k,hk,hj,by omega,by omega⟩
 ·rw [if_neg hj] at h2;exact absurd rfl h2
theorem NJ {j M:Nat} (hM: ∀k,k<K->c k-j<=M) (e:Int): -((2^M:Nat):Int)*K<=pc K c w j e/\pc K c w j e<=((2^M:Nat):Int)*K:=by
 have:=Vs (f:=fun k=>if j<=c k then dpw (c k-j) (e-w k) else 0) (b:=((2^M:Nat):Int)) (n:=K) fun k hk=>by
  have h1:=hM k hk;have h2:2^(c k-j)<=2^M:=Nat.pow_le_pow_right (by omega) h1;have h3:=GN (c k-j) (e-w k)
  split<;>omega
 rw [Int.neg_mul];exact this
end
def dmn:Nat->(Int->Int)->Int->Int
 |0,g=>g
 |i+1,g=>cS (dmn i g)
def eI (g:Int->Int):Prop:= ∃b:Nat,∀e:Int,g e≠0-> -(b:Int)<=e/\e<=b
theorem eI.cS {g:Int->Int} (h:eI g):eI (cS g):=by
 obtain ⟨b,hb⟩:=h;refine ⟨b+2,fun e he=>?_⟩;by_cases h1:g (e+2)=0
 ·by_cases h2:g (e-2)=0
  ·exact absurd (by simp [Proofs.YtphjphpmfflfpaaGreatDoor.cS,h1,h2]) he
  ·have:=hb _ h2;omega
 ·have:=hb _ h1;omega
theorem eI.dmn {g:Int->Int} (h:eI g): ∀i,eI (dmn i g)
 |0=>h
 |i+1=>(eI.dmn h i).cS
theorem eI.mul {g:Int->Int} (h:eI g) (a:Int):eI fun e=>(e-a)*g e:=by
 obtain ⟨b,hb⟩:=h;exact ⟨b,fun e he=>hb e fun h0=>he (by simp [h0])⟩
theorem eI.add {g f:Int->Int} (h:eI g) (h2:eI f):eI fun e=>g e+f e:=by
 obtain ⟨b,hb⟩:=h;obtain ⟨b2,mv⟩:=h2;refine ⟨b+b2,fun e he=>?_⟩;by_cases h0:g e=0
 ·have:=mv e fun h1=>he (by simp [h0,h1]);omega
 ·have:=hb e h0;omega
def vD (g:Int->Int) (e:Int):Int:=2*g (e+2)-2*g (e-2)
theorem eI.vD {g:Int->Int} (h:eI g):eI (vD g):=by
 obtain ⟨b,hb⟩:=h;refine ⟨b+2,fun e he=>?_⟩;by_cases h1:g (e+2)=0
 ·by_cases h2:g (e-2)=0
  ·exact absurd (by simp [Proofs.YtphjphpmfflfpaaGreatDoor.vD,h1,h2]) he
  ·have:=hb _ h2;omega
 ·have:=hb _ h1;omega
theorem Q2 (g:Int->Int): ∀i e,dmn i (vD g) e=vD (dmn i g) e
 |0,e=>rfl
 |i+1,e=>by
  simp only [dmn,cS,Q2 g i,vD];rw [show e+2-2=e-2+2 by omega];omega
theorem GM (g f:Int->Int): ∀i e,dmn i (fun e=>g e+f e) e=dmn i g e+dmn i f e
 |0,e=>rfl
 |i+1,e=>by simp only [dmn,cS,GM g f i];omega
theorem NI (a:Int) (g:Int->Int) (e:Int):(e-a)*cS g e=cS (fun e=>(e-a)*g e) e+vD g e:=by
 simp only [cS,vD];have h1:(e+2-a)*g (e+2)=(e-a)*g (e+2)+2*g (e+2):=by rw [←Int.add_mul];congr 1;omega
 have h2:(e-2-a)*g (e-2)=(e-a)*g (e-2)-2*g (e-2):=by rw [←Int.sub_mul];congr 1;omega
 rw [h1,h2,Int.mul_sub,Int.mul_neg];omega
theorem Q1 (a:Int) {g:Int->Int} (hg:eI g): ∀i,∃g',eI g'/\ ∀e,(e-a)*dmn (i+1) g e=dmn i g' e
 |0=>⟨fun e=>(e-a)*dmn 1 g e,(hg.dmn 1).mul a,fun e=>rfl⟩
 |i+1=>by
  obtain ⟨g',h1,h2⟩:=Q1 a hg i;refine ⟨fun e=>g' e+vD g e,h1.add hg.vD,fun e=>?_⟩;have h3:dmn (i+1+1) g e=cS (dmn (i+1) g) e:=rfl;rw [h3,NI,GM,Q2];congr 1;simp only [dmn,cS] at h2⊢;rw [←h2,←h2]
theorem b8.len {p:List (Int×Int)} (h:b8 p): ∀{a b:Int},(∀t∈p,a<=t.1/\t.1<=b)->(p.length:Int)<=max 0 (b-a+1):=by
 induction p with
 |nil=>intro a b _;simp;omega
 |cons t p ih=>
  intro a b hb;have h1:=hb t (List.mem_cons_self ..)
  have:=ih h.tail (a:=t.1+1) (b:=b) fun u hu=>by
   have h2:=h.head u hu;have h3:=hb u (List.mem_cons_of_mem _ hu);omega
  simp only [List.length_cons];omega
theorem SJ (a:Int): ∀(p:List (Int×Int)) (e:Int),cfL (p.map fun t=>(t.1,(t.1-a)*t.2)) e=(e-a)*cfL p e
 |[],e=>by simp [cfL]
 |t::p,e=>by
  simp only [List.map_cons,cfL,SJ a p e,Int.mul_add];by_cases h:t.1=e
  ·rw [if_pos h,if_pos h,h]
  ·rw [if_neg h,if_neg h];omega
theorem Dx: ∀(i:Nat) (p:List (Int×Int)) (g:Int->Int),b8 p->eI g->(∀e,cfL p e=dmn i g e)->p≠[]->i+1<=p.length
 |0,p,g,_,_,_,az=>by
  have:=List.length_pos_iff.2 az;omega
 |i+1,[],g,_,_,_,az=>absurd rfl az
 |i+1,t::p,g,hp,hg,hc,_=>by
  obtain ⟨g',h1,h2⟩:=Q1 t.1 hg i;have hq:b8 (p.map fun u=>(u.1,(u.1-t.1)*u.2)):=by
   refine ⟨?_,fun u hu=>?_⟩
   ·rw [List.pairwise_map];exact hp.tail.asc
   ·obtain ⟨v,hv,rfl⟩:=List.mem_map.1 hu;have a1:=hp.head v hv;have a2:=hp.nz v (List.mem_cons_of_mem _ hv);exact Int.mul_ne_zero (by omega) a2
  have sR: ∀e,cfL (p.map fun u=>(u.1,(u.1-t.1)*u.2)) e=dmn i g' e:=fun e=>by
   rw [SJ,←h2,←hc];simp only [cfL];by_cases h:t.1=e
   ·rw [if_pos h,h];simp
   ·rw [if_neg h];simp
  by_cases az:p=[]
  ·exfalso;subst az;obtain ⟨b,hb⟩:=hg.dmn i;have h3: ∀e,cS (dmn i g) e=if t.1=e then t.2 else 0:=fun e=>by
    have:=hc e;simp only [cfL,dmn,Int.add_zero] at this;exact this.symm
   have t2:=hp.nz t (List.mem_cons_self ..);have lo: ∀d:Nat,∀e:Int,e<t.1+2->e<= -(b:Int)-1+d->dmn i g e=0:=by
    intro d
    induction d using Nat.strongRecOn with
    |_ d ih=>
     intro e h4 h5;by_cases h6:e<= -(b:Int)-1
     ·by_cases h7:dmn i g e=0
      ·exact h7
      ·have:=hb e h7;omega
     ·have h8:=h3 (e-2);rw [if_neg (by omega)] at h8;have h9:dmn i g (e-2-2)=0:=by
       by_cases QI:d<=3
       ·by_cases Az:dmn i g (e-2-2)=0
        ·exact Az
        ·have:=hb _ Az;omega
       ·exact ih (d-4) (by omega) _ (by omega) (by omega)
      simp only [cS] at h8;rw [h9,show e-2+2=e by omega] at h8;omega
   have hi: ∀d:Nat,∀e:Int,t.1-2<e->(b:Int)+1-d<=e->dmn i g e=0:=by
    intro d
    induction d using Nat.strongRecOn with
    |_ d ih=>
     intro e h4 h5;by_cases h6:(b:Int)+1<=e
     ·by_cases h7:dmn i g e=0
      ·exact h7
      ·have:=hb e h7;omega
     ·have h8:=h3 (e+2);rw [if_neg (by omega)] at h8;have h9:dmn i g (e+2+2)=0:=by
       by_cases QI:d<=3
       ·by_cases Az:dmn i g (e+2+2)=0
        ·exact Az
        ·have:=hb _ Az;omega
       ·exact ih (d-4) (by omega) _ (by omega) (by omega)
      simp only [cS] at h8;rw [h9,show e+2-2=e by omega] at h8;omega
   have e1:=h3 t.1;rw [if_pos rfl] at e1;simp only [cS] at e1;rw [lo (t.1-2+b+1).toNat (t.1-2) (by omega) (by omega),hi (b+1-(t.1+2)).toNat (t.1+2) (by omega) (by omega)] at e1;omega
  ·have:=Dx i _ g' hq h1 sR (by simpa using az)
   simp only [List.length_map,List.length_cons] at this⊢;omega
structure aE (m:List Int) (n:Nat):Prop where
 ok:kh m n
 inv: ∀x:Nat,x<4*n->m.getD (m.getD x 0).toNat 0=x
 ne: ∀x:Nat,x<4*n->m.getD x 0≠x
theorem bP {s m:List Int} {L:Int} (h:bF s m L=true):aE m s.length:=by
 have v:=cK h;refine ⟨v.prd.ok,v.prd.inv,fun x hx=>?_⟩
 have:=v.mt x hx
 omega
abbrev aX (m:List Int) (n:Nat) (ch:Nat->Bool):Nat:=roots (gj m ch n)
theorem xB {m:List Int} {ch ch':Nat->Bool}: ∀{n:Nat},(∀c,c<n->ch c=ch' c)->gj m ch n=gj m ch' n
 |0,_=>rfl
 |n+1,h=>by
  have:=xB (m:=m) (n:=n) fun c hc=>h c (by omega)
  simp only [gj,h n (by omega),this]
def df (b:Bool):Nat:=if b then 1 else 0
theorem Zd (ch:Nat->Bool):dD (fun c=>df (ch c))=fun x=>bd (ch (x/4).toNat) x:=by
 funext x;unfold dD df;dsimp only;cases ch (x/4).toNat<;>rfl
section
variable {m:List Int} {n:Nat} (hp:aE m n)
include hp
theorem Gg (ch:Nat->Bool):dX n (fun x=>m.getD x.toNat 0) (dD (fun c=>df (ch c))) (gj m ch n):=by
 rw [Zd];exact s7 hp.ok hp.inv hp.ne
theorem xh (s:Nat->Nat):dX n (fun x=>m.getD x.toNat 0) (dD s) (crN (fun x=>m.getD x.toNat 0) (dD s) (4*n) (4*n)):=yT (vP hp.ok hp.inv hp.ne s)
theorem Bu (ch:Nat->Bool):aX m n ch=dy m n (fun c=>df (ch c)):=zp (Gg hp ch) (xh hp _)
theorem TJ (s:Nat->Nat) {c:Nat} (hc:c<n): ∃K t0,t0<3/\ ∀t,t<3->dy m n (fun x=>if x=c then t else s x)=if t=t0 then K+1 else K:=by
 refine three (c:=c) (j:=fun t=>dD (fun x=>if x=c then t else s x)) hc (fun t _=>vP hp.ok hp.inv hp.ne _) (fun t _=>DO _) (fun t _ x hx=>?_) (fun t _ x h0 hx=>?_) (fun t _=>xh hp _)
 ·simp only [dD];rw [if_pos (by omega)]
 ·simp only [dD];rw [if_neg (by omega),if_neg (by omega)]
theorem Zc {ch ch':Nat->Bool} {c:Nat} (hc:c<n) (h: ∀x,x≠c->ch x=ch' x):aX m n ch<=aX m n ch'+1:=by
 obtain ⟨K,t0,_,h3⟩:=TJ hp (fun x=>df (ch x)) hc;have e1:(fun x=>df (ch x))=fun x=>if x=c then df (ch c) else df (ch x):=by
  funext x;by_cases e:x=c
  ·rw [if_pos e,e]
  ·rw [if_neg e]
 have e2:(fun x=>df (ch' x))=fun x=>if x=c then df (ch' c) else df (ch x):=by
  funext x;by_cases e:x=c
  ·rw [if_pos e,e]
  ·rw [if_neg e,h x e]
 have WJ: ∀b,df b<3:=fun b=>by cases b<;>decide
 rw [Bu hp,Bu hp,e1,e2,h3 _ (WJ _),h3 _ (WJ _)]
 split<;>split<;>omega
def difS (b:Bool) (ch:Nat->Bool):Nat->Nat
 |0=>0
 |c+1=>difS b ch c+if ch c=b then 0 else 1
omit hp in
theorem KW (ch:Nat->Bool): ∀c,difS false ch c+difS true ch c=c
 |0=>rfl
 |c+1=>by have:=KW ch c;simp only [difS];cases ch c<;>simp<;>omega
theorem SI (b:Bool) (ch:Nat->Bool): ∀i,i<=n->aX m n (fun c=>if c<i then ch c else b)<=aX m n (fun _=>b)+difS b ch i
 |0,_=>by simp [difS]
 |i+1,hi=>by
  have ih:=SI b ch i (by omega);simp only [difS];by_cases hb:ch i=b
  ·rw [if_pos hb]
   have:(fun c=>if c<i+1 then ch c else b)=fun c=>if c<i then ch c else b:=by
    funext c;by_cases e:c=i
    ·subst e;rw [if_pos (by omega),if_neg (by omega),hb]
    ·by_cases e2:c<i
     ·rw [if_pos (by omega),if_pos e2]
     ·rw [if_neg (by omega),if_neg e2]
   rw [this];exact ih
  ·rw [if_neg hb]
   have:=Zc hp (c:=i) (by omega) (ch:=fun c=>if c<i+1 then ch c else b) (ch':=fun c=>if c<i then ch c else b) fun x hx=>by
    by_cases e2:x<i
    ·rw [if_pos (by omega),if_pos e2]
    ·rw [if_neg (by omega),if_neg e2]
   omega
theorem GL (b:Bool) (ch:Nat->Bool):aX m n ch<=aX m n (fun _=>b)+difS b ch n:=by
 have:=SI hp b ch n (Nat.le_refl _)
 have e:aX m n (fun c=>if c<n then ch c else b)=aX m n ch:=by
  unfold aX;rw [xB fun c hc=>by rw [if_pos hc]]
 omega
theorem Hf:aX m n (fun _=>false)+aX m n (fun _=>true)<=3*n:=by
 have h0:=Gg hp (fun _=>false);have h1:=Gg hp (fun _=>true);refine Zi (vP hp.ok hp.inv hp.ne _) (vP hp.ok hp.inv hp.ne _) h0 h1 fun x hx=>?_;have V:=Dm (x/4);show pr3 0 x≠pr3 1 x;rcases (show x=4*(x/4)\/x=4*(x/4)+1\/x=4*(x/4)+2\/x=4*(x/4)+3 by omega) with h|h|h|h<;>(rw [h];omega)
theorem qq (ch:Nat->Bool):aX m n ch<=2*n:=by
 have h1:=GL hp false ch;have h2:=GL hp true ch;have h3:=Hf hp;have h4:=KW ch n;omega
theorem vU (ch:Nat->Bool) (hn:0<n):1<=aX m n ch:=Kb n (Gg hp ch) hn
end
def cA (b:Nat) (c:Nat):Bool:=b/2^c % 2==1
def jm (b:Nat):Nat->Nat
 |0=>0
 |c+1=>jm b c+b/2^c % 2
theorem GK (b:Nat): ∀c,jm b c<=c
 |0=>Nat.le_refl _
 |c+1=>by have:=GK b c;simp only [jm];omega
theorem tb (b:Nat): ∀c,jm b c=difS false (cA b) c
 |0=>rfl
 |c+1=>by
  simp only [jm,difS,tb b c,cA];by_cases h:b/2^c % 2=1
  ·simp [h]
  ·have:b/2^c % 2=0:=by omega
   simp [this]
def cN (m:List Int) (n L:Nat) (b:Nat):Nat:=aX m n (cA b)+L
def wB (n:Nat) (b:Nat):Int:=(n:Int)-2*jm b n
def aU (m:List Int) (n L:Nat) (j:Nat) (e:Int):Int:=pc (2^n) (cN m n L) (wB n) j e
section
variable {m:List Int} {n L:Nat} (hp:aE m n)
include hp
theorem uZ {j:Nat} {e:Int} (h:aU m n L j e≠0): -(n:Int)-2*(aX m n (fun _=>true)+L)+2*j<=e/\e<=n+2*(aX m n (fun _=>false)+L)-2*j:=by
 obtain ⟨k,_,hj,h1,h2⟩:=Ze h;have a1:=GL hp false (cA k);have a2:=GL hp true (cA k);have a3:=KW (cA k) n;have a4:=tb k n;unfold wB cN at*;omega
theorem F6 (b:Nat):cN m n L b<=2*n+L:=by have:=qq hp (cA b);unfold cN;omega
theorem NH {j M:Nat} (hM:2*n+L<=M+j) (e:Int): -((2^(M+n):Nat):Int)<=aU m n L j e/\aU m n L j e<=((2^(M+n):Nat):Int):=by
 have:=NJ (K:=2^n) (c:=cN m n L) (w:=wB n) (j:=j) (M:=M) (fun k _=>by have:=F6 hp (L:=L) k;omega) e
 rw [Nat.pow_add,Int.natCast_mul,←Int.neg_mul];exact this
omit hp in
theorem De: ∀i,i<=L-> ∀e,aU m n L (L-i) e=dmn i (aU m n L L) e
 |0,_,e=>rfl
 |i+1,hi,e=>by
  have h1:=Hg (K:=2^n) (c:=cN m n L) (w:=wB n) (L-(i+1)) e;rw [show L-(i+1)+1=L-i by omega] at h1;have h0:sM (2^n) (cN m n L) (wB n) (L-(i+1)) e=0:=by
   have:sM (2^n) (cN m n L) (wB n) (L-(i+1)) e=sm (fun _=>0) (2^n):=dO fun k _=>by
    rw [if_neg];rintro ⟨h2,_⟩;unfold cN at h2;omega
   rw [this,k8];omega
  rw [h0] at h1;show pc _ _ _ _ _=cS (dmn i (aU m n L L)) e;rw [h1];simp only [cS,←De i (by omega),Int.add_zero];rfl
theorem J9 (j:Nat):eI (aU m n L j):=by
 refine ⟨n+2*(aX m n (fun _=>true)+L)+2*(aX m n (fun _=>false)+L)+2*j,fun e he=>?_⟩
 have:=uZ hp he
 omega
omit hp in
theorem GJ {p:List (Int×Int)} (ha:b8 p) {f:Int->Int} (hf: ∀e,cfL p e=f e) {a b:Int} (hs: ∀e,f e≠0->a<=e/\e<=b): ∀t∈p,a<=t.1/\t.1<=b:=fun t ht=>hs _ (by rw [←hf,za ha ht];exact ha.nz t ht)
theorem y4z (hn:n<=9) {j:Nat} {p:List (Int×Int)} (ha:b8 p) (hf: ∀e,cfL p e=aU m n L j e) (az:0<p.length):fv p-aS p+4<=64+8*(p.length:Int):=by
 have r:=GJ ha hf fun e he=>uZ hp he;have kB:=r _ (jW (p:=p) (i:=0) az);have yp:=r _ (jW (p:=p) (i:=p.length-1) (by omega));have h3:=Hf hp;unfold fv aS;by_cases h1:p.length=1
 ·rw [h1];simp only [Nat.sub_self];omega
 ·by_cases hj:L<=j
  ·omega
  ·have:=Dx (L-j) p (aU m n L L) ha (J9 hp L) (fun e=>by rw [hf,←De (L-j) (by omega),show L-(L-j)=j by omega]) (fun h=>by rw [h] at az;simp at az)
   omega
end
theorem GI (f:Nat->Nat->Int) (a:Nat): ∀b,sm (fun x=>sm (fun k=>f x k) b) a=sm (fun k=>sm (fun x=>f x k) a) b
 |0=>by simp only [sm];rw [k8];omega
 |b+1=>by simp only [sm];rw [←GI f a b,nH]
theorem vJ {f:Nat->Int} {a:Nat}: ∀{n:Nat},a<n->(∀x,x<n->x≠a->f x=0)->sm f n=f a
 |n+1,ha,h=>by
  simp only [sm];by_cases e:a=n
  ·subst e;rw [dO (g:=fun _=>0) fun x hx=>h x (by omega) (by omega),k8];omega
  ·rw [vJ (n:=n) (by omega) fun x hx az=>h x (by omega) az,h n (by omega) (by omega)];omega
end Go.Proofs.YtphjphpmfflfpaaGreatDoor
