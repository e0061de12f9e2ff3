/- Plain: sums over a range; the numbers of circles of neighbouring states. -/
import Derived.Test.YtphjphpmfflfpaaGreatDoorZe
namespace Go.Proofs.YtphjphpmfflfpaaGreatDoor
set_option linter.unusedSimpArgs false
set_option linter.unusedVariables false
def sm (f:Nat->Int):Nat->Int
 |0=>0
 |n+1=>sm f n+f n
theorem iQ {f g:Nat->Int}: ∀{n:Nat},(∀x,x<n->f x=g x)->sm f n=sm g n
 |0,_=>rfl
 |n+1,h=>by simp only [sm];rw [iQ fun x hx=>h x (by omega),h n (by omega)]
theorem qp (f g:Nat->Int): ∀n,sm (fun x=>f x+g x) n=sm f n+sm g n
 |0=>rfl
 |n+1=>by simp only [sm];rw [qp f g n];omega
theorem DC (c:Int) (f:Nat->Int): ∀n,sm (fun x=>c*f x) n=c*sm f n
 |0=>by simp [sm]
 |n+1=>by simp only [sm];rw [DC c f n,Int.mul_add]
theorem qx (c:Int): ∀n:Nat,sm (fun _=>c) n=c*n
 |0=>by simp [sm]
 |n+1=>by simp only [sm];rw [qx c n,Int.natCast_add,Int.mul_add];simp
theorem FX {f g:Nat->Int}: ∀{n:Nat},(∀x,x<n->f x<=g x)->sm f n<=sm g n
 |0,_=>Int.le_refl _
 |n+1,h=>by
  simp only [sm]
  have:=FX (n:=n) fun x hx=>h x (by omega)
  have:=h n (by omega)
  omega
theorem Eu (f:Nat->Int) (a:Nat): ∀b,sm f (a+b)=sm f a+sm (fun x=>f (a+x)) b
 |0=>by simp [sm]
 |b+1=>by rw [←Nat.add_assoc];simp only [sm];rw [Eu f a b];omega
theorem GS (f:Nat->Int): ∀n,sm f n=((List.range n).map f).sum
 |0=>rfl
 |n+1=>by rw [List.range_succ,List.map_append,List.sum_append_int,←GS f n];simp [sm]
theorem HX {l k:List Int} (h:l.Perm k):l.sum=k.sum:=by
 induction h with
 |nil=>rfl
 |cons x _ ih=>simp only [List.sum_cons,ih]
 |swap x y l=>simp only [List.sum_cons];omega
 |trans _ _ h1 h2=>rw [h1,h2]
theorem P0 {l:List Nat} {f:Nat->Nat} (h: ∀x∈l,∀y∈l,f x=f y->x=y) (hn:l.Nodup):(l.map f).Nodup:=by
 rw [List.nodup_iff_pairwise_ne,List.pairwise_map];exact List.Pairwise.imp_of_mem (fun ha hb aw e=>aw (h _ ha _ hb e)) (List.nodup_iff_pairwise_ne.1 hn)
theorem D7 (f:Nat->Int) {N:Nat} (g:Nat->Nat) (hr: ∀x,x<N->g x<N) (hi: ∀x y,x<N->y<N->g x=g y->x=y):sm (fun x=>f (g x)) N=sm f N:=by
 have hn:((List.range N).map g).Nodup:=P0 (fun x hx y hy=>hi x y (List.mem_range.1 hx) (List.mem_range.1 hy)) List.nodup_range;have hp:((List.range N).map g).Perm (List.range N):=by
  have hle:=q8 (l:=List.range N) (k:=(List.range N).map g) List.nodup_range;refine (List.perm_ext_iff_of_nodup hn List.nodup_range).2 fun a=>⟨fun h=>?_,fun h=>?_⟩
  ·obtain ⟨x,hx,rfl⟩:=List.mem_map.1 h;exact List.mem_range.2 (hr x (List.mem_range.1 hx))
  ·by_cases hm:a∈(List.range N).map g
   ·exact hm
   ·exfalso;have h2:=q8 (l:=a::(List.range N).map g) (k:=List.range N) (List.nodup_cons.2 ⟨hm,hn⟩) (fun y hy=>by
     rcases List.mem_cons.1 hy with rfl|hy
     ·exact h
     ·obtain ⟨x,hx,rfl⟩:=List.mem_map.1 hy;exact List.mem_range.2 (hr x (List.mem_range.1 hx)))
    simp at h2;omega
 rw [GS,GS]
 have:=HX (hp.map f)
 rw [List.map_map] at this;exact this
theorem Ie (p:Nat->Bool): ∀n,((List.range n).countP p:Int)=sm (fun x=>if p x then 1 else 0) n
 |0=>rfl
 |n+1=>by
  rw [List.range_succ,List.countP_append,Int.natCast_add,Ie p n];simp only [sm,List.countP_cons,List.countP_nil]
  split<;>simp
theorem OO {n:Nat} {mt jn:Int->Int} {R:List Int} (hi:Inv2 n mt jn) (hR:dY n mt jn R):4*(roots R:Int)<=4*n+sm (fun x=>if mt x=jn x then 1 else 0) (4*n):=by
 let p:Nat->Int:=fun x=>if (R.getD x 0==(x:Int))=true then 1 else 0
 have xc:(roots R:Int)=sm p (4*n):=by
  unfold roots;rw [Ie,hR.rep.len]
 have ir: ∀x:Nat,x<4*n->ax n (x:Int):=fun x hx=>by unfold ax;omega
 have mr: ∀x:Nat,x<4*n->(mt x).toNat<4*n/\((mt x).toNat:Int)=mt x:=fun x hx=>by have:=hi.mr x (ir x hx);unfold ax at this;omega
 have jr: ∀x:Nat,x<4*n->(jn x).toNat<4*n/\((jn x).toNat:Int)=jn x:=fun x hx=>by have:=hi.jr x (ir x hx);unfold ax at this;omega
 have s1:sm (fun x=>p (mt x).toNat) (4*n)=sm p (4*n):=D7 p (fun x=>(mt x).toNat) (fun x hx=>(mr x hx).1) (fun x y hx hy e=>by
  have h1:=hi.mm x (ir x hx);have h2:=hi.mm y (ir y hy)
  have:=mr x hx
  have:=mr y hy
  rw [show mt x=mt y by omega,h2] at h1;omega)
 have s2:sm (fun x=>p (jn x).toNat) (4*n)=sm p (4*n):=D7 p (fun x=>(jn x).toNat) (fun x hx=>(jr x hx).1) (fun x y hx hy e=>by
  have h1:=hi.jj x (ir x hx);have h2:=hi.jj y (ir y hy)
  have:=jr x hx
  have:=jr y hy
  rw [show jn x=jn y by omega,h2] at h1;omega)
 have s3:sm (fun x=>p (jn ((mt x).toNat:Int)).toNat) (4*n)=sm p (4*n):=by
  rw [←s2];exact D7 (fun x=>p (jn x).toNat) (fun x=>(mt x).toNat) (fun x hx=>(mr x hx).1) (fun x y hx hy e=>by
   have h1:=hi.mm x (ir x hx);have h2:=hi.mm y (ir y hy)
   have:=mr x hx
   have:=mr y hy
   rw [show mt x=mt y by omega,h2] at h1;omega)
 have key:4*sm p (4*n)=sm (fun x=>p x+p (mt x).toNat+(p (jn x).toNat+p (jn ((mt x).toNat:Int)).toNat)) (4*n):=by
  rw [qp,qp,qp,s1,s2,s3];omega
 have E5: ∀x,p x=0\/p x=1:=fun x=>by show (if _ then _ else _)=_\/(if _ then _ else _)=_;split<;>simp
 have one: ∀x y:Nat,x<4*n->y<4*n->aL mt jn x y->x≠y->p x+p y<=1:=fun x y hx hy hc aw=>by
  have e:=(hR.iff x y hx hy).2 hc;show (if _ then _ else _)+(if _ then _ else _)<=_;by_cases zc:(R.getD x 0==(x:Int))=true
  ·have Kq: ¬(R.getD y 0==(y:Int))=true:=fun h=>by
    simp only [beq_iff_eq] at zc h;omega
   rw [if_neg Kq];split<;>omega
  ·rw [if_neg zc];split<;>omega
 have e1:sm (fun x=>p x+p (mt x).toNat+(p (jn x).toNat+p (jn ((mt x).toNat:Int)).toNat)) (4*n)<=sm (fun x=>1+(if mt x=jn x then 1 else 0)) (4*n):=by
  refine FX fun x hx=>?_;have hM:=mr x hx;have hJ:=jr x hx;have xN:=jr (mt x).toNat hM.1;rw [hM.2] at xN;simp only [hM.2];have cM:aL mt jn x (mt x):= .aJ (.refl _);have cJ:aL mt jn x (jn x):= .join (.refl _);have SR:aL mt jn x (jn (mt x)):= .join (.aJ (.refl _));have kW:=ir x hx;have kX:=hi.mr _ kW;have nM:=hi.mf _ kW;have nJ:=hi.jf _ kW;have nJM:=hi.jf _ kX
  have a1:=one x (mt x).toNat hx hM.1 (by rw [hM.2];exact cM) (by omega);have a2:=one x (jn x).toNat hx hJ.1 (by rw [hJ.2];exact cJ) (by omega);by_cases e:mt x=jn x
  ·rw [if_pos e,show jn (mt x)=x by rw [e];exact hi.jj _ kW,Int.toNat_natCast,e];rw [e] at a1;omega
  ·rw [if_neg e];have n1:jn (mt x)≠x:=fun h=>e (by rw [←hi.jj _ kX,h]);have n2:jn (mt x)≠jn x:=fun h=>nM (by rw [←hi.jj _ kX,h,hi.jj _ kW]);have a3:=one x (jn (mt x)).toNat hx xN.1 (by rw [xN.2];exact SR) (by omega);have sy:aL mt jn (mt x) (jn x):=(cM.symm hi kW).trans cJ;have a4:=one (mt x).toNat (jn x).toNat hM.1 hJ.1 (by rw [hM.2,hJ.2];exact sy) (by omega)
   have Xy:aL mt jn (mt x) (jn (mt x)):= .join (.refl _);have a5:=one (mt x).toNat (jn (mt x)).toNat hM.1 xN.1 (by rw [hM.2,xN.2];exact Xy) (by omega);have Xx:aL mt jn (jn x) (jn (mt x)):=(cJ.symm hi kW).trans SR;have a6:=one (jn x).toNat (jn (mt x)).toNat hJ.1 xN.1 (by rw [hJ.2,xN.2];exact Xx) (by omega);have b1:=E5 x;have b2:=E5 (mt x).toNat;have b3:=E5 (jn x).toNat
   have b4:=E5 (jn (mt x)).toNat;omega
 have e2:=qp (fun _=>(1:Int)) (fun x:Nat=>if mt x=jn x then (1:Int) else 0) (4*n);rw [e2,qx,←key] at e1;rw [xc];omega
theorem Wb {n:Nat} {mt jn kn:Int->Int} {R S:List Int} (hi:Inv2 n mt jn) (hj:Inv2 n mt kn) (hR:dY n mt jn R) (hS:dY n mt kn S) (aw: ∀x,ax n x->jn x≠kn x):roots R+roots S<=3*n:=by
 have h1:=OO hi hR;have h2:=OO hj hS;have h3:sm (fun x=>if mt x=jn x then 1 else 0) (4*n)+sm (fun x=>if mt x=kn x then 1 else 0) (4*n)<=sm (fun _=>1) (4*n):=by
  rw [←qp];refine FX fun x hx=>?_
  have:=aw x (by unfold ax;omega)
  by_cases e1:mt x=jn x
  ·rw [if_pos e1,if_neg (by omega)];omega
  ·rw [if_neg e1];split<;>omega
 rw [qx] at h3;omega
inductive dz (mt jn:Int->Int) (c:Int):Int->Int->Prop
 |refl (x:Int):dz mt jn c x x
 |aJ {x y:Int} (h:dz mt jn c x y):dz mt jn c x (mt y)
 |join {x y:Int} (h:dz mt jn c x y) (hy:y/4≠c):dz mt jn c x (jn y)
 |any {x y z:Int} (h:dz mt jn c x y) (hy:y/4=c) (hz:z/4=c):dz mt jn c x z
theorem dz.trans {mt jn:Int->Int} {c x y z:Int} (h1:dz mt jn c x y) (h2:dz mt jn c y z):dz mt jn c x z:=by
 induction h2 with
 |refl=>exact h1
 |aJ _ ih=>exact .aJ ih
 |join _ hy ih=>exact .join ih hy
 |any _ hy hz ih=>exact .any ih hy hz
structure Way (n:Nat) (mt jn:Int->Int) (c:Nat) (x e:Int) (O:Int->Prop):Prop where
 inX:O x
 inE:O e
 ne:e≠x
 eC:e/4=c
 ends: ∀y,O y->y/4=c->y=x\/y=e
 aJ: ∀y,O y->O (mt y)
 join: ∀y,O y->y/4≠c->O (jn y)
 bP: ∀y,O y->ax n y
section
variable {n:Nat} {mt jn:Int->Int} {c:Nat}
def FT (jn:Int->Int):Prop:= ∀x,jn x/4=x/4
theorem Xv (hi:Inv2 n mt jn) (hj:FT jn) {x:Int} (hx:ax n x) (oR:x/4=c): ∃e O,Way n mt jn c x e O/\ ∀kn:Int->Int,(∀y:Int,0<=y->y/4≠c->kn y=jn y)-> ∀y,O y->aL mt kn x y:=by
 have hR: ∀j,ax n (it (fun x=>jn (mt x)) j x):=fun j=>(vd hi).it hx j;obtain ⟨k,hk,pP⟩:=(vd hi).E4 hx;have pT:=pP.pos;have sw:=pP.back;have ex: ∃j,mt (it (fun x=>jn (mt x)) j x)/4=c:=by
  refine ⟨k-1,?_⟩;have e:it (fun x=>jn (mt x)) ((k-1)+1) x=x:=by rw [show k-1+1=k by omega];exact sw
  have e2:jn (mt (it (fun x=>jn (mt x)) (k-1) x))=x:=e;rw [←hj,e2,oR]
 have DI: ∀b,(∃j,j<=b/\mt (it (fun x=>jn (mt x)) j x)/4=c)-> ∃j,mt (it (fun x=>jn (mt x)) j x)/4=c/\ ∀i,i<j->mt (it (fun x=>jn (mt x)) i x)/4≠c:=by
  intro b
  induction b with
  |zero=>rintro ⟨j,hj,h⟩;obtain rfl:j=0:=by omega
         exact ⟨0,h,fun i hi=>by omega⟩
  |succ b ih=>
   rintro ⟨j,hj,h⟩;by_cases hq: ∃j,j<=b/\mt (it (fun x=>jn (mt x)) j x)/4=c
   ·exact ih hq
   ·refine ⟨j,h,fun i hi hc=>hq ⟨i,by omega,hc⟩⟩
 obtain ⟨j0,h0⟩:=ex;obtain ⟨j,gj,bY⟩:=DI j0 ⟨j0,Nat.le_refl _,h0⟩;have succ: ∀i,it (fun x=>jn (mt x)) (i+1) x=jn (mt (it (fun x=>jn (mt x)) i x)):=fun i=>rfl;have off: ∀i,0<i->i<=j->it (fun x=>jn (mt x)) i x/4≠c:=fun i h1 h2=>by
  obtain ⟨i,rfl⟩: ∃i',i=i'+1:=⟨i-1,by omega⟩;rw [succ,hj];exact bY i (by omega)
 refine ⟨mt (it (fun x=>jn (mt x)) j x),fun y=> ∃i,i<=j/\(y=it (fun x=>jn (mt x)) i x\/y=mt (it (fun x=>jn (mt x)) i x)),⟨⟨0,by omega, .inl rfl⟩,⟨j,Nat.le_refl _, .inr rfl⟩,?_,gj,?_,?_,?_,?_⟩,?_⟩
 ·exact fun e=>(OR hi hx j 0 j (by omega)).2 e.symm
 ·rintro y ⟨i,fC,rfl|rfl⟩ za
  ·by_cases rX:i=0
   ·subst rX;exact .inl rfl
   ·exact absurd za (off i (by omega) fC)
  ·by_cases rX:i=j
   ·subst rX;exact .inr rfl
   ·exact absurd za (bY i (by omega))
 ·rintro y ⟨i,fC,rfl|rfl⟩
  ·exact ⟨i,fC, .inr rfl⟩
  ·exact ⟨i,fC, .inl (hi.mm _ (hR i))⟩
 ·rintro y ⟨i,fC,rfl|rfl⟩ za
  ·by_cases rX:i=0
   ·subst rX;exact absurd oR za
   ·obtain ⟨i,rfl⟩: ∃i',i=i'+1:=⟨i-1,by omega⟩;exact ⟨i,by omega, .inr (by rw [succ,hi.jj _ (hi.mr _ (hR i))])⟩
  ·by_cases rX:i=j
   ·subst rX;exact absurd gj za
   ·exact ⟨i+1,by omega, .inl rfl⟩
 ·rintro y ⟨i,fC,rfl|rfl⟩
  ·exact hR i
  ·exact hi.mr _ (hR i)
 ·intro kn uw y hy;have hc: ∀i,i<=j->aL mt kn x (it (fun x=>jn (mt x)) i x):=by
   intro i
   induction i with
   |zero=>intro _;exact .refl _
   |succ i ih=>
    intro fC;rw [succ,←uw _ (by have:=hi.mr _ (hR i);unfold ax at this;exact this.1) (bY i (by omega))];exact .join (.aJ (ih (by omega)))
  obtain ⟨i,fC,rfl|rfl⟩:=hy
  ·exact hc i fC
  ·exact .aJ (hc i fC)
theorem Oq (hi:Inv2 n mt jn) (hj:FT jn) {R:List Int} (hR:dY n mt jn R) {x y:Nat} (hx:x<4*n) (hy:y<4*n) (oR:x/4=c) (za:y/4=c)
  (b6: ∀z:Int,z/4=c->z=x\/z=jn x\/z=y\/z=jn y):
  fG (dL R x y) (4*n)/\ ∀a b:Nat,a<4*n->b<4*n->((dL R x y).getD a 0=(dL R x y).getD b 0↔dz mt jn c a b):=by
 have hl:=hR.rep.len;have ir: ∀x:Nat,x<4*n->ax n (x:Int):=fun x hx=>by unfold ax;omega
 have yW: ∀{a b:Int},aL mt jn a b->dz mt jn c a b:=fun h=>by
  induction h with
  |refl=>exact .refl _
  |aJ _ ih=>exact .aJ ih
  | @join z _ ih=>
    by_cases hz:z/4=c
    ·exact .any ih hz (by rw [hj];exact hz)
    ·exact .join ih hz
 have xy:dz mt jn c x y:= .any (.refl _) (by omega) (by omega);have yx:dz mt jn c y x:= .any (.refl _) (by omega) (by omega);refine ⟨AM hR.rep hx hy,fun a b ha hb=>⟨fun e=>?_,fun h=>?_⟩⟩
 ·rw [oE hl ha,oE hl hb] at e;by_cases c1:R.getD a 0=R.getD x 0
  ·rw [if_pos c1] at e;by_cases c2:R.getD b 0=R.getD x 0
   ·exact yW ((hR.iff a b ha hb).1 (c1.trans c2.symm))
   ·rw [if_neg c2] at e;exact ((yW ((hR.iff a x ha hx).1 c1)).trans xy).trans (yW ((hR.iff y b hy hb).1 e))
  ·rw [if_neg c1] at e;by_cases c2:R.getD b 0=R.getD x 0
   ·rw [if_pos c2] at e;exact ((yW ((hR.iff a y ha hy).1 e)).trans yx).trans (yW ((hR.iff x b hx hb).1 c2.symm))
   ·rw [if_neg c2] at e;exact yW ((hR.iff a b ha hb).1 e)
 ·have cx:(dL R x y).getD x 0=(dL R x y).getD y 0:=AU hl hx hy;have E0: ∀u v:Nat,u<4*n->v<4*n->aL mt jn u v->(dL R x y).getD u 0=(dL R x y).getD v 0:=fun u v hu hv h=>pB hl hu hv ((hR.iff u v hu hv).2 h);have jx:=hi.jr _ (ir x hx);have jy:=hi.jr _ (ir y hy);have four: ∀z:Nat,z<4*n->z/4=c->(dL R x y).getD z 0=(dL R x y).getD x 0:=fun z hz hzc=>by
   rcases b6 z (by omega) with h|h|h|h
   ·rw [show z=x by omega]
   ·exact (E0 x z hx hz (by rw [h];exact .join (.refl _))).symm
   ·rw [show z=y by omega];exact cx.symm
   ·rw [cx];exact (E0 y z hy hz (by rw [h];exact .join (.refl _))).symm
  have key: ∀z,dz mt jn c a z->ax n z->ax n z/\(dL R x y).getD z.toNat 0=(dL R x y).getD a 0:=by
   intro z hz
   induction hz with
   |refl=>exact fun h=>⟨h,by rw [Int.toNat_natCast]⟩
   | @aJ u h ih=>
     intro hr;have hu:ax n u:=by
      have: ∀w,dz mt jn c a w->ax n w:=fun w hw=>by
       induction hw with
       |refl=>exact ir a ha
       |aJ _ ih2=>exact hi.mr _ ih2
       |join _ _ ih2=>exact hi.jr _ ih2
       |any h hy' E8 ih2=>unfold ax at*;omega
      exact this u h
     obtain ⟨_,e⟩:=ih hu;refine ⟨hr,?_⟩;unfold ax at hu hr;rw [←e];exact (E0 u.toNat (mt u).toNat (by omega) (by omega) (by rw [show ((u.toNat:Nat):Int)=u by omega,show (((mt u).toNat:Nat):Int)=mt u by omega];exact .aJ (.refl _))).symm
   | @join u h hu4 ih=>
     intro hr;have hu:ax n u:=by
      have: ∀w,dz mt jn c a w->ax n w:=fun w hw=>by
       induction hw with
       |refl=>exact ir a ha
       |aJ _ ih2=>exact hi.mr _ ih2
       |join _ _ ih2=>exact hi.jr _ ih2
       |any h hy' E8 ih2=>unfold ax at*;omega
      exact this u h
     obtain ⟨_,e⟩:=ih hu;refine ⟨hr,?_⟩;unfold ax at hu hr;rw [←e];exact (E0 u.toNat (jn u).toNat (by omega) (by omega) (by rw [show ((u.toNat:Nat):Int)=u by omega,show (((jn u).toNat:Nat):Int)=jn u by omega];exact .join (.refl _))).symm
   | @any u v h hu4 zh ih=>
     intro hr;have hu:ax n u:=by unfold ax;omega
     obtain ⟨_,e⟩:=ih hu;refine ⟨hr,?_⟩;unfold ax at hu hr;rw [←e,four v.toNat (by omega) (by omega),four u.toNat (by omega) (by omega)]
  have:=(key b h (ir b hb)).2
  rw [Int.toNat_natCast] at this;exact this.symm
end
def pr3:Nat->Int->Int
 |0,x=>aB false x
 |1,x=>aB true x
 |_,x=>x-x % 4+(x % 4+2)% 4
theorem Oo (c:Int):pr3 0 (4*c)=4*c+1/\pr3 0 (4*c+1)=4*c/\pr3 0 (4*c+2)=4*c+3/\pr3 0 (4*c+3)=4*c+2/\
  pr3 1 (4*c)=4*c+3/\pr3 1 (4*c+1)=4*c+2/\pr3 1 (4*c+2)=4*c+1/\pr3 1 (4*c+3)=4*c/\
  pr3 2 (4*c)=4*c+2/\pr3 2 (4*c+1)=4*c+3/\pr3 2 (4*c+2)=4*c/\pr3 2 (4*c+3)=4*c+1:=by
 have o: ∀x:Int,x % 2=1->aB true x=x-x % 4+(x % 4+5)% 4/\aB false x=x-x % 4+(x % 4+3)% 4:=fun x h=>by
  unfold aB;rw [ox,nS,decide_eq_true h];exact ⟨if_pos rfl,if_neg (by simp)⟩
 have e: ∀x:Int,¬x % 2=1->aB true x=x-x % 4+(x % 4+3)% 4/\aB false x=x-x % 4+(x % 4+5)% 4:=fun x h=>by
  unfold aB;rw [ox,nS,decide_eq_false h];exact ⟨if_neg (by simp),if_pos rfl⟩
 simp only [pr3];rw [(e _ (by omega)).1,(o _ (by omega)).1,(e _ (by omega)).1,(o _ (by omega)).1,(e _ (by omega)).2,(o _ (by omega)).2,(e _ (by omega)).2,(o _ (by omega)).2];omega
theorem GR (t:Nat) (x:Int):pr3 t x/4=x/4:=by
 unfold pr3
 split
 ·exact jD _ _
 ·exact jD _ _
 ·omega
theorem M9: ∀(t:Nat) (x:Int),pr3 t (pr3 t x)=x
 |0,x=>oA _ _
 |1,x=>oA _ _
 |t+2,x=>by simp only [pr3];omega
theorem Jr (t:Nat) (x:Int):pr3 t x≠x:=by
 unfold pr3
 split
 ·exact DG _ _
 ·exact DG _ _
 ·omega
def pI (s:Nat->Nat) (x:Int):Int:=pr3 (s (x/4).toNat) x
theorem D6 {n:Nat} {m:List Int} (hp:iP m n) (pR: ∀x:Nat,x<4*n->m.getD (m.getD x 0).toNat 0=x) (rT: ∀x:Nat,x<4*n->m.getD x 0≠x) (s:Nat->Nat):Inv2 n (fun x=>m.getD x.toNat 0) (pI s):=by
 have h:=qt hp pR rT (fun _=>false);refine ⟨h.mr,fun x hx=>?_,h.mm,fun x hx=>?_,h.mf,fun x _=>Jr _ _⟩
 ·have:=GR (s (x/4).toNat) x
  unfold ax pI at*;omega
 ·unfold pI;rw [GR,M9]
theorem Be (s:Nat->Nat):FT (pI s):=fun x=>GR _ _
def jZ (m:List Int) (n:Nat) (s:Nat->Nat):Nat:=roots (crN (fun x=>m.getD x.toNat 0) (pI s) (4*n) (4*n))
theorem GQ (n:Nat) {mt jn:Int->Int} {R:List Int} (hR:dY n mt jn R) (hn:0<n):1<=roots R:=by
 have h1:=hR.rep.bP 0 (by omega);have h2:=hR.rep.idem 0 (by omega);unfold roots
 have:0<(List.range R.length).countP fun x=>R.getD x 0==(x:Int):=by
  rw [List.countP_pos_iff];exact ⟨(R.getD 0 0).toNat,List.mem_range.2 (by rw [hR.rep.len];omega),by simp only [beq_iff_eq];omega⟩
 omega
theorem three {n:Nat} {mt:Int->Int} {j:Nat->Int->Int} {c:Nat} (hc:c<n) (hi: ∀t,t<3->Inv2 n mt (j t)) (hj: ∀t,t<3->FT (j t)) (uK: ∀t,t<3-> ∀x:Int,x/4=c->j t x=pr3 t x) (nf: ∀t,t<3-> ∀x:Int,0<=x->x/4≠c->j t x=j 0 x)
  {R:Nat->List Int} (hR: ∀t,t<3->dY n mt (j t) (R t)): ∃K t0,t0<3/\ ∀t,t<3->roots (R t)=if t=t0 then K+1 else K:=by
 obtain ⟨e,O,hw,xe⟩:=Xv (c:=c) (hi 0 (by omega)) (hj 0 (by omega)) (x:=4*c) (by unfold ax;omega) (by omega);have V:=Oo c;have eC:=hw.eC;have eN:=hw.ne;have eR:=hw.bP e hw.inE;obtain ⟨t0,tf,Fg⟩: ∃t0,t0<3/\pr3 t0 (4*c)=e:=by
  rcases (show e=4*c+1\/e=4*c+2\/e=4*c+3 by omega) with h|h|h
  ·exact ⟨0,by omega,by omega⟩
  ·exact ⟨2,by omega,by omega⟩
  ·exact ⟨1,by omega,by omega⟩
 have Dg: ∀t,t<3-> ∀y:Int,y/4=c->y≠4*c->y≠j t (4*c)-> ∀z:Int,z/4=c->z=4*c\/z=j t (4*c)\/z=y\/z=j t y:=fun t ht y hy h1 h2 z hz=>by
  rw [uK t ht _ (by omega)] at h2⊢;rw [uK t ht y hy];rcases (show y=4*c+1\/y=4*c+2\/y=4*c+3 by omega) with rfl|rfl|rfl<;>
  rcases (show z=4*c\/z=4*c+1\/z=4*c+2\/z=4*c+3 by omega) with rfl|rfl|rfl|rfl<;>
  rcases (show t=0\/t=1\/t=2 by omega) with rfl|rfl|rfl<;>omega
 have Bk: ∀t,t<3-> ∀a b,ax n a->dz mt (j t) c a b->ax n b:=fun t ht a b ha h=>by
  induction h with
  |refl=>exact ha
  |aJ _ ih=>exact (hi t ht).mr _ ih
  |join _ _ ih=>exact (hi t ht).jr _ ih
  |any _ hy hz ih=>unfold ax at*;omega
 have vX: ∀t,t<3-> ∀a b,ax n a->(dz mt (j t) c a b↔dz mt (j 0) c a b):=fun t ht a b ha=>by
  constructor
  ·intro h
   induction h with
   |refl=>exact .refl _
   |aJ _ ih=>exact .aJ ih
   |join h hy ih=>rw [nf t ht _ (Bk t ht _ _ ha h).1 hy];exact .join ih hy
   |any _ hy hz ih=>exact .any ih hy hz
  ·intro h
   induction h with
   |refl=>exact .refl _
   |aJ _ ih=>exact .aJ ih
   |join h hy ih=>rw [←nf t ht _ (Bk 0 (by omega) _ _ ha h).1 hy];exact .join ih hy
   |any _ hy hz ih=>exact .any ih hy hz
 have J: ∀t,t<3-> ∃y:Nat,y<4*n/\y/4=c/\(y:Int)≠4*c/\(y:Int)≠j t (4*c)/\(t≠t0->(y:Int)=e):=fun t ht=>by
  by_cases h:t=t0
  ·subst h;have h1:=uK t ht (4*c) (by omega);by_cases h2:j t (4*c)=4*c+1
   ·exact ⟨4*c+2,by omega,by omega,by omega,by omega,fun h=>absurd rfl h⟩
   ·exact ⟨4*c+1,by omega,by omega,by omega,by omega,fun h=>absurd rfl h⟩
  ·unfold ax at eR;refine ⟨e.toNat,by omega,by omega,by omega,?_,fun _=>by omega⟩;rw [uK t ht _ (by omega),show ((e.toNat:Nat):Int)=e by omega,←Fg];rcases (show t=0\/t=1\/t=2 by omega) with rfl|rfl|rfl<;>
   rcases (show t0=0\/t0=1\/t0=2 by omega) with rfl|rfl|rfl<;>omega
 have BO:4*c<4*n:=by omega
 have oG:((4*c:Nat):Int)=4*(c:Int):=by omega
 obtain ⟨y0,Kr,Kq,E9,Kp,hy4⟩:=J t0 tf;obtain ⟨K,hK⟩: ∃K,roots (dL (R t0) (4*c) y0)=K:=⟨_,rfl⟩;have same: ∀t,t<3-> ∀y:Nat,y<4*n->y/4=c->(y:Int)≠4*c->(y:Int)≠j t (4*c)->roots (dL (R t) (4*c) y)=K:=fun t ht y h1 h2 h3 h4=>by
  rw [←hK];have A:=Oq (c:=c) (hi t ht) (hj t ht) (hR t ht) (x:=4*c) BO h1 (by omega) h2 (by rw [oG];exact Dg t ht y (by omega) h3 h4);have B:=Oq (c:=c) (hi t0 tf) (hj t0 tf) (hR t0 tf) (x:=4*c) BO Kr (by omega) Kq (by rw [oG];exact Dg t0 tf y0 (by omega) E9 Kp)
  have AB: ∀a b:Nat,a<4*n->b<4*n->((dL (R t) (4*c) y).getD a 0=(dL (R t) (4*c) y).getD b 0↔(dL (R t0) (4*c) y0).getD a 0=(dL (R t0) (4*c) y0).getD b 0):=fun a b ha hb=>by
   have ia:ax n (a:Int):=by unfold ax;omega
   rw [A.2 a b ha hb,B.2 a b ha hb,vX t ht _ _ ia,vX t0 tf _ _ ia]
  exact Nat.le_antisymm (Ew B.1 A.1 fun a b ha hb=>(AB a b ha hb).symm) (Ew A.1 B.1 AB)
 refine ⟨K,t0,tf,fun t ht=>?_⟩;by_cases h:t=t0
 ·rw [if_pos h];subst h;rw [←hK];refine PM (hR t ht).rep BO Kr fun e1=>?_;have gm:=((hR t ht).iff _ _ BO Kr).1 e1;rw [oG] at gm;have inO: ∀z,aL mt (j t) (4*c) z->O z:=fun z hz=>by
   induction hz with
   |refl=>exact hw.inX
   |aJ _ ih=>exact hw.aJ _ ih
   | @join u _ ih=>
     by_cases hu:u/4=c
     ·rw [uK t ht u hu];rcases hw.ends u ih hu with rfl|rfl
      ·rw [Fg];exact hw.inE
      ·rw [←Fg,M9];exact hw.inX
     ·rw [nf t ht u (hw.bP u ih).1 hu];exact hw.join u ih hu
  rcases hw.ends _ (inO _ gm) (by omega) with h5|h5
  ·exact E9 h5
  ·rw [uK t ht _ (by omega),Fg] at Kp;exact Kp h5
 ·rw [if_neg h];obtain ⟨y,h1,h2,h3,h4,h5⟩:=J t ht;rw [←same t ht y h1 h2 h3 h4]
  have:(R t).getD (4*c) 0=(R t).getD y 0:=((hR t ht).iff _ _ BO h1).2 (by
   rw [oG,h5 h];exact xe (j t) (fun z h0 hz=>nf t ht z h0 hz) e hw.inE)
  unfold dL;rw [if_pos this]
end Go.Proofs.YtphjphpmfflfpaaGreatDoor
