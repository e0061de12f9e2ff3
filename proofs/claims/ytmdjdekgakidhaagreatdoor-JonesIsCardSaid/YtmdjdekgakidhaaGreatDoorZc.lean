/- Plain: sums over a range; the numbers of circles of neighbouring states. -/
import Derived.Test.YtmdjdekgakidhaaGreatDoorZb
import Derived.Test.YtmdjdekgakidhaaGreatDoorPl
namespace Go.Proofs.YtmdjdekgakidhaaGreatDoor
set_option linter.unusedSimpArgs false
set_option linter.unusedVariables false
def sm (f:Nat->Int):Nat->Int
 |0=>0
 |n+1=>sm f n+f n
theorem kK {f g:Nat->Int}: ∀{n:Nat},(∀x,x<n->f x=g x)->sm f n=sm g n
 |0,_=>rfl
 |n+1,h=>by simp only [sm];rw [kK fun x hx=>h x (by omega),h n (by omega)]
theorem uZ (f g:Nat->Int): ∀n,sm (fun x=>f x+g x) n=sm f n+sm g n
 |0=>rfl
 |n+1=>by simp only [sm];rw [uZ f g n];omega
theorem Sq (c:Int) (f:Nat->Int): ∀n,sm (fun x=>c*f x) n=c*sm f n
 |0=>by simp [sm]
 |n+1=>by simp only [sm];rw [Sq c f n,Int.mul_add]
theorem qj (c:Int): ∀n:Nat,sm (fun _=>c) n=c*n
 |0=>by simp [sm]
 |n+1=>by simp only [sm];rw [qj c n,Int.natCast_add,Int.mul_add];simp
theorem FF {f g:Nat->Int}: ∀{n:Nat},(∀x,x<n->f x<=g x)->sm f n<=sm g n
 |0,_=>Int.le_refl _
 |n+1,h=>by
  simp only [sm]
  have:=FF (n:=n) fun x hx=>h x (by omega)
  have:=h n (by omega)
  omega
theorem O9 (f:Nat->Int) (a:Nat): ∀b,sm f (a+b)=sm f a+sm (fun x=>f (a+x)) b
 |0=>by simp [sm]
 |b+1=>by rw [←Nat.add_assoc];simp only [sm];rw [O9 f a b];omega
theorem GN (f:Nat->Int): ∀n,sm f n=((List.range n).map f).sum
 |0=>rfl
 |n+1=>by rw [List.range_succ,List.map_append,List.sum_append_int,←GN f n];simp [sm]
theorem Hl {l k:List Int} (h:l.Perm k):l.sum=k.sum:=by
 induction h with
 |nil=>rfl
 |cons x _ ih=>simp only [List.sum_cons,ih]
 |swap x y l=>simp only [List.sum_cons];omega
 |trans _ _ h1 h2=>rw [h1,h2]
theorem Im {l:List Nat} {f:Nat->Nat} (h: ∀x∈l,∀y∈l,f x=f y->x=y) (hn:l.Nodup):(l.map f).Nodup:=by
 rw [List.nodup_iff_pairwise_ne,List.pairwise_map];exact List.Pairwise.imp_of_mem (fun ha hb av e=>av (h _ ha _ hb e)) (List.nodup_iff_pairwise_ne.1 hn)
theorem DT (f:Nat->Int) {N:Nat} (g:Nat->Nat) (hr: ∀x,x<N->g x<N) (hi: ∀x y,x<N->y<N->g x=g y->x=y):sm (fun x=>f (g x)) N=sm f N:=by
 have hn:((List.range N).map g).Nodup:=Im (fun x hx y hy=>hi x y (List.mem_range.1 hx) (List.mem_range.1 hy)) List.nodup_range;have hp:((List.range N).map g).Perm (List.range N):=by
  have hle:=sT (l:=List.range N) (k:=(List.range N).map g) List.nodup_range;refine (List.perm_ext_iff_of_nodup hn List.nodup_range).2 fun a=>⟨fun h=>?_,fun h=>?_⟩
  ·obtain ⟨x,hx,rfl⟩:=List.mem_map.1 h;exact List.mem_range.2 (hr x (List.mem_range.1 hx))
  ·by_cases hm:a∈(List.range N).map g
   ·exact hm
   ·exfalso;have h2:=sT (l:=a::(List.range N).map g) (k:=List.range N) (List.nodup_cons.2 ⟨hm,hn⟩) (fun y hy=>by
     rcases List.mem_cons.1 hy with rfl|hy
     ·exact h
     ·obtain ⟨x,hx,rfl⟩:=List.mem_map.1 hy;exact List.mem_range.2 (hr x (List.mem_range.1 hx)))
    simp at h2;omega
 rw [GN,GN]
 have:=Hl (hp.map f)
 rw [List.map_map] at this;exact this
theorem HW (p:Nat->Bool): ∀n,((List.range n).countP p:Int)=sm (fun x=>if p x then 1 else 0) n
 |0=>rfl
 |n+1=>by
  rw [List.range_succ,List.countP_append,Int.natCast_add,HW p n];simp only [sm,List.countP_cons,List.countP_nil]
  split<;>simp
theorem O8 {n:Nat} {mt jn:Int->Int} {R:List Int} (hi:Inv2 n mt jn) (hR:fa n mt jn R):4*(roots R:Int)<=4*n+sm (fun x=>if mt x=jn x then 1 else 0) (4*n):=by
 let p:Nat->Int:=fun x=>if (R.getD x 0==(x:Int))=true then 1 else 0
 have nZ:(roots R:Int)=sm p (4*n):=by
  unfold roots;rw [HW,hR.rep.len]
 have ir: ∀x:Nat,x<4*n->aw n (x:Int):=fun x hx=>by unfold aw;omega
 have mr: ∀x:Nat,x<4*n->(mt x).toNat<4*n/\((mt x).toNat:Int)=mt x:=fun x hx=>by have:=hi.mr x (ir x hx);unfold aw at this;omega
 have jr: ∀x:Nat,x<4*n->(jn x).toNat<4*n/\((jn x).toNat:Int)=jn x:=fun x hx=>by have:=hi.jr x (ir x hx);unfold aw at this;omega
 have s1:sm (fun x=>p (mt x).toNat) (4*n)=sm p (4*n):=DT p (fun x=>(mt x).toNat) (fun x hx=>(mr x hx).1) (fun x y hx hy e=>by
  have h1:=hi.mm x (ir x hx);have h2:=hi.mm y (ir y hy)
  have:=mr x hx
  have:=mr y hy
  rw [show mt x=mt y by omega,h2] at h1;omega)
 have s2:sm (fun x=>p (jn x).toNat) (4*n)=sm p (4*n):=DT p (fun x=>(jn x).toNat) (fun x hx=>(jr x hx).1) (fun x y hx hy e=>by
  have h1:=hi.jj x (ir x hx);have h2:=hi.jj y (ir y hy)
  have:=jr x hx
  have:=jr y hy
  rw [show jn x=jn y by omega,h2] at h1;omega)
 have s3:sm (fun x=>p (jn ((mt x).toNat:Int)).toNat) (4*n)=sm p (4*n):=by
  rw [←s2];exact DT (fun x=>p (jn x).toNat) (fun x=>(mt x).toNat) (fun x hx=>(mr x hx).1) (fun x y hx hy e=>by
   have h1:=hi.mm x (ir x hx);have h2:=hi.mm y (ir y hy)
   have:=mr x hx
   have:=mr y hy
   rw [show mt x=mt y by omega,h2] at h1;omega)
 have key:4*sm p (4*n)=sm (fun x=>p x+p (mt x).toNat+(p (jn x).toNat+p (jn ((mt x).toNat:Int)).toNat)) (4*n):=by
  rw [uZ,uZ,uZ,s1,s2,s3];omega
 have ES: ∀x,p x=0\/p x=1:=fun x=>by show (if _ then _ else _)=_\/(if _ then _ else _)=_;split<;>simp
 have one: ∀x y:Nat,x<4*n->y<4*n->bf mt jn x y->x≠y->p x+p y<=1:=fun x y hx hy hc av=>by
  have e:=(hR.iff x y hx hy).2 hc;show (if _ then _ else _)+(if _ then _ else _)<=_;by_cases Bs:(R.getD x 0==(x:Int))=true
  ·have KW: ¬(R.getD y 0==(y:Int))=true:=fun h=>by
    simp only [beq_iff_eq] at Bs h;omega
   rw [if_neg KW];split<;>omega
  ·rw [if_neg Bs];split<;>omega
 have e1:sm (fun x=>p x+p (mt x).toNat+(p (jn x).toNat+p (jn ((mt x).toNat:Int)).toNat)) (4*n)<=sm (fun x=>1+(if mt x=jn x then 1 else 0)) (4*n):=by
  refine FF fun x hx=>?_;have hM:=mr x hx;have hJ:=jr x hx;have xn:=jr (mt x).toNat hM.1;rw [hM.2] at xn;simp only [hM.2];have cM:bf mt jn x (mt x):= .aO (.refl _);have cJ:bf mt jn x (jn x):= .join (.refl _);have TR:bf mt jn x (jn (mt x)):= .join (.aO (.refl _));have lU:=ir x hx;have k9:=hi.mr _ lU;have nM:=hi.mf _ lU;have nJ:=hi.jf _ lU;have nJM:=hi.jf _ k9
  have a1:=one x (mt x).toNat hx hM.1 (by rw [hM.2];exact cM) (by omega);have a2:=one x (jn x).toNat hx hJ.1 (by rw [hJ.2];exact cJ) (by omega);by_cases e:mt x=jn x
  ·rw [if_pos e,show jn (mt x)=x by rw [e];exact hi.jj _ lU,zzC,e];rw [e] at a1;omega
  ·rw [if_neg e];have n1:jn (mt x)≠x:=fun h=>e (by rw [←hi.jj _ k9,h]);have n2:jn (mt x)≠jn x:=fun h=>nM (by rw [←hi.jj _ k9,h,hi.jj _ lU]);have a3:=one x (jn (mt x)).toNat hx xn.1 (by rw [xn.2];exact TR) (by omega);have sy:bf mt jn (mt x) (jn x):=(cM.symm hi lU).trans cJ;have a4:=one (mt x).toNat (jn x).toNat hM.1 hJ.1 (by rw [hM.2,hJ.2];exact sy) (by omega)
   have XO:bf mt jn (mt x) (jn (mt x)):= .join (.refl _);have a5:=one (mt x).toNat (jn (mt x)).toNat hM.1 xn.1 (by rw [hM.2,xn.2];exact XO) (by omega);have XN:bf mt jn (jn x) (jn (mt x)):=(cJ.symm hi lU).trans TR;have a6:=one (jn x).toNat (jn (mt x)).toNat hJ.1 xn.1 (by rw [hJ.2,xn.2];exact XN) (by omega);have b1:=ES x;have b2:=ES (mt x).toNat;have b3:=ES (jn x).toNat
   have b4:=ES (jn (mt x)).toNat;omega
 have e2:=uZ (fun _=>(1:Int)) (fun x:Nat=>if mt x=jn x then (1:Int) else 0) (4*n);rw [e2,qj,←key] at e1;rw [nZ];omega
theorem VT {n:Nat} {mt jn kn:Int->Int} {R S:List Int} (hi:Inv2 n mt jn) (hj:Inv2 n mt kn) (hR:fa n mt jn R) (hS:fa n mt kn S) (av: ∀x,aw n x->jn x≠kn x):roots R+roots S<=3*n:=by
 have h1:=O8 hi hR;have h2:=O8 hj hS;have h3:sm (fun x=>if mt x=jn x then 1 else 0) (4*n)+sm (fun x=>if mt x=kn x then 1 else 0) (4*n)<=sm (fun _=>1) (4*n):=by
  rw [←uZ];refine FF fun x hx=>?_
  have:=av x (by unfold aw;omega)
  by_cases e1:mt x=jn x
  ·rw [if_pos e1,if_neg (by omega)];omega
  ·rw [if_neg e1];split<;>omega
 rw [qj] at h3;omega
inductive dE (mt jn:Int->Int) (c:Int):Int->Int->Prop
 |refl (x:Int):dE mt jn c x x
 |aO {x y:Int} (h:dE mt jn c x y):dE mt jn c x (mt y)
 |join {x y:Int} (h:dE mt jn c x y) (hy:y/4≠c):dE mt jn c x (jn y)
 |any {x y z:Int} (h:dE mt jn c x y) (hy:y/4=c) (hz:z/4=c):dE mt jn c x z
theorem dE.trans {mt jn:Int->Int} {c x y z:Int} (h1:dE mt jn c x y) (h2:dE mt jn c y z):dE mt jn c x z:=by
 induction h2 with
 |refl=>exact h1
 |aO _ ih=>exact .aO ih
 |join _ hy ih=>exact .join ih hy
 |any _ hy hz ih=>exact .any ih hy hz
structure Way (n:Nat) (mt jn:Int->Int) (c:Nat) (x e:Int) (O:Int->Prop):Prop where
 inX:O x
 inE:O e
 ne:e≠x
 eC:e/4=c
 ends: ∀y,O y->y/4=c->y=x\/y=e
 aO: ∀y,O y->O (mt y)
 join: ∀y,O y->y/4≠c->O (jn y)
 cR: ∀y,O y->aw n y
section
variable {n:Nat} {mt jn:Int->Int} {c:Nat}
def CT (jn:Int->Int):Prop:= ∀x,jn x/4=x/4
theorem XJ (hi:Inv2 n mt jn) (hj:CT jn) {x:Int} (hx:aw n x) (Br:x/4=c): ∃e O,Way n mt jn c x e O/\ ∀kn:Int->Int,(∀y:Int,0<=y->y/4≠c->kn y=jn y)-> ∀y,O y->bf mt kn x y:=by
 have hR: ∀j,aw n (it (fun x=>jn (mt x)) j x):=fun j=>(tH hi).it hx j;obtain ⟨k,hk,ka⟩:=(tH hi).A5 hx;have ld:=ka.pos;have rW:=ka.back;have ex: ∃j,mt (it (fun x=>jn (mt x)) j x)/4=c:=by
  refine ⟨k-1,?_⟩;have e:it (fun x=>jn (mt x)) ((k-1)+1) x=x:=by rw [show k-1+1=k by omega];exact rW
  have e2:jn (mt (it (fun x=>jn (mt x)) (k-1) x))=x:=e;rw [←hj,e2,Br]
 have xM: ∀b,(∃j,j<=b/\mt (it (fun x=>jn (mt x)) j x)/4=c)-> ∃j,mt (it (fun x=>jn (mt x)) j x)/4=c/\ ∀i,i<j->mt (it (fun x=>jn (mt x)) i x)/4≠c:=by
  intro b
  induction b with
  |zero=>rintro ⟨j,hj,h⟩;obtain rfl:j=0:=by omega
         exact ⟨0,h,fun i hi=>by omega⟩
  |succ b ih=>
   rintro ⟨j,hj,h⟩;by_cases hq: ∃j,j<=b/\mt (it (fun x=>jn (mt x)) j x)/4=c
   ·exact ih hq
   ·refine ⟨j,h,fun i hi hc=>hq ⟨i,by omega,hc⟩⟩
 obtain ⟨j0,h0⟩:=ex;obtain ⟨j,ug,b9⟩:=xM j0 ⟨j0,zzA _,h0⟩;have succ: ∀i,it (fun x=>jn (mt x)) (i+1) x=jn (mt (it (fun x=>jn (mt x)) i x)):=fun i=>rfl;have off: ∀i,0<i->i<=j->it (fun x=>jn (mt x)) i x/4≠c:=fun i h1 h2=>by
  obtain ⟨i,rfl⟩: ∃i',i=i'+1:=⟨i-1,by omega⟩;rw [succ,hj];exact b9 i (by omega)
 refine ⟨mt (it (fun x=>jn (mt x)) j x),fun y=> ∃i,i<=j/\(y=it (fun x=>jn (mt x)) i x\/y=mt (it (fun x=>jn (mt x)) i x)),⟨⟨0,by omega, .inl rfl⟩,⟨j,zzA _, .inr rfl⟩,?_,ug,?_,?_,?_,?_⟩,?_⟩
 ·exact fun e=>(Pc hi hx j 0 j (by omega)).2 e.symm
 ·rintro y ⟨i,fG,rfl|rfl⟩ wI
  ·by_cases rJ:i=0
   ·subst rJ;exact .inl rfl
   ·exact absurd wI (off i (by omega) fG)
  ·by_cases rJ:i=j
   ·subst rJ;exact .inr rfl
   ·exact absurd wI (b9 i (by omega))
 ·rintro y ⟨i,fG,rfl|rfl⟩
  ·exact ⟨i,fG, .inr rfl⟩
  ·exact ⟨i,fG, .inl (hi.mm _ (hR i))⟩
 ·rintro y ⟨i,fG,rfl|rfl⟩ wI
  ·by_cases rJ:i=0
   ·subst rJ;exact absurd Br wI
   ·obtain ⟨i,rfl⟩: ∃i',i=i'+1:=⟨i-1,by omega⟩;exact ⟨i,by omega, .inr (by rw [succ,hi.jj _ (hi.mr _ (hR i))])⟩
  ·by_cases rJ:i=j
   ·subst rJ;exact absurd ug wI
   ·exact ⟨i+1,by omega, .inl rfl⟩
 ·rintro y ⟨i,fG,rfl|rfl⟩
  ·exact hR i
  ·exact hi.mr _ (hR i)
 ·intro kn s8 y hy;have hc: ∀i,i<=j->bf mt kn x (it (fun x=>jn (mt x)) i x):=by
   intro i
   induction i with
   |zero=>intro _;exact .refl _
   |succ i ih=>
    intro fG;rw [succ,←s8 _ (by have:=hi.mr _ (hR i);unfold aw at this;exact this.1) (b9 i (by omega))];exact .join (.aO (ih (by omega)))
  obtain ⟨i,fG,rfl|rfl⟩:=hy
  ·exact hc i fG
  ·exact .aO (hc i fG)
theorem O7 (hi:Inv2 n mt jn) (hj:CT jn) {R:List Int} (hR:fa n mt jn R) {x y:Nat} (hx:x<4*n) (hy:y<4*n) (Br:x/4=c) (wI:y/4=c)
  (cF: ∀z:Int,z/4=c->z=x\/z=jn x\/z=y\/z=jn y):
  iB (dR R x y) (4*n)/\ ∀a b:Nat,a<4*n->b<4*n->((dR R x y).getD a 0=(dR R x y).getD b 0↔dE mt jn c a b):=by
 have hl:=hR.rep.len;have ir: ∀x:Nat,x<4*n->aw n (x:Int):=fun x hx=>by unfold aw;omega
 have yL: ∀{a b:Int},bf mt jn a b->dE mt jn c a b:=fun h=>by
  induction h with
  |refl=>exact .refl _
  |aO _ ih=>exact .aO ih
  | @join z _ ih=>
    by_cases hz:z/4=c
    ·exact .any ih hz (by rw [hj];exact hz)
    ·exact .join ih hz
 have xy:dE mt jn c x y:= .any (.refl _) (by omega) (by omega);have yx:dE mt jn c y x:= .any (.refl _) (by omega) (by omega);refine ⟨Au hR.rep hx hy,fun a b ha hb=>⟨fun e=>?_,fun h=>?_⟩⟩
 ·rw [oi hl ha,oi hl hb] at e;by_cases c1:R.getD a 0=R.getD x 0
  ·rw [if_pos c1] at e;by_cases c2:R.getD b 0=R.getD x 0
   ·exact yL ((hR.iff a b ha hb).1 (c1.trans c2.symm))
   ·rw [if_neg c2] at e;exact ((yL ((hR.iff a x ha hx).1 c1)).trans xy).trans (yL ((hR.iff y b hy hb).1 e))
  ·rw [if_neg c1] at e;by_cases c2:R.getD b 0=R.getD x 0
   ·rw [if_pos c2] at e;exact ((yL ((hR.iff a y ha hy).1 e)).trans yx).trans (yL ((hR.iff x b hx hb).1 c2.symm))
   ·rw [if_neg c2] at e;exact yL ((hR.iff a b ha hb).1 e)
 ·have cx:(dR R x y).getD x 0=(dR R x y).getD y 0:=Ay hl hx hy;have EO: ∀u v:Nat,u<4*n->v<4*n->bf mt jn u v->(dR R x y).getD u 0=(dR R x y).getD v 0:=fun u v hu hv h=>oW hl hu hv ((hR.iff u v hu hv).2 h);have jx:=hi.jr _ (ir x hx);have jy:=hi.jr _ (ir y hy);have four: ∀z:Nat,z<4*n->z/4=c->(dR R x y).getD z 0=(dR R x y).getD x 0:=fun z hz hzc=>by
   rcases cF z (by omega) with h|h|h|h
   ·rw [show z=x by omega]
   ·exact (EO x z hx hz (by rw [h];exact .join (.refl _))).symm
   ·rw [show z=y by omega];exact cx.symm
   ·rw [cx];exact (EO y z hy hz (by rw [h];exact .join (.refl _))).symm
  have key: ∀z,dE mt jn c a z->aw n z->aw n z/\(dR R x y).getD z.toNat 0=(dR R x y).getD a 0:=by
   intro z hz
   induction hz with
   |refl=>exact fun h=>⟨h,by rw [zzC]⟩
   | @aO u h ih=>
     intro hr;have hu:aw n u:=by
      have: ∀w,dE mt jn c a w->aw n w:=fun w hw=>by
       induction hw with
       |refl=>exact ir a ha
       |aO _ ih2=>exact hi.mr _ ih2
       |join _ _ ih2=>exact hi.jr _ ih2
       |any h hy' EV ih2=>unfold aw at*;omega
      exact this u h
     obtain ⟨_,e⟩:=ih hu;refine ⟨hr,?_⟩;unfold aw at hu hr;rw [←e];exact (EO u.toNat (mt u).toNat (by omega) (by omega) (by rw [show ((u.toNat:Nat):Int)=u by omega,show (((mt u).toNat:Nat):Int)=mt u by omega];exact .aO (.refl _))).symm
   | @join u h hu4 ih=>
     intro hr;have hu:aw n u:=by
      have: ∀w,dE mt jn c a w->aw n w:=fun w hw=>by
       induction hw with
       |refl=>exact ir a ha
       |aO _ ih2=>exact hi.mr _ ih2
       |join _ _ ih2=>exact hi.jr _ ih2
       |any h hy' EV ih2=>unfold aw at*;omega
      exact this u h
     obtain ⟨_,e⟩:=ih hu;refine ⟨hr,?_⟩;unfold aw at hu hr;rw [←e];exact (EO u.toNat (jn u).toNat (by omega) (by omega) (by rw [show ((u.toNat:Nat):Int)=u by omega,show (((jn u).toNat:Nat):Int)=jn u by omega];exact .join (.refl _))).symm
   | @any u v h hu4 yT ih=>
     intro hr;have hu:aw n u:=by unfold aw;omega
     obtain ⟨_,e⟩:=ih hu;refine ⟨hr,?_⟩;unfold aw at hu hr;rw [←e,four v.toNat (by omega) (by omega),four u.toNat (by omega) (by omega)]
  have:=(key b h (ir b hb)).2
  rw [zzC] at this;exact this.symm
end
def pr3:Nat->Int->Int
 |0,x=>bO false x
 |1,x=>bO true x
 |_,x=>x-x % 4+(x % 4+2)% 4
theorem An (c:Int):pr3 0 (4*c)=4*c+1/\pr3 0 (4*c+1)=4*c/\pr3 0 (4*c+2)=4*c+3/\pr3 0 (4*c+3)=4*c+2/\
  pr3 1 (4*c)=4*c+3/\pr3 1 (4*c+1)=4*c+2/\pr3 1 (4*c+2)=4*c+1/\pr3 1 (4*c+3)=4*c/\
  pr3 2 (4*c)=4*c+2/\pr3 2 (4*c+1)=4*c+3/\pr3 2 (4*c+2)=4*c/\pr3 2 (4*c+3)=4*c+1:=by
 have o: ∀x:Int,x % 2=1->bO true x=x-x % 4+(x % 4+5)% 4/\bO false x=x-x % 4+(x % 4+3)% 4:=fun x h=>by
  unfold bO;rw [qJ,qd,decide_eq_true h];exact ⟨if_pos rfl,if_neg (by simp)⟩
 have e: ∀x:Int,¬x % 2=1->bO true x=x-x % 4+(x % 4+3)% 4/\bO false x=x-x % 4+(x % 4+5)% 4:=fun x h=>by
  unfold bO;rw [qJ,qd,decide_eq_false h];exact ⟨if_neg (by simp),if_pos rfl⟩
 simp only [pr3];rw [(e _ (by omega)).1,(o _ (by omega)).1,(e _ (by omega)).1,(o _ (by omega)).1,(e _ (by omega)).2,(o _ (by omega)).2,(e _ (by omega)).2,(o _ (by omega)).2];omega
theorem yh (t:Nat) (x:Int):pr3 t x/4=x/4:=by
 unfold pr3
 split
 ·exact wx _ _
 ·exact wx _ _
 ·omega
theorem GM: ∀(t:Nat) (x:Int),pr3 t (pr3 t x)=x
 |0,x=>DV _ _
 |1,x=>DV _ _
 |t+2,x=>by simp only [pr3];omega
theorem I3 (t:Nat) (x:Int):pr3 t x≠x:=by
 unfold pr3
 split
 ·exact you _ _
 ·exact you _ _
 ·omega
def cZ (s:Nat->Nat) (x:Int):Int:=pr3 (s (x/4).toNat) x
theorem tF {n:Nat} {m:List Int} (hp:iN m n) (pA: ∀x:Nat,x<4*n->m.getD (m.getD x 0).toNat 0=x) (rD: ∀x:Nat,x<4*n->m.getD x 0≠x) (s:Nat->Nat):Inv2 n (fun x=>m.getD x.toNat 0) (cZ s):=by
 have h:=tG hp pA rD (fun _=>false);refine ⟨h.mr,fun x hx=>?_,h.mm,fun x hx=>?_,h.mf,fun x _=>I3 _ _⟩
 ·have:=yh (s (x/4).toNat) x
  unfold aw cZ at*;omega
 ·unfold cZ;rw [yh,GM]
theorem AU (s:Nat->Nat):CT (cZ s):=fun x=>yh _ _
def dO (m:List Int) (n:Nat) (s:Nat->Nat):Nat:=roots (crN (fun x=>m.getD x.toNat 0) (cZ s) (4*n) (4*n))
theorem Kh (n:Nat) {mt jn:Int->Int} {R:List Int} (hR:fa n mt jn R) (hn:0<n):1<=roots R:=by
 have h1:=hR.rep.cR 0 (by omega);have h2:=hR.rep.idem 0 (by omega);unfold roots
 have:0<(List.range R.length).countP fun x=>R.getD x 0==(x:Int):=by
  rw [List.countP_pos_iff];exact ⟨(R.getD 0 0).toNat,List.mem_range.2 (by rw [hR.rep.len];omega),by simp only [beq_iff_eq];omega⟩
 omega
theorem VS {n:Nat} {mt:Int->Int} {j:Nat->Int->Int} {c:Nat} (hc:c<n) (hi: ∀t,t<3->Inv2 n mt (j t)) (hj: ∀t,t<3->CT (j t)) (rX: ∀t,t<3-> ∀x:Int,x/4=c->j t x=pr3 t x) (fY: ∀t,t<3-> ∀x:Int,0<=x->x/4≠c->j t x=j 0 x)
  {R:Nat->List Int} (hR: ∀t,t<3->fa n mt (j t) (R t)): ∃K t0,t0<3/\(∀t,t<3->roots (R t)=if t=t0 then K+1 else K)/\ ∀t,t<3->t≠t0-> ∀y:Nat,y<4*n->y/4=c->(R t).getD (4*c) 0=(R t).getD y 0:=by
 obtain ⟨e,O,hw,rm⟩:=XJ (c:=c) (hi 0 (by omega)) (hj 0 (by omega)) (x:=4*c) (by unfold aw;omega) (by omega);have V:=An c;have eC:=hw.eC;have eN:=hw.ne;have eR:=hw.cR e hw.inE;obtain ⟨t0,rb,E0⟩: ∃t0,t0<3/\pr3 t0 (4*c)=e:=by
  rcases (show e=4*c+1\/e=4*c+2\/e=4*c+3 by omega) with h|h|h
  ·exact ⟨0,by omega,by omega⟩
  ·exact ⟨2,by omega,by omega⟩
  ·exact ⟨1,by omega,by omega⟩
 have xE: ∀t,t<3-> ∀y:Int,y/4=c->y≠4*c->y≠j t (4*c)-> ∀z:Int,z/4=c->z=4*c\/z=j t (4*c)\/z=y\/z=j t y:=fun t ht y hy h1 h2 z hz=>by
  rw [rX t ht _ (by omega)] at h2⊢;rw [rX t ht y hy];rcases (show y=4*c+1\/y=4*c+2\/y=4*c+3 by omega) with rfl|rfl|rfl<;>
  rcases (show z=4*c\/z=4*c+1\/z=4*c+2\/z=4*c+3 by omega) with rfl|rfl|rfl|rfl<;>
  rcases (show t=0\/t=1\/t=2 by omega) with rfl|rfl|rfl<;>omega
 have A0: ∀t,t<3-> ∀a b,aw n a->dE mt (j t) c a b->aw n b:=fun t ht a b ha h=>by
  induction h with
  |refl=>exact ha
  |aO _ ih=>exact (hi t ht).mr _ ih
  |join _ _ ih=>exact (hi t ht).jr _ ih
  |any _ hy hz ih=>unfold aw at*;omega
 have vU: ∀t,t<3-> ∀a b,aw n a->(dE mt (j t) c a b↔dE mt (j 0) c a b):=fun t ht a b ha=>by
  constructor
  ·intro h
   induction h with
   |refl=>exact .refl _
   |aO _ ih=>exact .aO ih
   |join h hy ih=>rw [fY t ht _ (A0 t ht _ _ ha h).1 hy];exact .join ih hy
   |any _ hy hz ih=>exact .any ih hy hz
  ·intro h
   induction h with
   |refl=>exact .refl _
   |aO _ ih=>exact .aO ih
   |join h hy ih=>rw [←fY t ht _ (A0 0 (by omega) _ _ ha h).1 hy];exact .join ih hy
   |any _ hy hz ih=>exact .any ih hy hz
 have J: ∀t,t<3-> ∃y:Nat,y<4*n/\y/4=c/\(y:Int)≠4*c/\(y:Int)≠j t (4*c)/\(t≠t0->(y:Int)=e):=fun t ht=>by
  by_cases h:t=t0
  ·subst h;have h1:=rX t ht (4*c) (by omega);by_cases h2:j t (4*c)=4*c+1
   ·exact ⟨4*c+2,by omega,by omega,by omega,by omega,fun h=>absurd rfl h⟩
   ·exact ⟨4*c+1,by omega,by omega,by omega,by omega,fun h=>absurd rfl h⟩
  ·unfold aw at eR;refine ⟨e.toNat,by omega,by omega,by omega,?_,fun _=>by omega⟩;rw [rX t ht _ (by omega),show ((e.toNat:Nat):Int)=e by omega,←E0];rcases (show t=0\/t=1\/t=2 by omega) with rfl|rfl|rfl<;>
   rcases (show t0=0\/t0=1\/t0=2 by omega) with rfl|rfl|rfl<;>omega
 have wK:4*c<4*n:=by omega
 have kl:((4*c:Nat):Int)=4*(c:Int):=by omega
 obtain ⟨y0,KX,KW,EW,KV,hy4⟩:=J t0 rb;obtain ⟨K,hK⟩: ∃K,roots (dR (R t0) (4*c) y0)=K:=⟨_,rfl⟩;have same: ∀t,t<3-> ∀y:Nat,y<4*n->y/4=c->(y:Int)≠4*c->(y:Int)≠j t (4*c)->roots (dR (R t) (4*c) y)=K:=fun t ht y h1 h2 h3 h4=>by
  rw [←hK];have A:=O7 (c:=c) (hi t ht) (hj t ht) (hR t ht) (x:=4*c) wK h1 (by omega) h2 (by rw [kl];exact xE t ht y (by omega) h3 h4);have B:=O7 (c:=c) (hi t0 rb) (hj t0 rb) (hR t0 rb) (x:=4*c) wK KX (by omega) KW (by rw [kl];exact xE t0 rb y0 (by omega) EW KV)
  have AB: ∀a b:Nat,a<4*n->b<4*n->((dR (R t) (4*c) y).getD a 0=(dR (R t) (4*c) y).getD b 0↔(dR (R t0) (4*c) y0).getD a 0=(dR (R t0) (4*c) y0).getD b 0):=fun a b ha hb=>by
   have ia:aw n (a:Int):=by unfold aw;omega
   rw [A.2 a b ha hb,B.2 a b ha hb,vU t ht _ _ ia,vU t0 rb _ _ ia]
  exact Nat.le_antisymm (Er B.1 A.1 fun a b ha hb=>(AB a b ha hb).symm) (Er A.1 B.1 AB)
 have on: ∀t,t<3->t≠t0-> ∀y:Nat,y<4*n->y/4=c->(R t).getD (4*c) 0=(R t).getD y 0:=fun t ht h y hy wI=>by
  obtain ⟨w,h1,h2,h3,h4,h5⟩:=J t ht;have e0:(R t).getD (4*c) 0=(R t).getD w 0:=((hR t ht).iff _ _ wK h1).2 (by
   rw [kl,h5 h];exact rm (j t) (fun z h0 hz=>fY t ht z h0 hz) e hw.inE)
  rcases xE t ht w (by omega) h3 h4 y (by omega) with h6|h6|h6|h6
  ·rw [show y=4*c by omega]
  ·exact ((hR t ht).iff _ _ wK hy).2 (by rw [kl,h6];exact .join (.refl _))
  ·rw [e0,show y=w by omega]
  ·rw [e0];exact ((hR t ht).iff _ _ h1 hy).2 (by rw [h6];exact .join (.refl _))
 refine ⟨K,t0,rb,fun t ht=>?_,on⟩;by_cases h:t=t0
 ·rw [if_pos h];subst h;rw [←hK];refine Qv (hR t ht).rep wK KX fun e1=>?_;have gm:=((hR t ht).iff _ _ wK KX).1 e1;rw [kl] at gm;have inO: ∀z,bf mt (j t) (4*c) z->O z:=fun z hz=>by
   induction hz with
   |refl=>exact hw.inX
   |aO _ ih=>exact hw.aO _ ih
   | @join u _ ih=>
     by_cases hu:u/4=c
     ·rw [rX t ht u hu];rcases hw.ends u ih hu with rfl|rfl
      ·rw [E0];exact hw.inE
      ·rw [←E0,GM];exact hw.inX
     ·rw [fY t ht u (hw.cR u ih).1 hu];exact hw.join u ih hu
  rcases hw.ends _ (inO _ gm) (by omega) with h5|h5
  ·exact EW h5
  ·rw [rX t ht _ (by omega),E0] at KV;exact KV h5
 ·rw [if_neg h];obtain ⟨y,h1,h2,h3,h4,h5⟩:=J t ht;rw [←same t ht y h1 h2 h3 h4]
  have:(R t).getD (4*c) 0=(R t).getD y 0:=((hR t ht).iff _ _ wK h1).2 (by
   rw [kl,h5 h];exact rm (j t) (fun z h0 hz=>fY t ht z h0 hz) e hw.inE)
  unfold dR;rw [if_pos this]
theorem three {n:Nat} {mt:Int->Int} {j:Nat->Int->Int} {c:Nat} (hc:c<n) (hi: ∀t,t<3->Inv2 n mt (j t)) (hj: ∀t,t<3->CT (j t)) (rX: ∀t,t<3-> ∀x:Int,x/4=c->j t x=pr3 t x) (fY: ∀t,t<3-> ∀x:Int,0<=x->x/4≠c->j t x=j 0 x)
  {R:Nat->List Int} (hR: ∀t,t<3->fa n mt (j t) (R t)): ∃K t0,t0<3/\ ∀t,t<3->roots (R t)=if t=t0 then K+1 else K:=by
 obtain ⟨K,t0,h1,h2,_⟩:=VS hc hi hj rX fY hR;exact ⟨K,t0,h1,h2⟩
end Go.Proofs.YtmdjdekgakidhaaGreatDoor
set_option linter.unusedSimpArgs false
set_option linter.unusedVariables false
namespace Go.Proofs.YtmdjdekgakidhaaGreatDoor
def gH (v l:Int):Bool:=decide (-l<=v)&&decide (v<=l)
def sz (p:List (Int×Int)):Prop:= ∀t∈p,-1125899906842624<=t.2/\t.2<=1125899906842624
def mrg (f:Int->Int->Int) (p q:List (Int×Int)):List (Int×Int):=match p,q with
 |[],[]=>[]
 |(e,a)::p,[]=>(e,f a 0)::mrg f p []
 |[],(e,b)::q=>(e,f 0 b)::mrg f [] q
 |(e,a)::p,(e',b)::q=>if e<e' then (e,f a 0)::mrg f p ((e',b)::q) else if e'<e then (e',f 0 b)::mrg f ((e,a)::p) q else (e,f a b)::mrg f p q
termination_by p.length+q.length
def nO (l:List (Int×Int)):Bool:=l.all fun t=>gH t.2 1125899906842624
def nz (l:List (Int×Int)):List (Int×Int):=l.filter fun t=>t.2 !=0
def lr (a b:Int):Int:=a+b
def kU (_ b:Int):Int:= -b
def jM (k:Int) (p:List (Int×Int)):List (Int×Int):=p.map fun t=>(t.1+k,t.2)
def pz2 (q:List (Int×Int)) (low e c:Int):Nat->List Int->List Int
 |0,zs=>zs
 |j+1,zs=>(pz2 q low e c j zs).set (e+(q.getD j (0,0)).1-low).toNat ((pz2 q low e c j zs).getD (e+(q.getD j (0,0)).1-low).toNat 0+c*(q.getD j (0,0)).2)
def ou (p q:List (Int×Int)) (low:Int):Nat->List Int->List Int
 |0,zs=>zs
 |i+1,zs=>pz2 q low (p.getD i (0,0)).1 (p.getD i (0,0)).2 q.length (ou p q low i zs)
theorem DS (q:List (Int×Int)) (low e c:Int): ∀j zs,(pz2 q low e c j zs).length=zs.length
 |0,zs=>rfl
 |j+1,zs=>by simp only [pz2,zzL];exact DS q low e c j zs
theorem zS (p q:List (Int×Int)) (low:Int): ∀i zs,(ou p q low i zs).length=zs.length
 |0,zs=>rfl
 |i+1,zs=>by simp only [ou];rw [DS,zS]
def tmI:Int->List Int->List (Int×Int)
 |_,[]=>[]
 |e,c::r=>if c=0 then tmI (e+1) r else (e,c)::tmI (e+1) r
theorem Hk: ∀(e:Int) (l:List Int) (c:Int),tmI e (l++[c])=tmI e l++(if c=0 then [] else [(e+l.length,c)])
 |e,[],c=>by simp only [List.nil_append,tmI,List.length_nil];split<;>simp
 |e,x::l,c=>by
  have:=Hk (e+1) l c
  simp only [List.cons_append,tmI,this,zzG];have h:e+1+(l.length:Int)=e+((l.length+1:Nat):Int):=by omega
  rw [h]
  split<;>split<;>simp
theorem GL: ∀(e:Int) (l:List Int),(tmI e l).length<=l.length
 |_,[]=>zzA _
 |e,c::r=>by
  have:=GL (e+1) r
  simp only [tmI];split<;>simp only [zzG]<;>omega
abbrev aH (p:List (Int×Int)):Int:=(p.getD 0 (0,0)).1
abbrev gS (p:List (Int×Int)):Int:=(p.getD (p.length-1) (0,0)).1
def kX (p q:List (Int×Int)):List Int:=ou p q (aH p+aH q) p.length (List.replicate (gS p+gS q-(aH p+aH q)+1).toNat 0)
def cfL:List (Int×Int)->Int->Int
 |[],_=>0
 |t::p,e=>(if t.1=e then t.2 else 0)+cfL p e
structure bR (p:List (Int×Int)):Prop where
 asc:p.Pairwise fun a b=>a.1<b.1
 nz: ∀t∈p,t.2≠0
theorem Kg (p q:List (Int×Int)) (e:Int):cfL (p++q) e=cfL p e+cfL q e:=by
 induction p with
 |nil=>simp [cfL]
 |cons t p ih=>simp only [List.cons_append,cfL,ih];omega
theorem oX {p:List (Int×Int)} {e:Int} (h: ∀t∈p,t.1≠e):cfL p e=0:=by
 induction p with
 |nil=>rfl
 |cons t p ih=>
  simp only [cfL];rw [if_neg (h t (zzD ..)),ih fun u hu=>h u (zzE _ hu)];rfl
theorem bR.tail {t:Int×Int} {p:List (Int×Int)} (h:bR (t::p)):bR p:=⟨(List.pairwise_cons.1 h.asc).2,fun u hu=>h.nz u (zzE _ hu)⟩
theorem bR.head {t:Int×Int} {p:List (Int×Int)} (h:bR (t::p)): ∀u∈p,t.1<u.1:=(List.pairwise_cons.1 h.asc).1
theorem bR.nil:bR []:=⟨.nil,fun _ h=>by cases h⟩
theorem vb {p:List (Int×Int)} (h:bR p) {t:Int×Int} (ht:t∈p):cfL p t.1=t.2:=by
 induction p with
 |nil=>cases ht
 |cons u p ih=>
  simp only [cfL];rcases List.mem_cons.1 ht with rfl|ht
  ·rw [if_pos rfl,oX fun v hv=>by have:=h.head v hv;omega];omega
  ·rw [if_neg (by have:=h.head t ht;omega),ih h.tail ht];omega
theorem xZ {p:List (Int×Int)} {e:Int} (h:cfL p e≠0): ∃t∈p,t.1=e:=by
 induction p with
 |nil=>exact absurd rfl h
 |cons t p ih=>
  by_cases ht:t.1=e
  ·exact ⟨t,zzD ..,ht⟩
  ·simp only [cfL,if_neg ht,Int.zero_add] at h;obtain ⟨u,hu,e2⟩:=ih h;exact ⟨u,zzE _ hu,e2⟩
theorem bR.ext: ∀{p q:List (Int×Int)},bR p->bR q->(∀e,cfL p e=cfL q e)->p=q
 |[],[],_,_,_=>rfl
 |[],t::q,_,hq,h=>by
  have:=h t.1
  rw [vb hq (zzD ..)] at this;exact absurd this.symm (hq.nz t (zzD ..))
 |t::p,[],hp,_,h=>by
  have:=h t.1
  rw [vb hp (zzD ..)] at this;exact absurd this (hp.nz t (zzD ..))
 |t::p,u::q,hp,hq,h=>by
  have m1:cfL (t::p) t.1=t.2:=vb hp (zzD ..);have m2:cfL (u::q) u.1=u.2:=vb hq (zzD ..);have n1:=hp.nz t (zzD ..);have n2:=hq.nz u (zzD ..);have e1:t.1=u.1:=by
   obtain ⟨v,hv,ev⟩:=xZ (p:=u::q) (e:=t.1) (by rw [←h,m1];exact n1);obtain ⟨w,hw,ew⟩:=xZ (p:=t::p) (e:=u.1) (by rw [h,m2];exact n2);rcases List.mem_cons.1 hv with rfl|hv
   ·exact ev.symm
   ·rcases List.mem_cons.1 hw with rfl|hw
    ·exact ew
    ·have:=hq.head v hv
     have:=hp.head w hw
     omega
  have e2:t.2=u.2:=by rw [←m1,←m2,h,e1]
  have et:t=u:=Prod.ext e1 e2;subst et;rw [bR.ext hp.tail hq.tail fun e=>by have:=h e;simp only [cfL] at this;omega]
theorem NJ: ∀(e:Int) (l:List Int),∀t∈tmI e l,e<=t.1/\t.1<e+l.length
 |_,[],t,ht=>by cases ht
 |e,c::r,t,ht=>by
  simp only [tmI] at ht;have key:t∈tmI (e+1) r->e<=t.1/\t.1<e+(c::r).length:=fun h=>by
   have:=NJ (e+1) r t h
   simp only [zzG];omega
  split at ht
  ·exact key ht
  ·rcases List.mem_cons.1 ht with rfl|ht
   ·simp only [zzG];omega
   ·exact key ht
theorem DR: ∀(e:Int) (l:List Int),bR (tmI e l)
 |_,[]=> .nil
 |e,c::r=>by
  have ih:=DR (e+1) r;simp only [tmI]
  split
  ·exact ih
  ·rename_i h
   refine ⟨List.pairwise_cons.2 ⟨fun u hu=>by have:=NJ (e+1) r u hu;show e<u.1;omega,ih.asc⟩,fun u hu=>?_⟩;rcases List.mem_cons.1 hu with rfl|hu
   ·exact h
   ·exact ih.nz u hu
theorem zR: ∀(e:Int) (l:List Int) (x:Int),cfL (tmI e l) x=if e<=x then l.getD (x-e).toNat 0 else 0
 |e,[],x=>by simp [tmI,cfL]
 |e,c::r,x=>by
  have ih:=zR (e+1) r x;by_cases hx:e=x
  ·subst hx;rw [if_neg (by omega)] at ih;simp only [tmI]
   split
   ·rename_i h;rw [ih,if_pos (Int.le_refl _)];simp [h]
   ·simp only [cfL,ih];simp
  ·have k:cfL (tmI e (c::r)) x=cfL (tmI (e+1) r) x:=by
    simp only [tmI]
    split
    ·rfl
    ·simp only [cfL];rw [if_neg hx];omega
   rw [k,ih];by_cases hl:e+1<=x
   ·rw [if_pos hl,if_pos (by omega)];obtain ⟨d,hd⟩: ∃d:Nat,x=e+1+d:=⟨(x-e-1).toNat,by omega⟩;rw [hd,show (e+1+(d:Int)-e).toNat=d+1 by omega,show (e+1+(d:Int)-(e+1)).toNat=d by omega,List.getD_cons_succ]
   ·rw [if_neg hl,if_neg (by omega)]
theorem So (l:List (Int×Int)) (e:Int):cfL (nz l) e=cfL l e:=by
 induction l with
 |nil=>rfl
 |cons t l ih=>
  unfold nz at ih⊢;by_cases h:t.2=0
  ·rw [List.filter_cons_of_neg (by simp [h]),ih];simp only [cfL,h];split<;>omega
  ·rw [List.filter_cons_of_pos (by simp [h])];simp only [cfL,ih]
theorem zQ (f:Int->Int->Int) (x:Int): ∀p q:List (Int×Int),(∀t∈p,x<t.1)->(∀t∈q,x<t.1)-> ∀t∈mrg f p q,x<t.1:=by
 intro p q
 induction p,q using mrg.induct with
 |case1=>intro _ _ t ht;simp [mrg] at ht
 |case2 e a p ih=>
  intro hp hq t ht;unfold mrg at ht;rcases List.mem_cons.1 ht with rfl|ht
  ·exact hp (e,a) (zzD ..)
  ·exact ih (fun u hu=>hp u (zzE _ hu)) hq t ht
 |case3 e b q ih=>
  intro hp hq t ht;unfold mrg at ht;rcases List.mem_cons.1 ht with rfl|ht
  ·exact hq (e,b) (zzD ..)
  ·exact ih hp (fun u hu=>hq u (zzE _ hu)) t ht
 |case4 e a p e' b q h ih=>
  intro hp hq t ht;unfold mrg at ht;rw [if_pos h] at ht;rcases List.mem_cons.1 ht with rfl|ht
  ·exact hp (e,a) (zzD ..)
  ·exact ih (fun u hu=>hp u (zzE _ hu)) hq t ht
 |case5 e a p e' b q h h2 ih=>
  intro hp hq t ht;unfold mrg at ht;rw [if_neg h,if_pos h2] at ht;rcases List.mem_cons.1 ht with rfl|ht
  ·exact hq (e',b) (zzD ..)
  ·exact ih hp (fun u hu=>hq u (zzE _ hu)) t ht
 |case6 e a p e' b q h h2 ih=>
  intro hp hq t ht;unfold mrg at ht;rw [if_neg h,if_neg h2] at ht;rcases List.mem_cons.1 ht with rfl|ht
  ·exact hp (e,a) (zzD ..)
  ·exact ih (fun u hu=>hp u (zzE _ hu)) (fun u hu=>hq u (zzE _ hu)) t ht
theorem NI (f:Int->Int->Int): ∀p q:List (Int×Int),p.Pairwise (fun a b=>a.1<b.1)->q.Pairwise (fun a b=>a.1<b.1)->(mrg f p q).Pairwise fun a b=>a.1<b.1:=by
 intro p q
 induction p,q using mrg.induct with
 |case1=>intro _ _;simp [mrg]
 |case2 e a p ih=>
  intro hp hq;unfold mrg;have h1:=List.pairwise_cons.1 hp;exact List.pairwise_cons.2 ⟨zQ f e p [] h1.1 (fun _ h=>by cases h),ih h1.2 hq⟩
 |case3 e b q ih=>
  intro hp hq;unfold mrg;have h1:=List.pairwise_cons.1 hq;exact List.pairwise_cons.2 ⟨zQ f e [] q (fun _ h=>by cases h) h1.1,ih hp h1.2⟩
 |case4 e a p e' b q h ih=>
  intro hp hq;unfold mrg;rw [if_pos h];have h1:=List.pairwise_cons.1 hp;have h2:=List.pairwise_cons.1 hq;refine List.pairwise_cons.2 ⟨zQ f e p _ h1.1 (fun t ht=>?_),ih h1.2 hq⟩;rcases List.mem_cons.1 ht with rfl|ht
  ·exact h
  ·have:=h2.1 t ht;show e<t.1;simp only at this;omega
 |case5 e a p e' b q h h2 ih=>
  intro hp hq;unfold mrg;rw [if_neg h,if_pos h2];have h3:=List.pairwise_cons.1 hp;have h4:=List.pairwise_cons.1 hq;refine List.pairwise_cons.2 ⟨zQ f e' _ q (fun t ht=>?_) h4.1,ih hp h4.2⟩;rcases List.mem_cons.1 ht with rfl|ht
  ·exact h2
  ·have:=h3.1 t ht;show e'<t.1;simp only at this;omega
 |case6 e a p e' b q h h2 ih=>
  intro hp hq;unfold mrg;rw [if_neg h,if_neg h2];have h3:=List.pairwise_cons.1 hp;have h4:=List.pairwise_cons.1 hq;refine List.pairwise_cons.2 ⟨zQ f e p q h3.1 (fun t ht=>?_),ih h3.2 h4.2⟩
  have:=h4.1 t ht;show e<t.1;simp only at this;omega
theorem GK (f:Int->Int->Int) (h0:f 0 0=0): ∀p q:List (Int×Int),p.Pairwise (fun a b=>a.1<b.1)->q.Pairwise (fun a b=>a.1<b.1)-> ∀x,cfL (mrg f p q) x=f (cfL p x) (cfL q x):=by
 intro p q
 induction p,q using mrg.induct with
 |case1=>intro _ _ x;simp [mrg,cfL,h0]
 |case2 e a p ih=>
  intro hp hq x;have h1:=List.pairwise_cons.1 hp
  conv=>lhs;unfold mrg
  simp only [cfL];rw [ih h1.2 hq];by_cases hx:e=x
  ·have n1:cfL p x=0:=oX fun t ht=>by have:=h1.1 t ht;simp only at this;omega
   rw [if_pos hx,if_pos hx,n1];simp [cfL,h0]
  ·rw [if_neg hx,if_neg hx];simp [cfL]
 |case3 e b q ih=>
  intro hp hq x;have h1:=List.pairwise_cons.1 hq
  conv=>lhs;unfold mrg
  simp only [cfL];rw [ih hp h1.2];by_cases hx:e=x
  ·have n1:cfL q x=0:=oX fun t ht=>by have:=h1.1 t ht;simp only at this;omega
   rw [if_pos hx,if_pos hx,n1];simp [cfL,h0]
  ·rw [if_neg hx,if_neg hx];simp [cfL]
 |case4 e a p e' b q h ih=>
  intro hp hq x;have h1:=List.pairwise_cons.1 hp;have h2:=List.pairwise_cons.1 hq
  conv=>lhs;unfold mrg
  rw [if_pos h];simp only [cfL];rw [ih h1.2 hq];simp only [cfL];by_cases hx:e=x
  ·have n1:cfL p x=0:=oX fun t ht=>by have:=h1.1 t ht;simp only at this;omega
   have n2:cfL q x=0:=oX fun t ht=>by have:=h2.1 t ht;simp only at this;omega
   rw [if_pos hx,if_pos hx,n1,n2,if_neg (by omega)];simp [h0]
  ·rw [if_neg hx,if_neg hx];simp
 |case5 e a p e' b q h h2 ih=>
  intro hp hq x;have h3:=List.pairwise_cons.1 hp;have h4:=List.pairwise_cons.1 hq
  conv=>lhs;unfold mrg
  rw [if_neg h,if_pos h2];simp only [cfL];rw [ih hp h4.2];simp only [cfL];by_cases hx:e'=x
  ·have n1:cfL p x=0:=oX fun t ht=>by have:=h3.1 t ht;simp only at this;omega
   have n2:cfL q x=0:=oX fun t ht=>by have:=h4.1 t ht;simp only at this;omega
   rw [if_pos hx,if_pos hx,n1,n2,if_neg (by omega)];simp [h0]
  ·rw [if_neg hx,if_neg hx];simp
 |case6 e a p e' b q h h2 ih=>
  intro hp hq x;have h3:=List.pairwise_cons.1 hp;have h4:=List.pairwise_cons.1 hq
  conv=>lhs;unfold mrg
  rw [if_neg h,if_neg h2];simp only [cfL];rw [ih h3.2 h4.2];have ee:e'=e:=by omega
  by_cases hx:e=x
  ·have n1:cfL p x=0:=oX fun t ht=>by have:=h3.1 t ht;simp only at this;omega
   have n2:cfL q x=0:=oX fun t ht=>by have:=h4.1 t ht;simp only at this;omega
   rw [if_pos hx,if_pos hx,n1,n2,if_pos (by omega)];simp [h0]
  ·rw [if_neg hx,if_neg hx,if_neg (by omega)];simp
theorem Sn {l:List (Int×Int)} (h:l.Pairwise fun a b=>a.1<b.1):bR (nz l):=by
 refine ⟨List.Pairwise.filter _ h,fun t ht=>?_⟩
 have:=(List.mem_filter.1 ht).2
 simpa using this
def cvL (p:List (Int×Int)) (g:Int->Int) (e:Int):Int:=match p with
 |[]=>0
 |t::p=>t.2*g (e-t.1)+cvL p g e
theorem Xr (l:List Int) (i j:Nat) (v:Int) (hi:i<l.length):(l.set i v).getD j 0=if i=j then v else l.getD j 0:=by
 by_cases h:i=j
 ·subst h;simp [hi]
 ·rw [if_neg h];simp [zzB,List.getElem?_set_ne h]
theorem O6 (p:List (Int×Int)) (t:Int×Int) (e:Int):cfL (p++[t]) e=cfL p e+if t.1=e then t.2 else 0:=by
 rw [Kg];simp [cfL]
theorem Ql {α:Type} {l:List α} {k:Nat} (d:α) (h:k<l.length):l.take (k+1)=l.take k++[l.getD k d]:=by
 rw [List.take_succ_eq_append_getElem h];simp [h]
theorem NH (q:List (Int×Int)) (low e c:Int) (zs:List Int) (hr: ∀j,j<q.length->low<=e+(q.getD j (0,0)).1/\e+(q.getD j (0,0)).1<low+zs.length):
  ∀j,j<=q.length-> ∀x:Nat,x<zs.length->(pz2 q low e c j zs).getD x 0=zs.getD x 0+c*cfL (q.take j) (low+x-e)
 |0,_,x,_=>by simp [pz2,cfL]
 |j+1,hj,x,hx=>by
  have ih:=NH q low e c zs hr j (by omega);have h1:=hr j (by omega);have hl:=DS q low e c j zs;rw [Ql (0,0) (by omega),O6];simp only [pz2];rw [Xr _ _ _ _ (by omega)];by_cases h:(e+(q.getD j (0,0)).1-low).toNat=x
  ·rw [if_pos h,h,ih x hx,if_pos (by omega),Int.mul_add];omega
  ·rw [if_neg h,ih x hx,if_neg (by omega),Int.add_zero]
theorem VQ (p:List (Int×Int)) (t:Int×Int) (g:Int->Int) (e:Int):cvL (p++[t]) g e=cvL p g e+t.2*g (e-t.1):=by
 induction p with
 |nil=>simp [cvL]
 |cons u p ih=>simp only [List.cons_append,cvL,ih];omega
theorem NG (p q:List (Int×Int)) (low:Int) (zs:List Int) (hr: ∀i j,i<p.length->j<q.length->low<=(p.getD i (0,0)).1+(q.getD j (0,0)).1/\(p.getD i (0,0)).1+(q.getD j (0,0)).1<low+zs.length):
  ∀i,i<=p.length-> ∀x:Nat,x<zs.length->(ou p q low i zs).getD x 0=zs.getD x 0+cvL (p.take i) (cfL q) (low+x)
 |0,_,x,_=>by simp [ou,cvL]
 |i+1,hi,x,hx=>by
  have ih:=NG p q low zs hr i (by omega);have hl:=zS p q low i zs;simp only [ou];rw [NH q low _ _ _ (fun j hj=>by have:=hr i j (by omega) hj;rw [hl];exact this) q.length (zzA _) x (by omega),ih x hx,Ql (0,0) (by omega),VQ,List.take_length];omega
theorem VP {p:List (Int×Int)} {g:Int->Int} {e:Int} (h: ∀t∈p,g (e-t.1)=0):cvL p g e=0:=by
 induction p with
 |nil=>rfl
 |cons t p ih=>simp only [cvL,h t (zzD ..),ih fun u hu=>h u (zzE _ hu)];simp
theorem tw {p:List (Int×Int)} (h:bR p) {t:Int×Int} (ht:t∈p):aH p<=t.1/\t.1<=gS p:=by
 obtain ⟨i,hi,rfl⟩:=List.mem_iff_getElem.1 ht;have P:=List.pairwise_iff_getElem.1 h.asc;unfold aH gS;simp only [zzB,zzI (show 0<p.length by omega),zzI (show p.length-1<p.length by omega),Option.getD_some];constructor
 ·by_cases h0:i=0
  ·subst h0;exact Int.le_refl _
  ·have:=P 0 i (by omega) hi (by omega);omega
 ·by_cases h0:i=p.length-1
  ·subst h0;exact Int.le_refl _
  ·have:=P i (p.length-1) hi (by omega) (by omega);omega
theorem iO {p:List (Int×Int)} {i:Nat} (hi:i<p.length):p.getD i (0,0)∈p:=by
 simp [zzB,zzI hi]
theorem Kf {p q:List (Int×Int)} (hp:bR p) (hq:bR q) (e:Int):cfL (tmI (aH p+aH q) (kX p q)) e=cvL p (cfL q) e:=by
 rw [zR];unfold kX;obtain ⟨N,hN⟩: ∃N:Nat,(gS p+gS q-(aH p+aH q)+1).toNat=N:=⟨_,rfl⟩;rw [hN];have out: ∀e,(∀t∈p,∀u∈q,t.1+u.1≠e)->cvL p (cfL q) e=0:=fun e h=>VP fun t ht=>oX fun u hu=>by have:=h t ht u hu;omega
 by_cases h1:aH p+aH q<=e
 ·rw [if_pos h1];obtain ⟨x,hx⟩: ∃x:Nat,e=aH p+aH q+x:=⟨(e-(aH p+aH q)).toNat,by omega⟩;rw [hx,show (aH p+aH q+(x:Int)-(aH p+aH q)).toNat=x by omega];have hl:=zS p q (aH p+aH q) p.length (List.replicate N 0);rw [List.length_replicate] at hl;by_cases h2:x<N
  ·rw [NG p q _ _ (fun i j hi hj=>?_) p.length (zzA _) x (by simpa using h2),List.take_length]
   ·simp [zzB,h2]
   ·have a:=tw hp (iO hi);have b:=tw hq (iO hj);rw [List.length_replicate];omega
  ·rw [zzB,List.getElem?_eq_none (by omega)];exact (out _ fun t ht u hu=>by have a:=tw hp ht;have b:=tw hq hu;omega).symm
 ·rw [if_neg h1];exact (out _ fun t ht u hu=>by have a:=tw hp ht;have b:=tw hq hu;omega).symm
end Go.Proofs.YtmdjdekgakidhaaGreatDoor
