/- Plain: circles of a state (for the bracket). -/
import Derived.Test.YtbblgobamoabkaaGreatDoorPl
import Derived.Test.YtbblgobamoabkaaGreatDoorZc
set_option linter.unusedSimpArgs false
set_option linter.unusedVariables false
namespace Go.Proofs.YtbblgobamoabkaaGreatDoor
def ybl (R:List Int) (g h:Nat):List Int:=if R.getD g 0=R.getD h 0 then R else R.map fun r=>if r=R.getD g 0 then R.getD h 0 else r
def roots (R:List Int):Nat:=(List.range R.length).countP fun x=>R.getD x 0==(x:Int)
structure RepR (R:List Int) (N:Nat):Prop where
 len:R.length=N
 rng: ∀x,x<N->0<=R.getD x 0/\R.getD x 0<N
 idem: ∀x,x<N->R.getD (R.getD x 0).toNat 0=R.getD x 0
theorem yru {α β:Type} (l:List α) (f:α->β) (i:Nat) (d:α) (e:β) (h:i<l.length):(l.map f).getD i e=f (l.getD i d):=by simp [h]
section
variable {R:List Int} {N:Nat}
theorem yoa (R:List Int) (g h:Nat):(ybl R g h).length=R.length:=by unfold ybl;split<;>simp
theorem yb0 (hl:R.length=N) {g h x:Nat} (hx:x<N):(ybl R g h).getD x 0=if R.getD x 0=R.getD g 0 then R.getD h 0 else R.getD x 0:=by
 unfold ybl
 split
 ·rename_i e;split
  ·omega
  ·rfl
 ·rw [yru _ _ _ 0 _ (by omega)]
theorem yxg (hR:RepR R N) {g h:Nat} (hg:g<N) (hh:h<N):RepR (ybl R g h) N:=by
 refine ⟨by rw [yoa];exact hR.len,fun x hx=>?_,fun x hx=>?_⟩
 ·rw [yb0 hR.len hx];have:=hR.rng x hx;have:=hR.rng h hh;split<;>omega
 ·rw [yb0 hR.len hx]
  have r1:=hR.rng x hx
  have r2:=hR.rng h hh
  by_cases e:R.getD x 0=R.getD g 0
  ·rw [if_pos e,yb0 hR.len (by omega),hR.idem h hh];split<;>rfl
  ·rw [if_neg e,yb0 hR.len (by omega),hR.idem x hx,if_neg e]
theorem yuy (hl:R.length=N) {g h x y:Nat} (hx:x<N) (hy:y<N) (e:R.getD x 0=R.getD y 0):(ybl R g h).getD x 0=(ybl R g h).getD y 0:=by
 rw [yb0 hl hx,yb0 hl hy,e]
theorem yuz (hl:R.length=N) {g h:Nat} (hg:g<N) (hh:h<N):(ybl R g h).getD g 0=(ybl R g h).getD h 0:=by
 rw [yb0 hl hg,yb0 hl hh,if_pos rfl];split<;>rfl
theorem yrv (p q:Nat->Bool) (N a:Nat) (ha:a<N) (h1:p a=true) (h2:q a=false) (h: ∀x,x<N->x≠a->p x=q x):(List.range N).countP p=(List.range N).countP q+1:=by
 induction N with
 |zero=>omega
 |succ N ih=>
  rw [List.range_succ,List.countP_append,List.countP_append]
  by_cases e:a=N
  ·subst e
   have:(List.range a).countP p=(List.range a).countP q:=List.countP_congr fun x hx=>by
    have:=List.mem_range.1 hx
    rw [h x (by omega) (by omega)]
   simp [this,h1,h2]
  ·have:=ih (by omega) (fun x hx hn=>h x (by omega) hn)
   have e2:=h N (by omega) (by omega)
   simp only [List.countP_cons,List.countP_nil,e2];omega
theorem yrw (hR:RepR R N) {g h:Nat} (hg:g<N) (hh:h<N) (hne:R.getD g 0≠R.getD h 0):roots R=roots (ybl R g h)+1:=by
 have r1:=hR.rng g hg
 unfold roots
 rw [yoa]
 have hl:=hR.len
 refine yrv _ _ R.length (R.getD g 0).toNat (by omega) ?_ ?_ ?_
 ·rw [hR.idem g hg];simp only [beq_iff_eq];omega
 ·rw [yb0 hR.len (by omega),hR.idem g hg,if_pos rfl]
  simp only [beq_eq_false_iff_ne,ne_eq];omega
 ·intro x hx hn
  rw [yb0 hR.len (by omega)]
  by_cases e:R.getD x 0=R.getD g 0
  ·rw [if_pos e,e]
   have e1:(R.getD g 0==(x:Int))=false:=by simp only [beq_eq_false_iff_ne,ne_eq];omega
   have e2:(R.getD h 0==(x:Int))=false:=by
    simp only [beq_eq_false_iff_ne,ne_eq]
    intro e3
    have:=hR.idem h hh
    rw [e3] at this
    simp only [Int.toNat_natCast] at this
    omega
   rw [e1,e2]
  ·rw [if_neg e]
end
structure Inv2 (n:Nat) (mt jn:Int->Int):Prop where
 mr: ∀x,InR n x->InR n (mt x)
 jr: ∀x,InR n x->InR n (jn x)
 mm: ∀x,InR n x->mt (mt x)=x
 jj: ∀x,InR n x->jn (jn x)=x
 mf: ∀x,InR n x->mt x≠x
 jf: ∀x,InR n x->jn x≠x
inductive Cir (mt jn:Int->Int):Int->Int->Prop
 |refl (x:Int):Cir mt jn x x
 |mate {x y:Int} (h:Cir mt jn x y):Cir mt jn x (mt y)
 |join {x y:Int} (h:Cir mt jn x y):Cir mt jn x (jn y)
section
variable {n:Nat} {mt jn:Int->Int}
structure CirR (n:Nat) (mt jn:Int->Int) (R:List Int):Prop where
 rep:RepR R (4*n)
 iff: ∀x y:Nat,x<4*n->y<4*n->(R.getD x 0=R.getD y 0↔Cir mt jn x y)
theorem yfm: ∀{l k:List Nat},l.Nodup->(∀x∈l,x∈k)->l.length<=k.length
 |[],_,_,_=>Nat.zero_le _
 |x::l,k,hn,hs=>by
  have hx:=hs x (by simp)
  obtain ⟨hx',hn'⟩:=List.nodup_cons.1 hn
  have:=yfm (l:=l) (k:=k.erase x) hn' (fun y hy=>(List.mem_erase_of_ne (by intro e;subst e;exact hx' hy)).2 (hs y (by simp [hy])))
  have h2:=List.length_erase_of_mem hx
  have h3:=List.length_pos_of_mem hx
  simp only [List.length_cons];omega
theorem yp7 {R L:List Int} (hR:RepR R (4*n)) (hL:RepR L (4*n)) (h: ∀x y:Nat,x<4*n->y<4*n->(R.getD x 0=R.getD y 0↔L.getD x 0=L.getD y 0)):roots L<=roots R:=by
 unfold roots
 rw [List.countP_eq_length_filter,List.countP_eq_length_filter]
 have hlen:((List.range L.length).filter fun x=>L.getD x 0==(x:Int)).length=(((List.range L.length).filter fun x=>L.getD x 0==(x:Int)).map fun x=>(R.getD x 0).toNat).length:=by simp
 rw [hlen]
 refine yfm ?_ ?_
 ·rw [List.nodup_iff_pairwise_ne,List.pairwise_map]
  refine List.Pairwise.imp_of_mem ?_ (List.nodup_iff_pairwise_ne.1 (List.Nodup.sublist List.filter_sublist List.nodup_range))
  intro a b ha hb hne e
  simp only [List.mem_filter,List.mem_range,beq_iff_eq,hL.len] at ha hb
  have r1:=hR.rng a (by omega)
  have r2:=hR.rng b (by omega)
  have:=(h a b (by omega) (by omega)).1 (by omega)
  omega
 ·intro x hx
  simp only [List.mem_map,List.mem_filter,List.mem_range,beq_iff_eq,hL.len] at hx
  obtain ⟨a,⟨ha,_⟩,rfl⟩:=hx
  have r1:=hR.rng a (by omega)
  have:=hR.idem a (by omega)
  simp only [List.mem_filter,List.mem_range,beq_iff_eq,hR.len]
  omega
theorem ync (hi:Inv2 n mt jn):Perm (fun x=>jn (mt x)) (4*n) (InR n):=
 ⟨fun x hx=>by unfold InR at hx;omega,fun x hx=>hi.jr _ (hi.mr _ hx),fun x y hx hy e=>by
  have h1:=congrArg jn e
  rw [hi.jj _ (hi.mr _ hx),hi.jj _ (hi.mr _ hy)] at h1
  have h2:=congrArg mt h1
  rwa [hi.mm _ hx,hi.mm _ hy] at h2⟩
theorem y02 (hi:Inv2 n mt jn) {x:Int} (hx:InR n x): ∀d i j,i+d=j->it (fun x=>jn (mt x)) j x≠mt (it (fun x=>jn (mt x)) i x)/\it (fun x=>jn (mt x)) i x≠mt (it (fun x=>jn (mt x)) j x):=by
 have hR: ∀j,InR n (it (fun x=>jn (mt x)) j x):=fun j=>(ync hi).it hx j
 have hflip: ∀i j,it (fun x=>jn (mt x)) j x=mt (it (fun x=>jn (mt x)) i x)->it (fun x=>jn (mt x)) i x=mt (it (fun x=>jn (mt x)) j x):=fun i j e=>by rw [e,hi.mm _ (hR i)]
 intro d
 induction d using Nat.strongRecOn with
 |_ d ih=>
  intro i j hd
  have key:it (fun x=>jn (mt x)) j x≠mt (it (fun x=>jn (mt x)) i x):=by
   intro e
   by_cases h0:d=0
   ·obtain rfl:j=i:=by omega
    exact hi.mf _ (hR j) e.symm
   ·by_cases h1:d=1
    ·obtain rfl:j=i+1:=by omega
     exact hi.jf _ (hi.mr _ (hR i)) e
    ·--shift both towards each other
     have e2:it (fun x=>jn (mt x)) (i+1) x=mt (it (fun x=>jn (mt x)) (j-1) x):=by
      show jn (mt (it (fun x=>jn (mt x)) i x))=_
      rw [←e]
      conv=>lhs;rw [show j=(j-1)+1 by omega]
      exact hi.jj _ (hi.mr _ (hR (j-1)))
     exact (ih (d-2) (by omega) (i+1) (j-1) (by omega)).2 e2
  exact ⟨key,fun e=>key (hflip j i e)⟩
end
end Go.Proofs.YtbblgobamoabkaaGreatDoor
set_option linter.unusedSimpArgs false
set_option linter.unusedVariables false
namespace Go.Proofs.YtbblgobamoabkaaGreatDoor
section
variable {l R:List Int} {N:Nat}
end
end Go.Proofs.YtbblgobamoabkaaGreatDoor
set_option linter.unusedSimpArgs false
set_option linter.unusedVariables false
namespace Go.Proofs.YtbblgobamoabkaaGreatDoor
section
variable {n:Nat} {mt jn:Int->Int} {R:List Int}
end
section
variable {m:List Int} {n:Nat} {ch:Nat->Bool}
end
end Go.Proofs.YtbblgobamoabkaaGreatDoor
namespace Go.Proofs.YtbblgobamoabkaaGreatDoor
set_option linter.unusedSimpArgs false
set_option linter.unusedVariables false
inductive Con4 (mt jn:Int->Int) (c:Int):Int->Int->Prop
 |refl (x:Int):Con4 mt jn c x x
 |mate {x y:Int} (h:Con4 mt jn c x y):Con4 mt jn c x (mt y)
 |join {x y:Int} (h:Con4 mt jn c x y) (hy:y/4≠c):Con4 mt jn c x (jn y)
 |any {x y z:Int} (h:Con4 mt jn c x y) (hy:y/4=c) (hz:z/4=c):Con4 mt jn c x z
theorem Con4.trans {mt jn:Int->Int} {c x y z:Int} (h1:Con4 mt jn c x y) (h2:Con4 mt jn c y z):Con4 mt jn c x z:=by
 induction h2 with
 |refl=>exact h1
 |mate _ ih=>exact .mate ih
 |join _ hy ih=>exact .join ih hy
 |any _ hy hz ih=>exact .any ih hy hz
structure Way (n:Nat) (mt jn:Int->Int) (c:Nat) (x e:Int) (O:Int->Prop):Prop where
 inX:O x
 inE:O e
 ne:e≠x
 eC:e/4=c
 ends: ∀y,O y->y/4=c->y=x\/y=e
 mate: ∀y,O y->O (mt y)
 join: ∀y,O y->y/4≠c->O (jn y)
 rng: ∀y,O y->InR n y
section
variable {n:Nat} {mt jn:Int->Int} {c:Nat}
def JnC (jn:Int->Int):Prop:= ∀x,jn x/4=x/4
theorem way (hi:Inv2 n mt jn) (hj:JnC jn) {x:Int} (hx:InR n x) (hxc:x/4=c): ∃e O,Way n mt jn c x e O/\ ∀kn:Int->Int,(∀y:Int,0<=y->y/4≠c->kn y=jn y)-> ∀y,O y->Cir mt kn x y:=by
 have hR: ∀j,InR n (it (fun x=>jn (mt x)) j x):=fun j=>(ync hi).it hx j
 obtain ⟨k,hk,hper⟩:=(ync hi).per hx
 have hk0:=hper.pos
 have hback:=hper.back
 have ex: ∃j,mt (it (fun x=>jn (mt x)) j x)/4=c:=by
  refine ⟨k-1,?_⟩
  have e:it (fun x=>jn (mt x)) ((k-1)+1) x=x:=by rw [show k-1+1=k by omega];exact hback
  have e2:jn (mt (it (fun x=>jn (mt x)) (k-1) x))=x:=e
  rw [←hj,e2,hxc]
 have yma: ∀b,(∃j,j<=b/\mt (it (fun x=>jn (mt x)) j x)/4=c)-> ∃j,mt (it (fun x=>jn (mt x)) j x)/4=c/\ ∀i,i<j->mt (it (fun x=>jn (mt x)) i x)/4≠c:=by
  intro b
  induction b with
  |zero=>rintro ⟨j,hj,h⟩;obtain rfl:j=0:=by omega
         exact ⟨0,h,fun i hi=>by omega⟩
  |succ b ih=>
   rintro ⟨j,hj,h⟩
   by_cases hq: ∃j,j<=b/\mt (it (fun x=>jn (mt x)) j x)/4=c
   ·exact ih hq
   ·refine ⟨j,h,fun i hi hc=>hq ⟨i,by omega,hc⟩⟩
 obtain ⟨j0,h0⟩:=ex
 obtain ⟨j,hjc,hjl⟩:=yma j0 ⟨j0,Nat.le_refl _,h0⟩
 have succ: ∀i,it (fun x=>jn (mt x)) (i+1) x=jn (mt (it (fun x=>jn (mt x)) i x)):=fun i=>rfl
 have off: ∀i,0<i->i<=j->it (fun x=>jn (mt x)) i x/4≠c:=fun i h1 h2=>by
  obtain ⟨i,rfl⟩: ∃i',i=i'+1:=⟨i-1,by omega⟩
  rw [succ,hj];exact hjl i (by omega)
 refine ⟨mt (it (fun x=>jn (mt x)) j x),fun y=> ∃i,i<=j/\(y=it (fun x=>jn (mt x)) i x\/y=mt (it (fun x=>jn (mt x)) i x)),⟨⟨0,by omega, .inl rfl⟩,⟨j,Nat.le_refl _, .inr rfl⟩,?_,hjc,?_,?_,?_,?_⟩,?_⟩
 ·exact fun e=>(y02 hi hx j 0 j (by omega)).2 e.symm
 ·rintro y ⟨i,hij,rfl|rfl⟩ hyc
  ·by_cases hi0:i=0
   ·subst hi0;exact .inl rfl
   ·exact absurd hyc (off i (by omega) hij)
  ·by_cases hi0:i=j
   ·subst hi0;exact .inr rfl
   ·exact absurd hyc (hjl i (by omega))
 ·rintro y ⟨i,hij,rfl|rfl⟩
  ·exact ⟨i,hij, .inr rfl⟩
  ·exact ⟨i,hij, .inl (hi.mm _ (hR i))⟩
 ·rintro y ⟨i,hij,rfl|rfl⟩ hyc
  ·by_cases hi0:i=0
   ·subst hi0;exact absurd hxc hyc
   ·obtain ⟨i,rfl⟩: ∃i',i=i'+1:=⟨i-1,by omega⟩
    exact ⟨i,by omega, .inr (by rw [succ,hi.jj _ (hi.mr _ (hR i))])⟩
  ·by_cases hi0:i=j
   ·subst hi0;exact absurd hjc hyc
   ·exact ⟨i+1,by omega, .inl rfl⟩
 ·rintro y ⟨i,hij,rfl|rfl⟩
  ·exact hR i
  ·exact hi.mr _ (hR i)
 ·intro kn hkn y hy
  have hc: ∀i,i<=j->Cir mt kn x (it (fun x=>jn (mt x)) i x):=by
   intro i
   induction i with
   |zero=>intro _;exact .refl _
   |succ i ih=>
    intro hij
    rw [succ,←hkn _ (by have:=hi.mr _ (hR i);unfold InR at this;exact this.1) (hjl i (by omega))]
    exact .join (.mate (ih (by omega)))
  obtain ⟨i,hij,rfl|rfl⟩:=hy
  ·exact hc i hij
  ·exact .mate (hc i hij)
theorem yp8 (hi:Inv2 n mt jn) (hj:JnC jn) {R:List Int} (hR:CirR n mt jn R) {x y:Nat} (hx:x<4*n) (hy:y<4*n) (hxc:x/4=c) (hyc:y/4=c)
  (hall: ∀z:Int,z/4=c->z=x\/z=jn x\/z=y\/z=jn y):
  RepR (ybl R x y) (4*n)/\ ∀a b:Nat,a<4*n->b<4*n->((ybl R x y).getD a 0=(ybl R x y).getD b 0↔Con4 mt jn c a b):=by
 have hl:=hR.rep.len
 have ir: ∀x:Nat,x<4*n->InR n (x:Int):=fun x hx=>by unfold InR;omega
 have toC: ∀{a b:Int},Cir mt jn a b->Con4 mt jn c a b:=fun h=>by
  induction h with
  |refl=>exact .refl _
  |mate _ ih=>exact .mate ih
  | @join z _ ih=>
    by_cases hz:z/4=c
    ·exact .any ih hz (by rw [hj];exact hz)
    ·exact .join ih hz
 have xy:Con4 mt jn c x y:= .any (.refl _) (by omega) (by omega)
 have yx:Con4 mt jn c y x:= .any (.refl _) (by omega) (by omega)
 refine ⟨yxg hR.rep hx hy,fun a b ha hb=>⟨fun e=>?_,fun h=>?_⟩⟩
 ·rw [yb0 hl ha,yb0 hl hb] at e
  by_cases c1:R.getD a 0=R.getD x 0
  ·rw [if_pos c1] at e
   by_cases c2:R.getD b 0=R.getD x 0
   ·exact toC ((hR.iff a b ha hb).1 (c1.trans c2.symm))
   ·rw [if_neg c2] at e
    exact ((toC ((hR.iff a x ha hx).1 c1)).trans xy).trans (toC ((hR.iff y b hy hb).1 e))
  ·rw [if_neg c1] at e
   by_cases c2:R.getD b 0=R.getD x 0
   ·rw [if_pos c2] at e
    exact ((toC ((hR.iff a y ha hy).1 e)).trans yx).trans (toC ((hR.iff x b hx hb).1 c2.symm))
   ·rw [if_neg c2] at e
    exact toC ((hR.iff a b ha hb).1 e)
 ·have cx:(ybl R x y).getD x 0=(ybl R x y).getD y 0:=yuz hl hx hy
  have stC: ∀u v:Nat,u<4*n->v<4*n->Cir mt jn u v->(ybl R x y).getD u 0=(ybl R x y).getD v 0:=fun u v hu hv h=>yuy hl hu hv ((hR.iff u v hu hv).2 h)
  have jx:=hi.jr _ (ir x hx)
  have jy:=hi.jr _ (ir y hy)
  have four: ∀z:Nat,z<4*n->z/4=c->(ybl R x y).getD z 0=(ybl R x y).getD x 0:=fun z hz hzc=>by
   rcases hall z (by omega) with h|h|h|h
   ·rw [show z=x by omega]
   ·exact (stC x z hx hz (by rw [h];exact .join (.refl _))).symm
   ·rw [show z=y by omega];exact cx.symm
   ·rw [cx];exact (stC y z hy hz (by rw [h];exact .join (.refl _))).symm
  have key: ∀z,Con4 mt jn c a z->InR n z->InR n z/\(ybl R x y).getD z.toNat 0=(ybl R x y).getD a 0:=by
   intro z hz
   induction hz with
   |refl=>exact fun h=>⟨h,by rw [Int.toNat_natCast]⟩
   | @mate u h ih=>
     intro hr
     have hu:InR n u:=by
      have: ∀w,Con4 mt jn c a w->InR n w:=fun w hw=>by
       induction hw with
       |refl=>exact ir a ha
       |mate _ ih2=>exact hi.mr _ ih2
       |join _ _ ih2=>exact hi.jr _ ih2
       |any h hy' hz' ih2=>unfold InR at*;omega
      exact this u h
     obtain ⟨_,e⟩:=ih hu
     refine ⟨hr,?_⟩
     unfold InR at hu hr
     rw [←e]
     exact (stC u.toNat (mt u).toNat (by omega) (by omega) (by rw [show ((u.toNat:Nat):Int)=u by omega,show (((mt u).toNat:Nat):Int)=mt u by omega];exact .mate (.refl _))).symm
   | @join u h hu4 ih=>
     intro hr
     have hu:InR n u:=by
      have: ∀w,Con4 mt jn c a w->InR n w:=fun w hw=>by
       induction hw with
       |refl=>exact ir a ha
       |mate _ ih2=>exact hi.mr _ ih2
       |join _ _ ih2=>exact hi.jr _ ih2
       |any h hy' hz' ih2=>unfold InR at*;omega
      exact this u h
     obtain ⟨_,e⟩:=ih hu
     refine ⟨hr,?_⟩
     unfold InR at hu hr
     rw [←e]
     exact (stC u.toNat (jn u).toNat (by omega) (by omega) (by rw [show ((u.toNat:Nat):Int)=u by omega,show (((jn u).toNat:Nat):Int)=jn u by omega];exact .join (.refl _))).symm
   | @any u v h hu4 hv4 ih=>
     intro hr
     have hu:InR n u:=by unfold InR;omega
     obtain ⟨_,e⟩:=ih hu
     refine ⟨hr,?_⟩
     unfold InR at hu hr
     rw [←e,four v.toNat (by omega) (by omega),four u.toNat (by omega) (by omega)]
  have:=(key b h (ir b hb)).2
  rw [Int.toNat_natCast] at this
  exact this.symm
end
def pr3:Nat->Int->Int
 |0,x=>jnB false x
 |1,x=>jnB true x
 |_,x=>x-x % 4+(x % 4+2)% 4
theorem y03 (c:Int):pr3 0 (4*c)=4*c+1/\pr3 0 (4*c+1)=4*c/\pr3 0 (4*c+2)=4*c+3/\pr3 0 (4*c+3)=4*c+2/\
  pr3 1 (4*c)=4*c+3/\pr3 1 (4*c+1)=4*c+2/\pr3 1 (4*c+2)=4*c+1/\pr3 1 (4*c+3)=4*c/\
  pr3 2 (4*c)=4*c+2/\pr3 2 (4*c+1)=4*c+3/\pr3 2 (4*c+2)=4*c/\pr3 2 (4*c+3)=4*c+1:=by
 have o: ∀x:Int,x % 2=1->jnB true x=x-x % 4+(x % 4+5)% 4/\jnB false x=x-x % 4+(x % 4+3)% 4:=fun x h=>by
  unfold jnB;rw [yen,yc7,decide_eq_true h];exact ⟨if_pos rfl,if_neg (by simp)⟩
 have e: ∀x:Int,¬x % 2=1->jnB true x=x-x % 4+(x % 4+3)% 4/\jnB false x=x-x % 4+(x % 4+5)% 4:=fun x h=>by
  unfold jnB;rw [yen,yc7,decide_eq_false h];exact ⟨if_neg (by simp),if_pos rfl⟩
 simp only [pr3]
 rw [(e _ (by omega)).1,(o _ (by omega)).1,(e _ (by omega)).1,(o _ (by omega)).1,(e _ (by omega)).2,(o _ (by omega)).2,(e _ (by omega)).2,(o _ (by omega)).2]
 omega
theorem y3w: ∀(t:Nat) (x:Int),pr3 t (pr3 t x)=x
 |0,x=>yds _ _
 |1,x=>yds _ _
 |t+2,x=>by simp only [pr3];omega
theorem y04 {n:Nat} {mt:Int->Int} {j:Nat->Int->Int} {c:Nat} (hc:c<n) (hi: ∀t,t<3->Inv2 n mt (j t)) (hj: ∀t,t<3->JnC (j t)) (hat: ∀t,t<3-> ∀x:Int,x/4=c->j t x=pr3 t x) (hoff: ∀t,t<3-> ∀x:Int,0<=x->x/4≠c->j t x=j 0 x)
  {R:Nat->List Int} (hR: ∀t,t<3->CirR n mt (j t) (R t)): ∃K t0,t0<3/\(∀t,t<3->roots (R t)=if t=t0 then K+1 else K)/\ ∀t,t<3->t≠t0-> ∀y:Nat,y<4*n->y/4=c->(R t).getD (4*c) 0=(R t).getD y 0:=by
 obtain ⟨e,O,hw,hreach⟩:=way (c:=c) (hi 0 (by omega)) (hj 0 (by omega)) (x:=4*c) (by unfold InR;omega) (by omega)
 have V:=y03 c
 have eC:=hw.eC
 have eN:=hw.ne
 have eR:=hw.rng e hw.inE
 obtain ⟨t0,ht0,hte⟩: ∃t0,t0<3/\pr3 t0 (4*c)=e:=by
  rcases (show e=4*c+1\/e=4*c+2\/e=4*c+3 by omega) with h|h|h
  ·exact ⟨0,by omega,by omega⟩
  ·exact ⟨2,by omega,by omega⟩
  ·exact ⟨1,by omega,by omega⟩
 have all4: ∀t,t<3-> ∀y:Int,y/4=c->y≠4*c->y≠j t (4*c)-> ∀z:Int,z/4=c->z=4*c\/z=j t (4*c)\/z=y\/z=j t y:=fun t ht y hy h1 h2 z hz=>by
  rw [hat t ht _ (by omega)] at h2⊢
  rw [hat t ht y hy]
  rcases (show y=4*c+1\/y=4*c+2\/y=4*c+3 by omega) with rfl|rfl|rfl<;>
  rcases (show z=4*c\/z=4*c+1\/z=4*c+2\/z=4*c+3 by omega) with rfl|rfl|rfl|rfl<;>
  rcases (show t=0\/t=1\/t=2 by omega) with rfl|rfl|rfl<;>omega
 have rngC: ∀t,t<3-> ∀a b,InR n a->Con4 mt (j t) c a b->InR n b:=fun t ht a b ha h=>by
  induction h with
  |refl=>exact ha
  |mate _ ih=>exact (hi t ht).mr _ ih
  |join _ _ ih=>exact (hi t ht).jr _ ih
  |any _ hy hz ih=>unfold InR at*;omega
 have conEq: ∀t,t<3-> ∀a b,InR n a->(Con4 mt (j t) c a b↔Con4 mt (j 0) c a b):=fun t ht a b ha=>by
  constructor
  ·intro h
   induction h with
   |refl=>exact .refl _
   |mate _ ih=>exact .mate ih
   |join h hy ih=>rw [hoff t ht _ (rngC t ht _ _ ha h).1 hy];exact .join ih hy
   |any _ hy hz ih=>exact .any ih hy hz
  ·intro h
   induction h with
   |refl=>exact .refl _
   |mate _ ih=>exact .mate ih
   |join h hy ih=>rw [←hoff t ht _ (rngC 0 (by omega) _ _ ha h).1 hy];exact .join ih hy
   |any _ hy hz ih=>exact .any ih hy hz
 have J: ∀t,t<3-> ∃y:Nat,y<4*n/\y/4=c/\(y:Int)≠4*c/\(y:Int)≠j t (4*c)/\(t≠t0->(y:Int)=e):=fun t ht=>by
  by_cases h:t=t0
  ·subst h
   have h1:=hat t ht (4*c) (by omega)
   by_cases h2:j t (4*c)=4*c+1
   ·exact ⟨4*c+2,by omega,by omega,by omega,by omega,fun h=>absurd rfl h⟩
   ·exact ⟨4*c+1,by omega,by omega,by omega,by omega,fun h=>absurd rfl h⟩
  ·unfold InR at eR
   refine ⟨e.toNat,by omega,by omega,by omega,?_,fun _=>by omega⟩
   rw [hat t ht _ (by omega),show ((e.toNat:Nat):Int)=e by omega,←hte]
   rcases (show t=0\/t=1\/t=2 by omega) with rfl|rfl|rfl<;>
   rcases (show t0=0\/t0=1\/t0=2 by omega) with rfl|rfl|rfl<;>omega
 have hxN:4*c<4*n:=by omega
 have xcast:((4*c:Nat):Int)=4*(c:Int):=by omega
 obtain ⟨y0,hy0,hy1,hy2,hy3,hy4⟩:=J t0 ht0
 obtain ⟨K,hK⟩: ∃K,roots (ybl (R t0) (4*c) y0)=K:=⟨_,rfl⟩
 have same: ∀t,t<3-> ∀y:Nat,y<4*n->y/4=c->(y:Int)≠4*c->(y:Int)≠j t (4*c)->roots (ybl (R t) (4*c) y)=K:=fun t ht y h1 h2 h3 h4=>by
  rw [←hK]
  have A:=yp8 (c:=c) (hi t ht) (hj t ht) (hR t ht) (x:=4*c) hxN h1 (by omega) h2 (by rw [xcast];exact all4 t ht y (by omega) h3 h4)
  have B:=yp8 (c:=c) (hi t0 ht0) (hj t0 ht0) (hR t0 ht0) (x:=4*c) hxN hy0 (by omega) hy1 (by rw [xcast];exact all4 t0 ht0 y0 (by omega) hy2 hy3)
  have AB: ∀a b:Nat,a<4*n->b<4*n->((ybl (R t) (4*c) y).getD a 0=(ybl (R t) (4*c) y).getD b 0↔(ybl (R t0) (4*c) y0).getD a 0=(ybl (R t0) (4*c) y0).getD b 0):=fun a b ha hb=>by
   have ia:InR n (a:Int):=by unfold InR;omega
   rw [A.2 a b ha hb,B.2 a b ha hb,conEq t ht _ _ ia,conEq t0 ht0 _ _ ia]
  exact Nat.le_antisymm (yp7 B.1 A.1 fun a b ha hb=>(AB a b ha hb).symm) (yp7 A.1 B.1 AB)
 have on: ∀t,t<3->t≠t0-> ∀y:Nat,y<4*n->y/4=c->(R t).getD (4*c) 0=(R t).getD y 0:=fun t ht h y hy hyc=>by
  obtain ⟨w,h1,h2,h3,h4,h5⟩:=J t ht
  have e0:(R t).getD (4*c) 0=(R t).getD w 0:=((hR t ht).iff _ _ hxN h1).2 (by
   rw [xcast,h5 h];exact hreach (j t) (fun z h0 hz=>hoff t ht z h0 hz) e hw.inE)
  rcases all4 t ht w (by omega) h3 h4 y (by omega) with h6|h6|h6|h6
  ·rw [show y=4*c by omega]
  ·exact ((hR t ht).iff _ _ hxN hy).2 (by rw [xcast,h6];exact .join (.refl _))
  ·rw [e0,show y=w by omega]
  ·rw [e0];exact ((hR t ht).iff _ _ h1 hy).2 (by rw [h6];exact .join (.refl _))
 refine ⟨K,t0,ht0,fun t ht=>?_,on⟩
 by_cases h:t=t0
 ·rw [if_pos h]
  subst h
  rw [←hK]
  refine yrw (hR t ht).rep hxN hy0 fun e1=>?_
  have hc1:=((hR t ht).iff _ _ hxN hy0).1 e1
  rw [xcast] at hc1
  have inO: ∀z,Cir mt (j t) (4*c) z->O z:=fun z hz=>by
   induction hz with
   |refl=>exact hw.inX
   |mate _ ih=>exact hw.mate _ ih
   | @join u _ ih=>
     by_cases hu:u/4=c
     ·rw [hat t ht u hu]
      rcases hw.ends u ih hu with rfl|rfl
      ·rw [hte];exact hw.inE
      ·rw [←hte,y3w];exact hw.inX
     ·rw [hoff t ht u (hw.rng u ih).1 hu];exact hw.join u ih hu
  rcases hw.ends _ (inO _ hc1) (by omega) with h5|h5
  ·exact hy2 h5
  ·rw [hat t ht _ (by omega),hte] at hy3;exact hy3 h5
 ·rw [if_neg h]
  obtain ⟨y,h1,h2,h3,h4,h5⟩:=J t ht
  rw [←same t ht y h1 h2 h3 h4]
  have:(R t).getD (4*c) 0=(R t).getD y 0:=((hR t ht).iff _ _ hxN h1).2 (by
   rw [xcast,h5 h];exact hreach (j t) (fun z h0 hz=>hoff t ht z h0 hz) e hw.inE)
  unfold ybl;rw [if_pos this]
theorem yu0 {n:Nat} {mt:Int->Int} {j:Nat->Int->Int} {c:Nat} (hc:c<n) (hi: ∀t,t<3->Inv2 n mt (j t)) (hj: ∀t,t<3->JnC (j t)) (hat: ∀t,t<3-> ∀x:Int,x/4=c->j t x=pr3 t x) (hoff: ∀t,t<3-> ∀x:Int,0<=x->x/4≠c->j t x=j 0 x)
  {R:Nat->List Int} (hR: ∀t,t<3->CirR n mt (j t) (R t)): ∃K t0,t0<3/\ ∀t,t<3->roots (R t)=if t=t0 then K+1 else K:=by
 obtain ⟨K,t0,h1,h2,_⟩:=y04 hc hi hj hat hoff hR
 exact ⟨K,t0,h1,h2⟩
end Go.Proofs.YtbblgobamoabkaaGreatDoor
namespace Go.Proofs.YtbblgobamoabkaaGreatDoor
set_option linter.unusedSimpArgs false
set_option linter.unusedVariables false
section
variable {K:Nat} {c:Nat->Nat} {w:Nat->Int}
end
theorem AscN.len {p:List (Int×Int)} (h:AscN p): ∀{a b:Int},(∀t∈p,a<=t.1/\t.1<=b)->(p.length:Int)<=max 0 (b-a+1):=by
 induction p with
 |nil=>intro a b _;simp;omega
 |cons t p ih=>
  intro a b hb
  have h1:=hb t (List.mem_cons_self ..)
  have:=ih h.tail (a:=t.1+1) (b:=b) fun u hu=>by
   have h2:=h.head u hu
   have h3:=hb u (List.mem_cons_of_mem _ hu)
   omega
  simp only [List.length_cons]
  omega
end Go.Proofs.YtbblgobamoabkaaGreatDoor
