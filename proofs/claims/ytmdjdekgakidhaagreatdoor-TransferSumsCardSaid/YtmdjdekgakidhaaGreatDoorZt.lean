/- Plain: the terms of a list of coefficients. -/
import Derived.Test.YtmdjdekgakidhaaGreatDoorZh
import Derived.Test.YtmdjdekgakidhaaGreatDoorSq
import Derived.Test.YtmdjdekgakidhaaGreatDoorZk
set_option linter.unusedSimpArgs false
set_option linter.unusedVariables false
namespace Go.Proofs.YtmdjdekgakidhaaGreatDoor
set_option linter.unusedVariables false
namespace Sp
end Sp
end Go.Proofs.YtmdjdekgakidhaaGreatDoor
set_option linter.unusedSimpArgs false
set_option linter.unusedVariables false
namespace Go.Proofs.YtmdjdekgakidhaaGreatDoor
namespace Sp
section
variable {s m:List Int} {L:Int} {n c:Nat} {b:Bool}
theorem dia_of (hv:yah s m L=true):Dia m s.length/\sphR m s.length=true:=by
 have v:=ya8 hv
 refine ⟨⟨v.prd,fun x hx=>(v.mt x hx).2.2.1⟩,?_⟩
 rw [yi8] at hv
 unfold yh3 at hv
 exact (Bool.and_eq_true _ _▸hv).2
theorem jnB_out {x:Int} (hs:s.getD c 0=1\/s.getD c 0= -1) (hx:x/4=c):outB s (jnB (s.getD c 0== -1) x)= !outB s x:=by
 have e:x=4*c\/x=4*c+1\/x=4*c+2\/x=4*c+3:=by omega
 have d0:(4*(c:Int))/4=c/\(4*(c:Int)+1)/4=c/\(4*(c:Int)+2)/4=c/\(4*(c:Int)+3)/4=c:=by omega
 have r0:(4*(c:Int))% 4=0/\(4*(c:Int)+1)% 4=1/\(4*(c:Int)+2)% 4=2/\(4*(c:Int)+3)% 4=3:=by omega
 obtain ⟨d1,d2,d3,d4⟩:=d0
 obtain ⟨r1,r2,r3,r4⟩:=r0
 rcases hs with hs|hs
 ·have hb:(s.getD c 0== -1)=false:=by rw [hs];decide
  rw [hb]
  obtain ⟨j1,j2,j3,j4⟩:=jnF c
  rcases e with rfl|rfl|rfl|rfl
  ·rw [j1];simp only [outB,d1,d2,r1,r2,Int.toNat_natCast,hs];decide
  ·rw [j2];simp only [outB,d1,d2,r1,r2,Int.toNat_natCast,hs];decide
  ·rw [j3];simp only [outB,d3,d4,r3,r4,Int.toNat_natCast,hs];decide
  ·rw [j4];simp only [outB,d3,d4,r3,r4,Int.toNat_natCast,hs];decide
 ·have hb:(s.getD c 0== -1)=true:=by rw [hs];decide
  rw [hb]
  obtain ⟨j1,j2,j3,j4⟩:=jnT c
  rcases e with rfl|rfl|rfl|rfl
  ·rw [j1];simp only [outB,d1,d4,r1,r4,Int.toNat_natCast,hs];decide
  ·rw [j2];simp only [outB,d2,d3,r2,r3,Int.toNat_natCast,hs];decide
  ·rw [j3];simp only [outB,d2,d3,r2,r3,Int.toNat_natCast,hs];decide
  ·rw [j4];simp only [outB,d1,d4,r1,r4,Int.toNat_natCast,hs];decide
end
end Sp
end Go.Proofs.YtmdjdekgakidhaaGreatDoor
namespace Go.Proofs.YtmdjdekgakidhaaGreatDoor
namespace Sp
section
variable {s m:List Int} {L:Int} {n c k:Nat}
theorem mvM_get {to:Int->Int} {t:Nat->Nat} (ht: ∀x:Nat,to x=t x) (hi: ∀x y,t x=t y->x=y) (hl: ∀x,x<m.length->t x<m.length): ∀k,k<=m.length-> ∀i,i<k->(mvM m to k).getD (t i) 0=to (m.getD i 0)
 |0,_,i,h=>by omega
 |k+1,hk,i,h=>by
  have hlen:=ykv m to k
  simp only [mvM]
  rw [ht k,Int.toNat_natCast]
  by_cases e:i=k
  ·subst e;rw [yaz (by rw [hlen];exact hl i (by omega))]
  ·rw [yar (fun e'=>e (hi _ _ e').symm)];exact mvM_get ht hi hl k (by omega) i (by omega)
def kT (s:List Int) (c:Nat):Nat:=if s.getD c 0=1 then 1 else 3
theorem kT_or:kT s c=1\/kT s c=3:=by unfold kT;split<;>simp
end
end Sp
end Go.Proofs.YtmdjdekgakidhaaGreatDoor
namespace Go.Proofs.YtmdjdekgakidhaaGreatDoor
namespace Sp
section
variable {s m:List Int} {L:Int} {n c k:Nat}
end
end Sp
end Go.Proofs.YtmdjdekgakidhaaGreatDoor
namespace Go.Proofs.YtmdjdekgakidhaaGreatDoor
namespace Sp
end Sp
end Go.Proofs.YtmdjdekgakidhaaGreatDoor
namespace Go.Proofs.YtmdjdekgakidhaaGreatDoor
namespace Sp
section
variable {s m:List Int} {L:Int} {n c k:Nat}
end
end Sp
end Go.Proofs.YtmdjdekgakidhaaGreatDoor
namespace Go.Proofs.YtmdjdekgakidhaaGreatDoor
namespace Sp
section
variable {s m:List Int} {L:Int} {n c k:Nat}
end
end Sp
end Go.Proofs.YtmdjdekgakidhaaGreatDoor
namespace Go.Proofs.YtmdjdekgakidhaaGreatDoor
set_option linter.unusedSimpArgs false
set_option linter.unusedVariables false
set_option linter.unusedSectionVars false
namespace Sp
open Classical
section
variable {N:Nat} {si al si':Nat->Nat}
theorem y1o (hs:PermN N si) (hs':PermN N si') (h1: ∀x,x<N->si (si' x)=x) {x y:Nat} (hx:x<N) (h:SC si' x y):SC si x y:=by
 have hE:=SC.eqv hs
 refine yin hs' hE (fun z hz=>?_) hx h
 have:SC si (si' z) (si (si' z)):=SC.step _ _
 rw [h1 z hz] at this
 exact hE.symm _ _ (hs'.lt z hz) hz this
theorem Sph.opp (h:Sph N si al) (hs':PermN N si') (h1: ∀x,x<N->si (si' x)=x) (h2: ∀x,x<N->si' (si x)=x):Sph N si' al:=by
 have hs:=h.perm
 have ha:=h.mat
 have scE: ∀x y,x<N->y<N->(SC si x y↔SC si' x y):=fun x y hx hy=>⟨fun k=>y1o hs' hs h2 hx k,fun k=>y1o hs hs' h1 hx k⟩
 have kE: ∀x y,x<N->y<N->(KK si al N x y↔KK si' al N x y):=fun x y hx hy=>by
  constructor
  ·intro k
   exact K_least hs ha (K_eqv hs' ha) (fun z hz=>K_sc hs' ha hz ((scE z _ hz (hs.lt z hz)).1 (SC.step si z))) (fun z hz=>K_al hs' ha hz) hx hy k
  ·intro k
   exact K_least hs' ha (K_eqv hs ha) (fun z hz=>K_sc hs ha hz ((scE z _ hz (hs'.lt z hz)).2 (SC.step si' z))) (fun z hz=>K_al hs ha hz) hx hy k
 have hpm:=phK_perm hs ha N (Nat.le_refl _)
 have hpm':=phK_perm hs' ha N (Nat.le_refl _)
 have fE: ∀x y,x<N->SC (phK si' al N) x y->SC (phK si al N) (al x) (al y):=fun x y hx k=>by
  have hEq:EqvN N (fun a b=>SC (phK si al N) (al a) (al b)):=⟨fun a ha'=> .refl _ _,fun a b ha' hb k=>k.symm hpm (ha.lt a ha'),fun a b c _ _ _ k l=>k.trans l⟩
  refine yin hpm' hEq (fun z hz=>?_) hx k
  have hz1:=ha.lt z hz
  have hz2:=hs'.lt _ hz1
  have e:phK si al N (al (phK si' al N z))=al z:=by
   rw [ph_N ha hz,ph_N ha (ha.lt _ hz2),ha.inv _ hz2,h1 _ hz1]
  have st:=SC.step (phK si al N) (al (phK si' al N z))
  rw [e] at st
  exact st.symm hpm (ha.lt _ (hpm'.lt z hz))
 have fE': ∀x y,x<N->SC (phK si al N) x y->SC (phK si' al N) (al x) (al y):=fun x y hx k=>by
  have hEq:EqvN N (fun a b=>SC (phK si' al N) (al a) (al b)):=⟨fun a ha'=> .refl _ _,fun a b ha' hb k=>k.symm hpm' (ha.lt a ha'),fun a b c _ _ _ k l=>k.trans l⟩
  refine yin hpm hEq (fun z hz=>?_) hx k
  have hz1:=ha.lt z hz
  have hz2:=hs.lt _ hz1
  have e:phK si' al N (al (phK si al N z))=al z:=by
   rw [ph_N ha hz,ph_N ha (ha.lt _ hz2),ha.inv _ hz2,h2 _ hz1]
  have st:=SC.step (phK si' al N) (al (phK si al N z))
  rw [e] at st
  exact st.symm hpm' (ha.lt _ (hpm.lt z hz))
 refine ⟨hs',ha,fun r hr lV lF hV hF=>?_⟩
 have hV':Tr N (KK si al N r) (SC si) lV:=hV.congrU (fun x hx=>(kE r x hr hx).symm) (fun x y hx hy _ _=>(scE x y hx hy).symm)
 have hF':Tr N (KK si al N r) (SC (phK si al N)) (lF.map al):=by
  refine ⟨fun x hx=>?_,?_,fun x hx y hy e=>?_,fun x hx hU=>?_⟩
  ·obtain ⟨z,hz,rfl⟩:=List.mem_map.1 hx
   have hm:=hF.mem z hz
   have k1:=(kE r z hr hm.1).2 hm.2
   exact ⟨ha.lt z hm.1,((K_cl hs ha hr).2 z hm.1).1 k1⟩
  ·rw [List.nodup_iff_pairwise_ne,List.pairwise_map]
   exact List.Pairwise.imp_of_mem (fun {a b} h1 h2 hne e=>hne (by rw [←ha.inv a (hF.mem a h1).1,e,ha.inv b (hF.mem b h2).1])) (List.nodup_iff_pairwise_ne.1 hF.nodup)
  ·obtain ⟨z,hz,rfl⟩:=List.mem_map.1 hx
   obtain ⟨u,hu,rfl⟩:=List.mem_map.1 hy
   have m1:=(hF.mem z hz).1
   have m2:=(hF.mem u hu).1
   have:=fE' _ _ (ha.lt z m1) e
   rw [ha.inv z m1,ha.inv u m2] at this
   rw [hF.apart z hz u hu this]
  ·have hx':=ha.lt x hx
   obtain ⟨y,hy,k⟩:=hF.all (al x) hx' ((kE r _ hr hx').1 (((K_cl hs ha hr).2 x hx).1 hU))
   refine ⟨al y,List.mem_map.2 ⟨y,hy,rfl⟩,?_⟩
   have:=fE _ _ hx' k
   rw [ha.inv x hx] at this
   exact this
 have:=h.eq r hr lV (lF.map al) hV' hF'
 rw [List.length_map] at this
 rw [this]
 congr 1
 exact ydy fun x hx=>by rw [kE r x hr hx]
end
end Sp
structure Rel (n:Nat) (f g:Nat->Nat) (m m':List Int):Prop where
 fl: ∀x,x<4*n->f x<4*n
 gl: ∀x,x<4*n->g x<4*n
 gf: ∀x,x<4*n->g (f x)=x
 fg: ∀x,x<4*n->f (g x)=x
 len:m'.length=4*n
 mate: ∀x,x<4*n->m'.getD (f x) 0=(f (m.getD x 0).toNat:Int)
section
variable {n:Nat} {f g:Nat->Nat} {m m':List Int}
theorem Rel.gmate (h:Rel n f g m m') (hp:PmOk m n) {y:Nat} (hy:y<4*n):m'.getD y 0=(f (m.getD (g y) 0).toNat:Int):=by
 have:=h.mate (g y) (h.gl y hy)
 rw [h.fg y hy] at this
 exact this
theorem Rel.pm (h:Rel n f g m m') (hp:PmOk m n):PmOk m' n:=by
 have mr: ∀x,x<4*n->(m.getD x 0).toNat<4*n/\0<=m.getD x 0:=fun x hx=>by have:=hp.ok.2 x hx;omega
 refine ⟨⟨h.len,fun y hy=>?_⟩,fun y hy=>?_,fun y hy=>?_⟩
 ·rw [h.gmate hp hy]
  have:=h.fl _ (mr _ (h.gl y hy)).1
  omega
 ·have hg:=h.gl y hy
  rw [h.gmate hp hy,Int.toNat_natCast,h.mate _ (mr _ hg).1,hp.inv _ hg,Int.toNat_natCast,h.fg y hy]
 ·rw [h.gmate hp hy]
  intro e
  have hg:=h.gl y hy
  have e2:f (m.getD (g y) 0).toNat=y:=by omega
  have e3:=congrArg g e2
  rw [h.gf _ (mr _ hg).1] at e3
  have:=(mr _ hg).2
  exact hp.ne _ hg (by omega)
theorem ykm {R L:List Int} (hR:RepR R (4*n)) (hL:RepR L (4*n)) (q:Nat->Nat) (hq: ∀x,x<4*n->q x<4*n) (h: ∀x y:Nat,x<4*n->y<4*n->R.getD (q x) 0=R.getD (q y) 0->L.getD x 0=L.getD y 0):roots L<=roots R:=by
 unfold roots
 rw [List.countP_eq_length_filter,List.countP_eq_length_filter]
 refine y0s (List.Nodup.sublist List.filter_sublist List.nodup_range) (fun x r=>R.getD (q x) 0=(r:Int)) (fun x hx=>?_) (fun x x' r hx hx' h1 h2=>?_)
 ·simp only [List.mem_filter,List.mem_range,hL.len] at hx
  have r1:=hR.rng (q x) (hq x (by omega))
  refine ⟨(R.getD (q x) 0).toNat,?_,by omega⟩
  simp only [List.mem_filter,List.mem_range,hR.len,beq_iff_eq]
  refine ⟨by omega,?_⟩
  rw [hR.idem _ (hq x (by omega))];omega
 ·simp only [List.mem_filter,List.mem_range,hL.len,beq_iff_eq] at hx hx'
  have:=h x x' (by omega) (by omega) (h1.trans h2.symm)
  omega
theorem y8z (h:Rel n f g m m') (hp:PmOk m n) {ch ch':Nat->Bool} (hj: ∀x,x<4*n->jnB (ch' (f x/4)) (f x)=(f (jnB (ch (x/4)) x).toNat:Int)):cirS m' n ch'=cirS m n ch:=by
 have hp':=h.pm hp
 have H:=yek (ch:=ch) hp.ok hp.inv hp.ne
 have H':=yek (ch:=ch') hp'.ok hp'.inv hp'.ne
 have hi:=ybj hp.ok hp.inv hp.ne ch
 have hi':=ybj hp'.ok hp'.inv hp'.ne ch'
 have dv: ∀x:Nat,((x:Int)/4).toNat=x/4:=fun x=>by omega
 have toNat: ∀(x:Nat) (y:Int),x<4*n->Cir (fun x=>m.getD x.toNat 0) (fun x=>jnB (ch (x/4).toNat) x) x y->Cir (fun x=>m'.getD x.toNat 0) (fun x=>jnB (ch' (x/4).toNat) x) (f x:Nat) (f y.toNat:Nat):=fun x y hx k=>by
  induction k with
  |refl=>rw [Int.toNat_natCast];exact .refl _
  | @mate z k ih=>
    have hz:=k.rng hi (by unfold InR;omega)
    unfold InR at hz
    have e1:=Cir.mate ih
    simp only [Int.toNat_natCast] at e1
    rw [h.mate _ (by omega)] at e1
    exact e1
  | @join z k ih=>
    have hz:=k.rng hi (by unfold InR;omega)
    unfold InR at hz
    have e1:=Cir.join ih
    rw [dv,hj _ (by omega)] at e1
    rw [show ((z/4).toNat)=z.toNat/4 by omega]
    rw [show ((z.toNat:Nat):Int)=z by omega] at e1
    exact e1
 have back: ∀(x:Nat) (y:Int),x<4*n->Cir (fun x=>m'.getD x.toNat 0) (fun x=>jnB (ch' (x/4).toNat) x) x y->Cir (fun x=>m.getD x.toNat 0) (fun x=>jnB (ch (x/4).toNat) x) (g x:Nat) (g y.toNat:Nat):=fun x y hx k=>by
  induction k with
  |refl=>rw [Int.toNat_natCast];exact .refl _
  | @mate z k ih=>
    have hz:=k.rng hi' (by unfold InR;omega)
    unfold InR at hz
    have e1:=Cir.mate ih
    simp only [Int.toNat_natCast] at e1
    have hg:=h.gl z.toNat (by omega)
    have mr:=hp.ok.2 _ hg
    have e2:=h.gmate hp (y:=z.toNat) (by omega)
    rw [e2,Int.toNat_natCast,h.gf _ (by omega),show (((m.getD (g z.toNat) 0).toNat:Nat):Int)=m.getD (g z.toNat) 0 by omega]
    exact e1
  | @join z k ih=>
    have hz:=k.rng hi' (by unfold InR;omega)
    unfold InR at hz
    have e1:=Cir.join ih
    have hg:=h.gl z.toNat (by omega)
    have e2:=hj (g z.toNat) hg
    rw [h.fg _ (by omega)] at e2
    have jr:=hi.jr (g z.toNat:Nat) (by unfold InR;omega)
    unfold InR at jr
    rw [dv] at jr e1
    rw [show ((z/4).toNat)=z.toNat/4 by omega,show z=((z.toNat:Nat):Int) by omega]
    rw [Int.toNat_natCast,e2,Int.toNat_natCast,h.gf _ (by omega),show (((jnB (ch (g z.toNat/4)) (g z.toNat:Nat)).toNat:Nat):Int)=jnB (ch (g z.toNat/4)) (g z.toNat:Nat) by omega]
    exact e1
 refine Nat.le_antisymm (ykm H.rep H'.rep g h.gl fun x y hx hy e=>?_) (ykm H'.rep H.rep f h.fl fun x y hx hy e=>?_)
 ·have k:=toNat _ _ (h.gl x hx) ((H.iff _ _ (h.gl x hx) (h.gl y hy)).1 e)
  rw [Int.toNat_natCast,h.fg x hx,h.fg y hy] at k
  exact (H'.iff x y hx hy).2 k
 ·have k:=back _ _ (h.fl x hx) ((H'.iff _ _ (h.fl x hx) (h.fl y hy)).1 e)
  rw [Int.toNat_natCast,h.gf x hx,h.gf y hy] at k
  exact (H.iff x y hx hy).2 k
end
def siI (x:Nat):Nat:=x-x % 4+(x % 4+1)% 4
theorem ytp (n:Nat):Sp.PermN (4*n) siI:=⟨fun x hx=>by unfold siI;omega,fun x y hx hy e=>by unfold siI at e;omega⟩
theorem yx7 {s s' m m':List Int} {L:Int} {f g:Nat->Nat} (hv:yah s m L=true) (hsl:s'.length=s.length) (h:Rel s.length f g m m') (hsg: ∀i,i<s.length->s'.getD i 0=1\/s'.getD i 0= -1)
  (bf:Nat->Bool) (hbf: ∀x,x<4*s.length->bf (m.getD x 0).toNat=bf x) (hout: ∀x,x<4*s.length->outB s' (f x:Nat)=(bf x^^outB s x)) (ho:(∀x,x<4*s.length->f (Sp.siD x)=Sp.siD (f x))\/(∀x,x<4*s.length->f (siI x)=Sp.siD (f x))):yah s' m' L=true:=by
 have v:=ya8 hv
 have hp:=pmOk hv
 have hp':=h.pm hp
 obtain ⟨hd,hsp⟩:=Sp.dia_of hv
 have hS:=hd.sph.1 hsp
 have hD':Sp.Dia m' s.length:=⟨⟨hp'.ok,hp'.inv⟩,hp'.ne⟩
 have mr: ∀x,x<4*s.length->(m.getD x 0).toNat<4*s.length/\0<=m.getD x 0:=fun x hx=>by have:=hp.ok.2 x hx;omega
 have ea: ∀y,y<4*s.length->g (Sp.alD m' y)=Sp.alD m (g y):=fun y hy=>by
  unfold Sp.alD
  rw [h.gmate hp hy,Int.toNat_natCast,h.gf _ (mr _ (h.gl y hy)).1]
 have la: ∀y,y<4*s.length->Sp.alD m' y<4*s.length:=fun y hy=>by have:=hp'.ok.2 y hy;unfold Sp.alD;omega
 have gi: ∀x y,x<4*s.length->y<4*s.length->g x=g y->x=y:=fun x y hx hy e=>by rw [←h.fg x hx,e,h.fg y hy]
 have sl: ∀x,x<4*s.length->Sp.siD x<4*s.length:=fun x hx=>(Sp.siD_perm s.length).lt x hx
 have hS':Sp.Sph (4*s.length) Sp.siD (Sp.alD m'):=by
  rcases ho with ho|ho
  ·refine hS.embed (io:=g) h.gl gi sl la (fun x hx=>?_) ea
   have:=ho (g x) (h.gl x hx)
   rw [h.fg x hx] at this
   rw [←this,h.gf _ (sl _ (h.gl x hx))]
  ·have hO:=hS.opp (ytp s.length) (fun x hx=>by unfold siI Sp.siD;omega) (fun x hx=>by unfold siI Sp.siD;omega)
   refine hO.embed (io:=g) h.gl gi sl la (fun x hx=>?_) ea
   have:=ho (g x) (h.gl x hx)
   rw [h.fg x hx] at this
   rw [←this,h.gf _ ((ytp s.length).lt _ (h.gl x hx))]
 rw [yi8]
 unfold yh3
 rw [hsl,Bool.and_eq_true]
 refine ⟨?_,hD'.sph.2 hS'⟩
 unfold ycr
 rw [decide_eq_true_iff,hsl]
 refine ⟨v.s64,h.len,v.l0,v.l64,fun i hi=>hsg i hi,fun y hy=>?_⟩
 have p1:=hp'.ok.2 y hy
 refine ⟨p1.1,by rw [hsl];exact p1.2,hp'.ne y hy,hp'.inv y hy,?_⟩
 have hg:=h.gl y hy
 have q1:=hout (g y) hg
 rw [h.fg y hy] at q1
 have q2:=hout _ (mr _ hg).1
 rw [h.gmate hp hy,q1,q2,hbf _ hg,show (((m.getD (g y) 0).toNat:Nat):Int)=m.getD (g y) 0 by have:=(mr _ hg).2;omega]
 have:=(v.mt (g y) hg).2.2.2.2
 intro e
 exact this (by revert e;cases bf (g y)<;>simp)
theorem y1p {s s' m m':List Int} {L:Int} {f g:Nat->Nat} (hv:yah s m L=true) (hsl:s'.length=s.length) (h:Rel s.length f g m m') (hsg: ∀i,i<s.length->s'.getD i 0=1\/s'.getD i 0= -1)
  (b:Bool) (hout: ∀x,x<4*s.length->outB s' (f x:Nat)=(b^^outB s x)) (ho:(∀x,x<4*s.length->f (Sp.siD x)=Sp.siD (f x))\/(∀x,x<4*s.length->f (siI x)=Sp.siD (f x))):yah s' m' L=true:=
 yx7 hv hsl h hsg (fun _=>b) (fun _ _=>rfl) hout ho
end Go.Proofs.YtmdjdekgakidhaaGreatDoor
namespace Go.Proofs.YtmdjdekgakidhaaGreatDoor
set_option linter.unusedSimpArgs false
set_option linter.unusedVariables false
theorem ypl: ∀(j:Nat) (e:Int),dpw j (-e)=dpw j e
 |0,e=>by
  simp only [dpw]
  by_cases h:e=0
  ·rw [if_pos h,if_pos (by omega)]
  ·rw [if_neg h,if_neg (by omega)]
 |j+1,e=>by
  simp only [dpw,dml]
  rw [show-e+2= -(e-2) by omega,show-e-2= -(e+2) by omega,ypl,ypl];omega
section
variable {m m':List Int} {n L:Nat}
theorem y4x (σ:Nat->Nat) (hr: ∀k,k<2^n->σ k<2^n) (hi: ∀k l,k<2^n->l<2^n->σ k=σ l->k=l) (hc: ∀k,k<2^n->cirS m' n (chB (σ k))=cirS m n (chB k)) (hw: ∀k,k<2^n->wB n (σ k)= -wB n k) (j:Nat) (e:Int):
  brT m' n L j e=brT m n L j (-e):=by
 unfold brT hrT
 rw [←yh5 (fun k=>if j<=cN m' n L k then dpw (cN m' n L k-j) (e-wB n k) else 0) σ hr hi]
 refine yap fun k hk=>?_
 have:cN m' n L (σ k)=cN m n L k:=by unfold cN;rw [hc k hk]
 rw [this,hw k hk,←ypl (cN m n L k-j) (e- -wB n k),show-(e- -wB n k)= -e-wB n k by omega]
end
theorem ytq (b c:Nat):chB b c=b.testBit c:=by
 rw [Nat.testBit_eq_decide_div_mod_eq];unfold chB
 by_cases h:b/2^c % 2=1<;>simp [h]
theorem ywo {n k c:Nat} (hk:k<2^n) (hc:c<n):chB (2^n-1-k) c= !chB k c:=by
 rw [ytq,ytq,show 2^n-1-k=2^n-(k+1) by omega,Nat.testBit_two_pow_sub_succ hk]
 simp [hc]
theorem ytr (b:Bool) (ch:Nat->Bool): ∀n,difS b (fun c=> !ch c) n+difS b ch n=n
 |0=>rfl
 |n+1=>by
  have:=ytr b ch n
  have k: ∀x y:Bool,(if (!x)=y then 0 else 1)+(if x=y then 0 else 1)=1:=by decide
  have:=k (ch n) b
  simp only [difS]
  omega
theorem yaav {n k:Nat} (hk:k<2^n):wB n (2^n-1-k)= -wB n k:=by
 unfold wB
 have h1:=ytr false (chB k) n
 rw [ydv,ydv,yfa fun c hc=>ywo hk hc]
 omega
theorem y4y {m m':List Int} {n L:Nat} (hc: ∀ch,cirS m' n (fun c=> !ch c)=cirS m n ch) (j:Nat) (e:Int):brT m' n L j e=brT m n L j (-e):=by
 refine y4x (fun k=>2^n-1-k) (fun k hk=>by omega) (fun k l hk hl e=>by omega) (fun k hk=>?_) (fun k hk=>yaav hk) j e
 rw [←hc (chB k)]
 unfold cirS
 rw [ydu fun c hc=>ywo hk hc]
def rot (k:Nat->Nat) (x:Nat):Nat:=x-x % 4+(x % 4+k (x/4))% 4
theorem yaaw {m:List Int} {n:Nat} {to:Int->Int} {t u:Nat->Nat} (ht: ∀x:Nat,to x=t x) (hd: ∀x,t x/4=x/4) (hu: ∀x,u x/4=x/4) (h1: ∀x,u (t x)=x) (h2: ∀x,t (u x)=x) (hp:PmOk m n):Rel n t u m (mvM m to m.length):=by
 have hl:=hp.ok.1
 refine ⟨fun x hx=>by have:=hd x;omega,fun x hx=>by have:=hu x;omega,fun x _=>h1 x,fun x _=>h2 x,by rw [ykv];exact hl,fun x hx=>?_⟩
 have:=Sp.mvM_get (m:=m) ht (fun x y e=>by rw [←h1 x,e,h1]) (fun x hx=>by have:=hd x;omega) m.length (Nat.le_refl _) x (by omega)
 rw [this]
 have hm:=hp.ok.2 x hx
 have:=ht (m.getD x 0).toNat
 rw [show (((m.getD x 0).toNat:Nat):Int)=m.getD x 0 by omega] at this
 exact this
theorem jn4 (b:Bool) (c:Nat):jnB b ((4*c:Nat):Int)=((if b then 4*c+3 else 4*c+1:Nat):Int)/\jnB b ((4*c+1:Nat):Int)=((if b then 4*c+2 else 4*c:Nat):Int)/\jnB b ((4*c+2:Nat):Int)=((if b then 4*c+1 else 4*c+3:Nat):Int)/\
  jnB b ((4*c+3:Nat):Int)=((if b then 4*c else 4*c+2:Nat):Int):=by
 obtain ⟨a0,a1,a2,a3,b0,b1,b2,b3⟩:=yxs c
 cases b
 ·exact ⟨b0,b1,b2,b3⟩
 ·exact ⟨a0,a1,a2,a3⟩
theorem four (x:Nat):x=4*(x/4)\/x=4*(x/4)+1\/x=4*(x/4)+2\/x=4*(x/4)+3:=by omega
theorem y5u {k:Nat->Nat} (c:Nat) (h:k c=1\/k c=2\/k c=3):(k c=1->rot k (4*c)=4*c+1/\rot k (4*c+1)=4*c+2/\rot k (4*c+2)=4*c+3/\rot k (4*c+3)=4*c)/\
  (k c=2->rot k (4*c)=4*c+2/\rot k (4*c+1)=4*c+3/\rot k (4*c+2)=4*c/\rot k (4*c+3)=4*c+1)/\
  (k c=3->rot k (4*c)=4*c+3/\rot k (4*c+1)=4*c/\rot k (4*c+2)=4*c+1/\rot k (4*c+3)=4*c+2):=by
 have d0:4*c/4=c:=by omega
 have d1:(4*c+1)/4=c:=by omega
 have d2:(4*c+2)/4=c:=by omega
 have d3:(4*c+3)/4=c:=by omega
 unfold rot
 rw [d0,d1,d2,d3]
 omega
theorem y80 {k:Nat->Nat} (hk: ∀c,k c=1\/k c=3) (b:Bool) (x:Nat):jnB (!b) (rot k x:Nat)=(rot k (jnB b x).toNat:Int):=by
 obtain ⟨c,hc⟩: ∃c,x/4=c:=⟨_,rfl⟩
 have hx:=four x
 rw [hc] at hx
 obtain ⟨j0,j1,j2,j3⟩:=jn4 b c
 obtain ⟨i0,i1,i2,i3⟩:=jn4 (!b) c
 have R:=y5u (k:=k) c (by rcases hk c with h|h<;>simp [h])
 rcases hk c with h|h
 ·obtain ⟨r0,r1,r2,r3⟩:=R.1 h
  rcases hx with rfl|rfl|rfl|rfl
  ·rw [r0,i1,j0,Int.toNat_natCast];cases b<;>simp [r1,r3]
  ·rw [r1,i2,j1,Int.toNat_natCast];cases b<;>simp [r0,r2]
  ·rw [r2,i3,j2,Int.toNat_natCast];cases b<;>simp [r1,r3]
  ·rw [r3,i0,j3,Int.toNat_natCast];cases b<;>simp [r0,r2]
 ·obtain ⟨r0,r1,r2,r3⟩:=R.2.2 h
  rcases hx with rfl|rfl|rfl|rfl
  ·rw [r0,i3,j0,Int.toNat_natCast];cases b<;>simp [r1,r3]
  ·rw [r1,i0,j1,Int.toNat_natCast];cases b<;>simp [r0,r2]
  ·rw [r2,i1,j2,Int.toNat_natCast];cases b<;>simp [r1,r3]
  ·rw [r3,i2,j3,Int.toNat_natCast];cases b<;>simp [r0,r2]
theorem yol (s:List Int) (c:Nat):outB s ((4*c:Nat):Int)=false/\outB s ((4*c+1:Nat):Int)=(s.getD c 0==1)/\outB s ((4*c+2:Nat):Int)=true/\outB s ((4*c+3:Nat):Int)=(s.getD c 0== -1):=by
 have e0:((4*c:Nat):Int)% 4=0:=by omega
 have e1:((4*c+1:Nat):Int)% 4=1:=by omega
 have e2:((4*c+2:Nat):Int)% 4=2:=by omega
 have e3:((4*c+3:Nat):Int)% 4=3:=by omega
 have d1:(((4*c+1:Nat):Int)/4).toNat=c:=by omega
 have d3:(((4*c+3:Nat):Int)/4).toNat=c:=by omega
 unfold outB
 rw [e0,e1,e2,e3,d1,d3]
 simp
theorem y81 {s:List Int} {sg:Int->Int} {c:Nat} (h:c<s.length):(sgM s sg s.length).getD c 0=s.getD c 0*sg c:=by
 unfold sgM
 simp [List.getD_eq_getElem?_getD,List.getElem?_range h]
section
variable {s m:List Int} {L:Int}
theorem yts {k k':Nat->Nat} (h: ∀c,(k c=1/\k' c=3)\/(k c=3/\k' c=1)\/(k c=2/\k' c=2)) (x:Nat):rot k' (rot k x)=x:=by
 have hd:rot k x/4=x/4:=by unfold rot;omega
 have:=h (x/4)
 unfold rot at hd⊢
 rw [hd];omega
theorem yom (hp:PmOk m s.length):Rel s.length (rot (Sp.kT s)) (rot (fun c=>4-Sp.kT s c)) m (exM s m fun _=>true):=by
 have hk:=fun c=>Sp.kT_or (s:=s) (c:=c)
 refine yaaw (fun x=>?_) (fun x=>by unfold rot;omega) (fun x=>by unfold rot;omega) (yts fun c=>by have:=hk c;omega) (yts fun c=>by have:=hk c;omega) hp
 have hd:(((x:Int)/4).toNat)=x/4:=by omega
 unfold exBy ybu rot Sp.kT
 rw [if_pos rfl,hd]
 by_cases h:s.getD (x/4) 0=1
 ·rw [if_pos h,if_pos h,show Int.tmod (-3) 4= -3 by decide];omega
 ·rw [if_neg h,if_neg h,show Int.tmod (-1) 4= -1 by decide];omega
theorem ytt (hv:yah s m L=true):yah (exS s fun _=>true) (exM s m fun _=>true) L=true:=by
 have v:=ya8 hv
 have hp:=pmOk hv
 have hlen:(exS s fun _=>true).length=s.length:=by unfold exS;rw [yh4]
 have sg: ∀c,c<s.length->(exS s fun _=>true).getD c 0= -s.getD c 0:=fun c hc=>by
  unfold exS;rw [y81 hc];unfold exSg;simp
 refine y1p hv hlen (yom hp) (fun i hi=>by have:=v.sg i hi;rw [sg i hi];omega) false (fun x hx=>?_) (.inl fun x hx=>?_)
 ·rw [Bool.false_xor]
  obtain ⟨c,hc⟩: ∃c,x/4=c:=⟨_,rfl⟩
  have hx4:=four x
  rw [hc] at hx4
  have hcl:c<s.length:=by omega
  obtain ⟨a0,a1,a2,a3⟩:=yol s c
  obtain ⟨b0,b1,b2,b3⟩:=yol (exS s fun _=>true) c
  rw [sg c hcl] at b1 b3
  have R:=y5u (k:=Sp.kT s) c (by rcases Sp.kT_or (s:=s) (c:=c) with h|h<;>simp [h])
  rcases v.sg c hcl with h|h
  ·obtain ⟨r0,r1,r2,r3⟩:=R.1 (by unfold Sp.kT;rw [if_pos h])
   rw [h] at a1 a3 b1 b3
   rcases hx4 with rfl|rfl|rfl|rfl
   ·rw [r0,b1,a0];rfl
   ·rw [r1,b2,a1];rfl
   ·rw [r2,b3,a2];rfl
   ·rw [r3,b0,a3];rfl
  ·obtain ⟨r0,r1,r2,r3⟩:=R.2.2 (by unfold Sp.kT;rw [if_neg (by omega)])
   rw [h] at a1 a3 b1 b3
   rcases hx4 with rfl|rfl|rfl|rfl
   ·rw [r0,b3,a0];rfl
   ·rw [r1,b0,a1];rfl
   ·rw [r2,b1,a2];rfl
   ·rw [r3,b2,a3];rfl
 ·have hd:Sp.siD x/4=x/4:=Sp.siD_div x
  have:=Sp.kT_or (s:=s) (c:=x/4)
  unfold rot
  rw [hd]
  unfold Sp.siD
  omega
theorem y1q (hv:yah s m L=true) (Ln j:Nat) (e:Int):brT (exM s m fun _=>true) s.length Ln j e=brT m s.length Ln j (-e):=by
 have hp:=pmOk hv
 refine y4y (fun ch=>y8z (yom hp) hp fun x hx=>?_) j e
 have hd:rot (Sp.kT s) x/4=x/4:=by unfold rot;omega
 rw [hd]
 exact y80 (fun c=>Sp.kT_or) (ch (x/4)) x
end
end Go.Proofs.YtmdjdekgakidhaaGreatDoor
