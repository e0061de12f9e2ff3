/- Plain: the terms of a list of coefficients. -/
import Derived.Test.YtphjphpmfflfpaaDoorZg
import Derived.Test.YtphjphpmfflfpaaDoorSq
import Derived.Test.YtphjphpmfflfpaaDoorZj
import Derived.Test.YtphjphpmfflfpaaDoorZr
set_option linter.unusedSimpArgs false
set_option linter.unusedVariables false
namespace Go.Proofs.YtphjphpmfflfpaaDoor
set_option linter.unusedVariables false
namespace Sp
end Sp
end Go.Proofs.YtphjphpmfflfpaaDoor
set_option linter.unusedSimpArgs false
set_option linter.unusedVariables false
namespace Go.Proofs.YtphjphpmfflfpaaDoor
namespace Sp
section
variable {s m:List Int} {L:Int} {n c:Nat} {b:Bool}
theorem dia_of (hv:yal s m L=true):Dia m s.length/\sphR m s.length=true:=by
 have v:=yb2 hv
 refine ⟨⟨v.prd,fun x hx=>(v.mt x hx).2.2.1⟩,?_⟩
 rw [yqn] at hv
 unfold ymk at hv
 exact (Bool.and_eq_true _ _▸hv).2
theorem jnB_out {x:Int} (hs:s.getD c 0=1\/s.getD c 0= -1) (hx:x/4=c):outB s (jnB (s.getD c 0== -1) x)= !outB s x:=by
 have e:x=4*c\/x=4*c+1\/x=4*c+2\/x=4*c+3:=by omega
 have d0:(4*(c:Int))/4=c/\(4*(c:Int)+1)/4=c/\(4*(c:Int)+2)/4=c/\(4*(c:Int)+3)/4=c:=by omega
 have r0:(4*(c:Int))% 4=0/\(4*(c:Int)+1)% 4=1/\(4*(c:Int)+2)% 4=2/\(4*(c:Int)+3)% 4=3:=by omega
 obtain ⟨d1,d2,d3,d4⟩:=d0
 obtain ⟨r1,r2,r3,r4⟩:=r0
 rcases hs with hs|hs
 ·have hb:(s.getD c 0== -1)=false:=by rw [hs];decide
  rw [hb]
  obtain ⟨j1,j2,j3,j4⟩:=jnF c
  rcases e with rfl|rfl|rfl|rfl
  ·rw [j1];simp only [outB,d1,d2,r1,r2,Int.toNat_natCast,hs];decide
  ·rw [j2];simp only [outB,d1,d2,r1,r2,Int.toNat_natCast,hs];decide
  ·rw [j3];simp only [outB,d3,d4,r3,r4,Int.toNat_natCast,hs];decide
  ·rw [j4];simp only [outB,d3,d4,r3,r4,Int.toNat_natCast,hs];decide
 ·have hb:(s.getD c 0== -1)=true:=by rw [hs];decide
  rw [hb]
  obtain ⟨j1,j2,j3,j4⟩:=jnT c
  rcases e with rfl|rfl|rfl|rfl
  ·rw [j1];simp only [outB,d1,d4,r1,r4,Int.toNat_natCast,hs];decide
  ·rw [j2];simp only [outB,d2,d3,r2,r3,Int.toNat_natCast,hs];decide
  ·rw [j3];simp only [outB,d2,d3,r2,r3,Int.toNat_natCast,hs];decide
  ·rw [j4];simp only [outB,d1,d4,r1,r4,Int.toNat_natCast,hs];decide
end
end Sp
end Go.Proofs.YtphjphpmfflfpaaDoor
namespace Go.Proofs.YtphjphpmfflfpaaDoor
namespace Sp
section
variable {s m:List Int} {L:Int} {n c k:Nat}
end
end Sp
end Go.Proofs.YtphjphpmfflfpaaDoor
namespace Go.Proofs.YtphjphpmfflfpaaDoor
namespace Sp
section
variable {s m:List Int} {L:Int} {n c k:Nat}
end
end Sp
end Go.Proofs.YtphjphpmfflfpaaDoor
namespace Go.Proofs.YtphjphpmfflfpaaDoor
namespace Sp
end Sp
end Go.Proofs.YtphjphpmfflfpaaDoor
namespace Go.Proofs.YtphjphpmfflfpaaDoor
namespace Sp
section
variable {s m:List Int} {L:Int} {n c k:Nat}
end
end Sp
end Go.Proofs.YtphjphpmfflfpaaDoor
namespace Go.Proofs.YtphjphpmfflfpaaDoor
namespace Sp
section
variable {s m:List Int} {L:Int} {n c k:Nat}
end
end Sp
end Go.Proofs.YtphjphpmfflfpaaDoor
namespace Go.Proofs.YtphjphpmfflfpaaDoor
set_option linter.unusedSimpArgs false
set_option linter.unusedVariables false
set_option linter.unusedSectionVars false
namespace Sp
open Classical
section
variable {N:Nat} {si al si':Nat->Nat}
theorem yzl (hs:PermN N si) (hs':PermN N si') (h1: ∀x,x<N->si (si' x)=x) {x y:Nat} (hx:x<N) (h:SC si' x y):SC si x y:=by
 have hE:=SC.eqv hs
 refine yha hs' hE (fun z hz=>?_) hx h
 have:SC si (si' z) (si (si' z)):=SC.step _ _
 rw [h1 z hz] at this
 exact hE.symm _ _ (hs'.lt z hz) hz this
theorem Sph.opp (h:Sph N si al) (hs':PermN N si') (h1: ∀x,x<N->si (si' x)=x) (h2: ∀x,x<N->si' (si x)=x):Sph N si' al:=by
 have hs:=h.perm
 have ha:=h.mat
 have scE: ∀x y,x<N->y<N->(SC si x y↔SC si' x y):=fun x y hx hy=>⟨fun k=>yzl hs' hs h2 hx k,fun k=>yzl hs hs' h1 hx k⟩
 have kE: ∀x y,x<N->y<N->(KK si al N x y↔KK si' al N x y):=fun x y hx hy=>by
  constructor
  ·intro k
   exact K_least hs ha (K_eqv hs' ha) (fun z hz=>K_sc hs' ha hz ((scE z _ hz (hs.lt z hz)).1 (SC.step si z))) (fun z hz=>K_al hs' ha hz) hx hy k
  ·intro k
   exact K_least hs' ha (K_eqv hs ha) (fun z hz=>K_sc hs ha hz ((scE z _ hz (hs'.lt z hz)).2 (SC.step si' z))) (fun z hz=>K_al hs ha hz) hx hy k
 have hpm:=phK_perm hs ha N (Nat.le_refl _)
 have hpm':=phK_perm hs' ha N (Nat.le_refl _)
 have fE: ∀x y,x<N->SC (phK si' al N) x y->SC (phK si al N) (al x) (al y):=fun x y hx k=>by
  have hEq:EqvN N (fun a b=>SC (phK si al N) (al a) (al b)):=⟨fun a ha'=> .refl _ _,fun a b ha' hb k=>k.symm hpm (ha.lt a ha'),fun a b c _ _ _ k l=>k.trans l⟩
  refine yha hpm' hEq (fun z hz=>?_) hx k
  have hz1:=ha.lt z hz
  have hz2:=hs'.lt _ hz1
  have e:phK si al N (al (phK si' al N z))=al z:=by
   rw [ph_N ha hz,ph_N ha (ha.lt _ hz2),ha.inv _ hz2,h1 _ hz1]
  have st:=SC.step (phK si al N) (al (phK si' al N z))
  rw [e] at st
  exact st.symm hpm (ha.lt _ (hpm'.lt z hz))
 have fE': ∀x y,x<N->SC (phK si al N) x y->SC (phK si' al N) (al x) (al y):=fun x y hx k=>by
  have hEq:EqvN N (fun a b=>SC (phK si' al N) (al a) (al b)):=⟨fun a ha'=> .refl _ _,fun a b ha' hb k=>k.symm hpm' (ha.lt a ha'),fun a b c _ _ _ k l=>k.trans l⟩
  refine yha hpm hEq (fun z hz=>?_) hx k
  have hz1:=ha.lt z hz
  have hz2:=hs.lt _ hz1
  have e:phK si' al N (al (phK si al N z))=al z:=by
   rw [ph_N ha hz,ph_N ha (ha.lt _ hz2),ha.inv _ hz2,h2 _ hz1]
  have st:=SC.step (phK si' al N) (al (phK si al N z))
  rw [e] at st
  exact st.symm hpm' (ha.lt _ (hpm.lt z hz))
 refine ⟨hs',ha,fun r hr lV lF hV hF=>?_⟩
 have hV':Tr N (KK si al N r) (SC si) lV:=hV.congrU (fun x hx=>(kE r x hr hx).symm) (fun x y hx hy _ _=>(scE x y hx hy).symm)
 have hF':Tr N (KK si al N r) (SC (phK si al N)) (lF.map al):=by
  refine ⟨fun x hx=>?_,?_,fun x hx y hy e=>?_,fun x hx hU=>?_⟩
  ·obtain ⟨z,hz,rfl⟩:=List.mem_map.1 hx
   have hm:=hF.mem z hz
   have k1:=(kE r z hr hm.1).2 hm.2
   exact ⟨ha.lt z hm.1,((K_cl hs ha hr).2 z hm.1).1 k1⟩
  ·rw [List.nodup_iff_pairwise_ne,List.pairwise_map]
   exact List.Pairwise.imp_of_mem (fun {a b} h1 h2 hne e=>hne (by rw [←ha.inv a (hF.mem a h1).1,e,ha.inv b (hF.mem b h2).1])) (List.nodup_iff_pairwise_ne.1 hF.nodup)
  ·obtain ⟨z,hz,rfl⟩:=List.mem_map.1 hx
   obtain ⟨u,hu,rfl⟩:=List.mem_map.1 hy
   have m1:=(hF.mem z hz).1
   have m2:=(hF.mem u hu).1
   have:=fE' _ _ (ha.lt z m1) e
   rw [ha.inv z m1,ha.inv u m2] at this
   rw [hF.apart z hz u hu this]
  ·have hx':=ha.lt x hx
   obtain ⟨y,hy,k⟩:=hF.all (al x) hx' ((kE r _ hr hx').1 (((K_cl hs ha hr).2 x hx).1 hU))
   refine ⟨al y,List.mem_map.2 ⟨y,hy,rfl⟩,?_⟩
   have:=fE _ _ hx' k
   rw [ha.inv x hx] at this
   exact this
 have:=h.eq r hr lV (lF.map al) hV' hF'
 rw [List.length_map] at this
 rw [this]
 congr 1
 exact ydr fun x hx=>by rw [kE r x hr hx]
end
end Sp
structure Rel (n:Nat) (f g:Nat->Nat) (m m':List Int):Prop where
 fl: ∀x,x<4*n->f x<4*n
 gl: ∀x,x<4*n->g x<4*n
 gf: ∀x,x<4*n->g (f x)=x
 fg: ∀x,x<4*n->f (g x)=x
 len:m'.length=4*n
 mate: ∀x,x<4*n->m'.getD (f x) 0=(f (m.getD x 0).toNat:Int)
section
variable {n:Nat} {f g:Nat->Nat} {m m':List Int}
theorem Rel.gmate (h:Rel n f g m m') (hp:PmOk m n) {y:Nat} (hy:y<4*n):m'.getD y 0=(f (m.getD (g y) 0).toNat:Int):=by
 have:=h.mate (g y) (h.gl y hy)
 rw [h.fg y hy] at this
 exact this
theorem Rel.pm (h:Rel n f g m m') (hp:PmOk m n):PmOk m' n:=by
 have mr: ∀x,x<4*n->(m.getD x 0).toNat<4*n/\0<=m.getD x 0:=fun x hx=>by have:=hp.ok.2 x hx;omega
 refine ⟨⟨h.len,fun y hy=>?_⟩,fun y hy=>?_,fun y hy=>?_⟩
 ·rw [h.gmate hp hy]
  have:=h.fl _ (mr _ (h.gl y hy)).1
  omega
 ·have hg:=h.gl y hy
  rw [h.gmate hp hy,Int.toNat_natCast,h.mate _ (mr _ hg).1,hp.inv _ hg,Int.toNat_natCast,h.fg y hy]
 ·rw [h.gmate hp hy]
  intro e
  have hg:=h.gl y hy
  have e2:f (m.getD (g y) 0).toNat=y:=by omega
  have e3:=congrArg g e2
  rw [h.gf _ (mr _ hg).1] at e3
  have:=(mr _ hg).2
  exact hp.ne _ hg (by omega)
theorem yi9 {R L:List Int} (hR:RepR R (4*n)) (hL:RepR L (4*n)) (q:Nat->Nat) (hq: ∀x,x<4*n->q x<4*n) (h: ∀x y:Nat,x<4*n->y<4*n->R.getD (q x) 0=R.getD (q y) 0->L.getD x 0=L.getD y 0):roots L<=roots R:=by
 unfold roots
 rw [List.countP_eq_length_filter,List.countP_eq_length_filter]
 refine yyw (List.Nodup.sublist List.filter_sublist List.nodup_range) (fun x r=>R.getD (q x) 0=(r:Int)) (fun x hx=>?_) (fun x x' r hx hx' h1 h2=>?_)
 ·simp only [List.mem_filter,List.mem_range,hL.len] at hx
  have r1:=hR.rng (q x) (hq x (by omega))
  refine ⟨(R.getD (q x) 0).toNat,?_,by omega⟩
  simp only [List.mem_filter,List.mem_range,hR.len,beq_iff_eq]
  refine ⟨by omega,?_⟩
  rw [hR.idem _ (hq x (by omega))];omega
 ·simp only [List.mem_filter,List.mem_range,hL.len,beq_iff_eq] at hx hx'
  have:=h x x' (by omega) (by omega) (h1.trans h2.symm)
  omega
theorem y6h (h:Rel n f g m m') (hp:PmOk m n) {ch ch':Nat->Bool} (hj: ∀x,x<4*n->jnB (ch' (f x/4)) (f x)=(f (jnB (ch (x/4)) x).toNat:Int)):cirS m' n ch'=cirS m n ch:=by
 have hp':=h.pm hp
 have H:=ymq (ch:=ch) hp.ok hp.inv hp.ne
 have H':=ymq (ch:=ch') hp'.ok hp'.inv hp'.ne
 have hi:=yck hp.ok hp.inv hp.ne ch
 have hi':=yck hp'.ok hp'.inv hp'.ne ch'
 have dv: ∀x:Nat,((x:Int)/4).toNat=x/4:=fun x=>by omega
 have toNat: ∀(x:Nat) (y:Int),x<4*n->Cir (fun x=>m.getD x.toNat 0) (fun x=>jnB (ch (x/4).toNat) x) x y->Cir (fun x=>m'.getD x.toNat 0) (fun x=>jnB (ch' (x/4).toNat) x) (f x:Nat) (f y.toNat:Nat):=fun x y hx k=>by
  induction k with
  |refl=>rw [Int.toNat_natCast];exact .refl _
  | @mate z k ih=>
    have hz:=k.rng hi (by unfold InR;omega)
    unfold InR at hz
    have e1:=Cir.mate ih
    simp only [Int.toNat_natCast] at e1
    rw [h.mate _ (by omega)] at e1
    exact e1
  | @join z k ih=>
    have hz:=k.rng hi (by unfold InR;omega)
    unfold InR at hz
    have e1:=Cir.join ih
    rw [dv,hj _ (by omega)] at e1
    rw [show ((z/4).toNat)=z.toNat/4 by omega]
    rw [show ((z.toNat:Nat):Int)=z by omega] at e1
    exact e1
 have back: ∀(x:Nat) (y:Int),x<4*n->Cir (fun x=>m'.getD x.toNat 0) (fun x=>jnB (ch' (x/4).toNat) x) x y->Cir (fun x=>m.getD x.toNat 0) (fun x=>jnB (ch (x/4).toNat) x) (g x:Nat) (g y.toNat:Nat):=fun x y hx k=>by
  induction k with
  |refl=>rw [Int.toNat_natCast];exact .refl _
  | @mate z k ih=>
    have hz:=k.rng hi' (by unfold InR;omega)
    unfold InR at hz
    have e1:=Cir.mate ih
    simp only [Int.toNat_natCast] at e1
    have hg:=h.gl z.toNat (by omega)
    have mr:=hp.ok.2 _ hg
    have e2:=h.gmate hp (y:=z.toNat) (by omega)
    rw [e2,Int.toNat_natCast,h.gf _ (by omega),show (((m.getD (g z.toNat) 0).toNat:Nat):Int)=m.getD (g z.toNat) 0 by omega]
    exact e1
  | @join z k ih=>
    have hz:=k.rng hi' (by unfold InR;omega)
    unfold InR at hz
    have e1:=Cir.join ih
    have hg:=h.gl z.toNat (by omega)
    have e2:=hj (g z.toNat) hg
    rw [h.fg _ (by omega)] at e2
    have jr:=hi.jr (g z.toNat:Nat) (by unfold InR;omega)
    unfold InR at jr
    rw [dv] at jr e1
    rw [show ((z/4).toNat)=z.toNat/4 by omega,show z=((z.toNat:Nat):Int) by omega]
    rw [Int.toNat_natCast,e2,Int.toNat_natCast,h.gf _ (by omega),show (((jnB (ch (g z.toNat/4)) (g z.toNat:Nat)).toNat:Nat):Int)=jnB (ch (g z.toNat/4)) (g z.toNat:Nat) by omega]
    exact e1
 refine Nat.le_antisymm (yi9 H.rep H'.rep g h.gl fun x y hx hy e=>?_) (yi9 H'.rep H.rep f h.fl fun x y hx hy e=>?_)
 ·have k:=toNat _ _ (h.gl x hx) ((H.iff _ _ (h.gl x hx) (h.gl y hy)).1 e)
  rw [Int.toNat_natCast,h.fg x hx,h.fg y hy] at k
  exact (H'.iff x y hx hy).2 k
 ·have k:=back _ _ (h.fl x hx) ((H'.iff _ _ (h.fl x hx) (h.fl y hy)).1 e)
  rw [Int.toNat_natCast,h.gf x hx,h.gf y hy] at k
  exact (H.iff x y hx hy).2 k
end
def siI (x:Nat):Nat:=x-x % 4+(x % 4+1)% 4
theorem yse (n:Nat):Sp.PermN (4*n) siI:=⟨fun x hx=>by unfold siI;omega,fun x y hx hy e=>by unfold siI at e;omega⟩
theorem ywc {s s' m m':List Int} {L:Int} {f g:Nat->Nat} (hv:yal s m L=true) (hsl:s'.length=s.length) (h:Rel s.length f g m m') (hsg: ∀i,i<s.length->s'.getD i 0=1\/s'.getD i 0= -1)
  (bf:Nat->Bool) (hbf: ∀x,x<4*s.length->bf (m.getD x 0).toNat=bf x) (hout: ∀x,x<4*s.length->outB s' (f x:Nat)=(bf x^^outB s x)) (ho:(∀x,x<4*s.length->f (Sp.siD x)=Sp.siD (f x))\/(∀x,x<4*s.length->f (siI x)=Sp.siD (f x))):yal s' m' L=true:=by
 have v:=yb2 hv
 have hp:=pmOk hv
 have hp':=h.pm hp
 obtain ⟨hd,hsp⟩:=Sp.dia_of hv
 have hS:=hd.sph.1 hsp
 have hD':Sp.Dia m' s.length:=⟨⟨hp'.ok,hp'.inv⟩,hp'.ne⟩
 have mr: ∀x,x<4*s.length->(m.getD x 0).toNat<4*s.length/\0<=m.getD x 0:=fun x hx=>by have:=hp.ok.2 x hx;omega
 have ea: ∀y,y<4*s.length->g (Sp.alD m' y)=Sp.alD m (g y):=fun y hy=>by
  unfold Sp.alD
  rw [h.gmate hp hy,Int.toNat_natCast,h.gf _ (mr _ (h.gl y hy)).1]
 have la: ∀y,y<4*s.length->Sp.alD m' y<4*s.length:=fun y hy=>by have:=hp'.ok.2 y hy;unfold Sp.alD;omega
 have gi: ∀x y,x<4*s.length->y<4*s.length->g x=g y->x=y:=fun x y hx hy e=>by rw [←h.fg x hx,e,h.fg y hy]
 have sl: ∀x,x<4*s.length->Sp.siD x<4*s.length:=fun x hx=>(Sp.siD_perm s.length).lt x hx
 have hS':Sp.Sph (4*s.length) Sp.siD (Sp.alD m'):=by
  rcases ho with ho|ho
  ·refine hS.embed (io:=g) h.gl gi sl la (fun x hx=>?_) ea
   have:=ho (g x) (h.gl x hx)
   rw [h.fg x hx] at this
   rw [←this,h.gf _ (sl _ (h.gl x hx))]
  ·have hO:=hS.opp (yse s.length) (fun x hx=>by unfold siI Sp.siD;omega) (fun x hx=>by unfold siI Sp.siD;omega)
   refine hO.embed (io:=g) h.gl gi sl la (fun x hx=>?_) ea
   have:=ho (g x) (h.gl x hx)
   rw [h.fg x hx] at this
   rw [←this,h.gf _ ((yse s.length).lt _ (h.gl x hx))]
 rw [yqn]
 unfold ymk
 rw [hsl,Bool.and_eq_true]
 refine ⟨?_,hD'.sph.2 hS'⟩
 unfold ydd
 rw [decide_eq_true_iff,hsl]
 refine ⟨v.s64,h.len,v.l0,v.l64,fun i hi=>hsg i hi,fun y hy=>?_⟩
 have p1:=hp'.ok.2 y hy
 refine ⟨p1.1,by rw [hsl];exact p1.2,hp'.ne y hy,hp'.inv y hy,?_⟩
 have hg:=h.gl y hy
 have q1:=hout (g y) hg
 rw [h.fg y hy] at q1
 have q2:=hout _ (mr _ hg).1
 rw [h.gmate hp hy,q1,q2,hbf _ hg,show (((m.getD (g y) 0).toNat:Nat):Int)=m.getD (g y) 0 by have:=(mr _ hg).2;omega]
 have:=(v.mt (g y) hg).2.2.2.2
 intro e
 exact this (by revert e;cases bf (g y)<;>simp)
theorem yzm {s s' m m':List Int} {L:Int} {f g:Nat->Nat} (hv:yal s m L=true) (hsl:s'.length=s.length) (h:Rel s.length f g m m') (hsg: ∀i,i<s.length->s'.getD i 0=1\/s'.getD i 0= -1)
  (b:Bool) (hout: ∀x,x<4*s.length->outB s' (f x:Nat)=(b^^outB s x)) (ho:(∀x,x<4*s.length->f (Sp.siD x)=Sp.siD (f x))\/(∀x,x<4*s.length->f (siI x)=Sp.siD (f x))):yal s' m' L=true:=
 ywc hv hsl h hsg (fun _=>b) (fun _ _=>rfl) hout ho
end Go.Proofs.YtphjphpmfflfpaaDoor
namespace Go.Proofs.YtphjphpmfflfpaaDoor
set_option linter.unusedSimpArgs false
set_option linter.unusedVariables false
section
variable {m m':List Int} {n L:Nat}
theorem y6i (σ:Nat->Nat) (hr: ∀k,k<2^n->σ k<2^n) (hi: ∀k l,k<2^n->l<2^n->σ k=σ l->k=l) (hc: ∀k,k<2^n->cirS m' n (chB (σ k))=cirS m n (chB k)) (hw: ∀k,k<2^n->wB n (σ k)=wB n k) (j:Nat) (e:Int):
  brT m' n L j e=brT m n L j e:=by
 unfold brT hrT
 rw [←yfh (fun k=>if j<=cN m' n L k then dpw (cN m' n L k-j) (e-wB n k) else 0) σ hr hi]
 refine yb3 fun k hk=>?_
 have:cN m' n L (σ k)=cN m n L k:=by unfold cN;rw [hc k hk]
 rw [this,hw k hk]
end
theorem ysf (b c:Nat):chB b c=b.testBit c:=by
 rw [Nat.testBit_eq_decide_div_mod_eq];unfold chB
 by_cases h:b/2^c % 2=1<;>simp [h]
theorem y6j {n k l:Nat} (hk:k<2^n) (hl:l<2^n) (h: ∀c,c<n->chB k c=chB l c):k=l:=by
 refine Nat.eq_of_testBit_eq fun c=>?_
 by_cases hc:c<n
 ·rw [←ysf,←ysf];exact h c hc
 ·rw [Nat.testBit_lt_two_pow (Nat.lt_of_lt_of_le hk (Nat.pow_le_pow_right (by omega) (by omega))),Nat.testBit_lt_two_pow (Nat.lt_of_lt_of_le hl (Nat.pow_le_pow_right (by omega) (by omega)))]
theorem jn4 (b:Bool) (c:Nat):jnB b ((4*c:Nat):Int)=((if b then 4*c+3 else 4*c+1:Nat):Int)/\jnB b ((4*c+1:Nat):Int)=((if b then 4*c+2 else 4*c:Nat):Int)/\jnB b ((4*c+2:Nat):Int)=((if b then 4*c+1 else 4*c+3:Nat):Int)/\
  jnB b ((4*c+3:Nat):Int)=((if b then 4*c else 4*c+2:Nat):Int):=by
 obtain ⟨a0,a1,a2,a3,b0,b1,b2,b3⟩:=yvy c
 cases b
 ·exact ⟨b0,b1,b2,b3⟩
 ·exact ⟨a0,a1,a2,a3⟩
theorem four (x:Nat):x=4*(x/4)\/x=4*(x/4)+1\/x=4*(x/4)+2\/x=4*(x/4)+3:=by omega
theorem ynb (s:List Int) (c:Nat):outB s ((4*c:Nat):Int)=false/\outB s ((4*c+1:Nat):Int)=(s.getD c 0==1)/\outB s ((4*c+2:Nat):Int)=true/\outB s ((4*c+3:Nat):Int)=(s.getD c 0== -1):=by
 have e0:((4*c:Nat):Int)% 4=0:=by omega
 have e1:((4*c+1:Nat):Int)% 4=1:=by omega
 have e2:((4*c+2:Nat):Int)% 4=2:=by omega
 have e3:((4*c+3:Nat):Int)% 4=3:=by omega
 have d1:(((4*c+1:Nat):Int)/4).toNat=c:=by omega
 have d3:(((4*c+3:Nat):Int)/4).toNat=c:=by omega
 unfold outB
 rw [e0,e1,e2,e3,d1,d3]
 simp
section
variable {s m:List Int} {L:Int}
end
end Go.Proofs.YtphjphpmfflfpaaDoor
namespace Go.Proofs.YtphjphpmfflfpaaDoor
set_option linter.unusedSimpArgs false
set_option linter.unusedVariables false
namespace Sp
open Classical
section
variable {N n:Nat} {si al:Nat->Nat} {w g:Nat->Int}
structure Pot (N:Nat) (si al:Nat->Nat) (w g:Nat->Int):Prop where
 face: ∀x,x<N->g (si (al x))=g x
 edge: ∀x,x<N->g x-g (al x)=w x
theorem y2n {f:Nat->Nat} (hf:PermN N f) (h: ∀x,x<N->g (f x)=g x) {x y:Nat} (hx:x<N) (hs:SC f x y):g y=g x:=by
 obtain ⟨k,rfl⟩:=hs
 induction k with
 |zero=>rfl
 |succ k ih=>simp only [itn];rw [h _ (hf.itn_lt hx k),ih]
theorem Sph.pot_split (h:Sph N si al) {p q:Nat} (hp:p<N) (hq:q<N) (hpq:p≠q) (hsc:SC si p q) (hg:Pot N (swp si p q) al w g): ∃g',Pot N si al w g':=by
 have hs:=h.perm
 have ha:=h.mat
 have hs':=ydp hs hp hq
 have hE:=K_eqv hs ha
 have hE':=K_eqv hs' ha
 have hap:=ha.lt p hp
 have haq:=ha.lt q hq
 have hpm:=phK_perm hs ha N (Nat.le_refl _)
 have hpm':=phK_perm hs' ha N (Nat.le_refl _)
 have haa:al p≠al q:=fun e=>hpq (by rw [←ha.inv p hp,←ha.inv q hq,e])
 have hph: ∀x,x<N->swp (phK si al N) (al p) (al q) x=phK (swp si p q) al N x:=fun x hx=>by
  rw [ph_N ha hx]
  unfold swp
  have i1:=ha.inv x hx
  by_cases h1:x=al p
  ·subst h1
   rw [if_pos rfl,ha.inv p hp,if_pos rfl,ph_N ha haq,ha.inv q hq]
  ·rw [if_neg h1]
   have n1:al x≠p:=fun e=>h1 (by rw [←e,i1])
   by_cases h2:x=al q
   ·subst h2
    rw [if_pos rfl,ha.inv q hq,if_neg (Ne.symm hpq),if_pos rfl,ph_N ha hap,ha.inv p hp]
   ·rw [if_neg h2]
    have n2:al x≠q:=fun e=>h2 (by rw [←e,i1])
    rw [if_neg n1,if_neg n2,ph_N ha hx]
 have hswp:=ydp hpm hap haq
 have fin: ∀g',Pot N (swp si p q) al w g'->g' (al p)=g' (al q)->Pot N si al w g':=fun g' hg' he=>by
  refine ⟨fun x hx=>?_,hg'.edge⟩
  by_cases h1:al x=p
  ·have e:=hg'.face (al q) haq
   rw [ha.inv q hq] at e
   have:swp si p q q=si p:=by unfold swp;rw [if_neg (Ne.symm hpq),if_pos rfl]
   rw [this] at e
   rw [h1,e,←he,←h1,ha.inv x hx]
  ·by_cases h2:al x=q
   ·have e:=hg'.face (al p) hap
    rw [ha.inv p hp] at e
    have:swp si p q p=si q:=by unfold swp;rw [if_pos rfl]
    rw [this] at e
    rw [h2,e,he,←h2,ha.inv x hx]
   ·have e:=hg'.face x hx
    rwa [show swp si p q (al x)=si (al x) by unfold swp;rw [if_neg h1,if_neg h2]] at e
 have hcon: ∀g',Pot N (swp si p q) al w g'-> ∀x y,x<N->SC (phK (swp si p q) al N) x y->g' y=g' x:=fun g' hg' x y hx hxy=>y2n hpm' (fun z hz=>by rw [ph_N ha hz];exact hg'.face z hz) hx hxy
 by_cases hF:SC (phK si al N) (al p) (al q)
 ·--the parts are different components
  have hno: ¬SC (phK (swp si p q) al N) (al p) (al q):=fun e=>ydq hpm hap haa hF ((ycv hswp hph hap).2 e)
  have hKpq:KK si al N p q:=K_sc hs ha hp hsc
  have hnK: ¬KK (swp si p q) al N p q:=fun hsame=>by
   have hvn:=ydq hs hp hpq hsc
   have hvj:=yb4 hs' hp hq hvn
   rw [yep] at hvj
   obtain ⟨lV,hV⟩:=Tr.exists (SC.eqv hs) (KK si al N p)
   obtain ⟨lF,hlF⟩:=Tr.exists (SC.eqv hpm) (KK si al N p)
   have heq:=h.eq p hp lV lF hV hlF
   obtain ⟨lV',hV'⟩:=Tr.exists (SC.eqv hs') (KK si al N p)
   obtain ⟨lF',hF'⟩:=Tr.exists (SC.eqv hpm') (KK si al N p)
   have hUp:KK si al N p p:=hE.rfl' _ hp
   have hv1:lV'.length=lV.length+1:=hV'.join (SC.eqv hs') hp hq hUp hKpq hvn (hV.congr hvj)
   have hUap:KK si al N p (al p):=K_al hs ha hp
   have hUaq:KK si al N p (al q):=hE.trans _ _ _ hp hq haq hKpq (K_al hs ha hq)
   have hF1:Tr N (KK si al N p) (SC (swp (phK si al N) (al p) (al q))) lF':=hF'.congr fun x y hx _=>(ycv hswp hph hx).symm
   have hno':=ydq hpm hap haa hF
   have hj:=yb4 hswp hap haq hno'
   rw [yep] at hj
   have hf1:=hF1.join (SC.eqv hswp) hap haq hUap hUaq hno' (hlF.congr hj)
   have hsub: ∀x y,x<N->y<N->KK (swp si p q) al N x y->KK si al N x y:=fun x y hx hy hk=>by
    refine K_least hs' ha hE (fun x hx=>?_) (fun x hx=>K_al hs ha hx) hx hy hk
    unfold swp
    by_cases h1:x=p
    ·rw [if_pos h1,h1];exact hE.trans _ _ _ hp hq (hs.lt _ hq) hKpq (K_si hs ha hq)
    ·by_cases h2:x=q
     ·rw [if_neg h1,if_pos h2,h2];exact hE.trans _ _ _ hq hp (hs.lt _ hp) (hE.symm _ _ hp hq hKpq) (K_si hs ha hp)
     ·rw [if_neg h1,if_neg h2];exact K_si hs ha hx
   have hsup: ∀x y,x<N->y<N->KK si al N x y->KK (swp si p q) al N x y:=fun x y hx hy hk=>by
    refine K_least hs ha hE' (fun x hx=>?_) (fun x hx=>K_al hs' ha hx) hx hy hk
    by_cases h1:x=p
    ·have:=K_si hs' ha hq
     rw [show swp si p q q=si p by unfold swp;rw [if_neg (Ne.symm hpq),if_pos rfl]] at this
     rw [h1];exact hE'.trans _ _ _ hp hq (hs.lt _ hp) hsame this
    ·by_cases h2:x=q
     ·have:=K_si hs' ha hp
      rw [show swp si p q p=si q by unfold swp;rw [if_pos rfl]] at this
      rw [h2];exact hE'.trans _ _ _ hq hp (hs.lt _ hq) (hE'.symm _ _ hp hq hsame) this
     ·have:=K_si hs' ha hx
      rwa [show swp si p q x=si x by unfold swp;rw [if_neg h1,if_neg h2]] at this
   have hcl: ∀x,x<N->(KK si al N p x↔KK (swp si p q) al N p x):=fun x hx=>⟨hsup p x hp hx,hsub p x hp hx⟩
   have e1:=hV'.congrU hcl (E':=SC (swp si p q)) (fun _ _ _ _ _ _=>Iff.rfl)
   have e2:=hF'.congrU hcl (E':=SC (phK (swp si p q) al N)) (fun _ _ _ _ _ _=>Iff.rfl)
   have e3:eU al (KK si al N p) N=eU al (KK (swp si p q) al N p) N:=ydr fun x hx=>by rw [hcl x hx]
   have e4:=yna hs' ha hp e1 e2
   omega
  refine ⟨fun z=>if KK (swp si p q) al N q z then g z+(g (al p)-g (al q)) else g z,fin _ ⟨fun x hx=>?_,fun x hx=>?_⟩ ?_⟩
  ·have hax:=ha.lt x hx
   have hcl:=K_cl hs' ha hq
   have e:KK (swp si p q) al N q (swp si p q (al x))↔KK (swp si p q) al N q x:=by rw [←hcl.1 _ hax,←hcl.2 _ hx]
   by_cases hk:KK (swp si p q) al N q x
   ·rw [if_pos hk,if_pos (e.2 hk),hg.face x hx]
   ·rw [if_neg hk,if_neg fun e'=>hk (e.1 e'),hg.face x hx]
  ·have e:=(K_cl hs' ha hq).2 x hx
   have:=hg.edge x hx
   by_cases hk:KK (swp si p q) al N q x
   ·rw [if_pos hk,if_pos (e.1 hk)];omega
   ·rw [if_neg hk,if_neg fun e'=>hk (e.2 e')];exact this
  ·have e1: ¬KK (swp si p q) al N q (al p):=fun e=>hnK (hE'.symm _ _ hq hp (hE'.trans _ _ _ hq hap hp e (hE'.symm _ _ hp hap (K_al hs' ha hp))))
   rw [if_neg e1,if_pos (K_al hs' ha hq)];omega
 ·--one face behind the parting
  refine ⟨g,fin g hg ?_⟩
  have hj:=yb4 hpm hap haq hF
  have:SC (phK (swp si p q) al N) (al p) (al q):=(ycv hswp hph hap).1 ((hj _ _ hap haq).2 (.inr (.inl ⟨.refl _ _, .refl _ _⟩)))
  exact (hcon g hg _ _ hap this).symm
def nbt (b:Bool):Nat:=if b then 1 else 0
def jnN (b:Bool) (x:Nat):Nat:=if b then x-x % 4+(3-x % 4) else if x % 2=0 then x+1 else x-1
def siK (b:Nat->Bool) (k x:Nat):Nat:=if x/4<k then jnN (b (x/4)) x else siD x
theorem ysg (b:Nat->Bool):siK b 0=siD:=funext fun x=>by unfold siK;rw [if_neg (by omega)]
theorem ysh (b:Nat->Bool) (k:Nat):siK b (k+1)=swp (siK b k) (4*k+nbt (b k)) (4*k+nbt (b k)+2):=funext fun x=>by
 unfold siK swp
 by_cases h:x/4=k
 ·have e:x=4*k\/x=4*k+1\/x=4*k+2\/x=4*k+3:=by omega
  rw [if_pos (by omega),h]
  cases hb:b k with
  |false=>
   simp only [nbt,jnN,siD,Bool.false_eq_true,if_false]
   rcases e with rfl|rfl|rfl|rfl
   ·rw [if_pos (by omega),if_pos (by omega),if_neg (by omega)];omega
   ·rw [if_neg (by omega),if_neg (by omega),if_neg (by omega),if_neg (by omega)];omega
   ·rw [if_pos (by omega),if_neg (by omega),if_pos (by omega),if_neg (by omega)];omega
   ·rw [if_neg (by omega),if_neg (by omega),if_neg (by omega),if_neg (by omega)];omega
  |true=>
   simp only [nbt,jnN,siD,if_true]
   rcases e with rfl|rfl|rfl|rfl
   ·rw [if_neg (by omega),if_neg (by omega),if_neg (by omega)];omega
   ·rw [if_pos (by omega),if_neg (by omega)];omega
   ·rw [if_neg (by omega),if_neg (by omega),if_neg (by omega)];omega
   ·rw [if_neg (by omega),if_pos (by omega),if_neg (by omega)];omega
 ·have h1:x≠4*k+nbt (b k)/\x≠4*k+nbt (b k)+2:=by unfold nbt;split<;>omega
  rw [if_neg h1.1,if_neg h1.2]
  show (if x/4<k+1 then jnN (b (x/4)) x else siD x)=if x/4<k then jnN (b (x/4)) x else siD x
  by_cases h2:x/4<k
  ·rw [if_pos (by omega),if_pos h2]
  ·rw [if_neg (by omega),if_neg h2]
theorem yzn (b:Nat->Bool) (k:Nat):SC (siK b k) (4*k+nbt (b k)) (4*k+nbt (b k)+2):=by
 have key: ∀x,x/4=k->siK b k x=siD x:=fun x hx=>by unfold siK;rw [if_neg (by omega)]
 have h1:(4*k+nbt (b k))/4=k:=by unfold nbt;split<;>omega
 refine ⟨2,?_⟩
 simp only [itn]
 rw [key _ h1,key _ (by rw [siD_div];exact h1)]
 unfold siD nbt
 split<;>omega
theorem Sph.smK (h:Sph (4*n) siD al) (b:Nat->Bool): ∀k,k<=n->Sph (4*n) (siK b k) al
 |0,_=>by rw [ysg];exact h
 |k+1,hk=>by
  rw [ysh]
  have:nbt (b k)<=1:=by unfold nbt;split<;>omega
  exact (h.smK b k (by omega)).split (by omega) (by omega) (by omega) (yzn b k)
theorem Sph.pot (h:Sph (4*n) siD al) (o:Nat->Int) (h1: ∀x,x<4*n->o x=1\/o x= -1) (h2: ∀x,x<4*n->o (al x)= -o x) (h3: ∀c,c<n->o (4*c+2)= -o (4*c)/\o (4*c+3)= -o (4*c+1)): ∃g,Pot (4*n) siD al o g:=by
 obtain ⟨b,hb⟩: ∃b:Nat->Bool,b=fun c=>decide (o (4*c+1)=o (4*c)):=⟨_,rfl⟩
 have hfl: ∀x,x<4*n->o (jnN (b (x/4)) x)= -o x:=fun x hx=>by
  have e:x=4*(x/4)\/x=4*(x/4)+1\/x=4*(x/4)+2\/x=4*(x/4)+3:=by omega
  have hc:x/4<n:=by omega
  generalize x/4=c at*
  obtain ⟨k1,k2⟩:=h3 c hc
  have o0:=h1 (4*c) (by omega)
  have o1:=h1 (4*c+1) (by omega)
  by_cases hbc:o (4*c+1)=o (4*c)
  ·rw [show b c=true by rw [hb];exact decide_eq_true hbc]
   simp only [jnN,if_true]
   rcases e with rfl|rfl|rfl|rfl
   ·rw [show 4*c-4*c % 4+(3-4*c % 4)=4*c+3 by omega];omega
   ·rw [show 4*c+1-(4*c+1)% 4+(3-(4*c+1)% 4)=4*c+2 by omega];omega
   ·rw [show 4*c+2-(4*c+2)% 4+(3-(4*c+2)% 4)=4*c+1 by omega];omega
   ·rw [show 4*c+3-(4*c+3)% 4+(3-(4*c+3)% 4)=4*c by omega];omega
  ·rw [show b c=false by rw [hb];exact decide_eq_false hbc]
   simp only [jnN,Bool.false_eq_true,if_false]
   rcases e with rfl|rfl|rfl|rfl
   ·rw [if_pos (by omega)];omega
   ·rw [if_neg (by omega),show 4*c+1-1=4*c by omega];omega
   ·rw [if_pos (by omega),show 4*c+2+1=4*c+3 by omega];omega
   ·rw [if_neg (by omega),show 4*c+3-1=4*c+2 by omega];omega
 have key: ∀d,d<=n-> ∃g,Pot (4*n) (siK b (n-d)) al o g:=fun d=>by
  induction d with
  |zero=>
   intro _
   refine ⟨fun x=>if o x=1 then 1 else 0,fun x hx=>?_,fun x hx=>?_⟩
   ·have hax:=h.mat.lt x hx
    have e1:siK b (n-0) (al x)=jnN (b (al x/4)) (al x):=by unfold siK;rw [if_pos (by omega)]
    have e2:=hfl _ hax
    have e3:=h2 x hx
    rw [e1,e2,e3]
    rcases h1 x hx with e|e<;>rw [e]<;>decide
   ·have e3:=h2 x hx
    show (if o x=1 then (1:Int) else 0)-(if o (al x)=1 then 1 else 0)=o x
    rw [e3]
    rcases h1 x hx with e|e<;>rw [e]<;>decide
  |succ d ih=>
   intro hd
   obtain ⟨g,hg⟩:=ih (by omega)
   rw [show n-d=(n-(d+1))+1 by omega,ysh] at hg
   have:nbt (b (n-(d+1)))<=1:=by unfold nbt;split<;>omega
   exact (h.smK b (n-(d+1)) (by omega)).pot_split (by omega) (by omega) (by omega) (yzn b _) hg
 have:=key n (Nat.le_refl _)
 rwa [Nat.sub_self,ysg] at this
end
end Sp
end Go.Proofs.YtphjphpmfflfpaaDoor
namespace Go.Proofs.YtphjphpmfflfpaaDoor
set_option linter.unusedSimpArgs false
set_option linter.unusedVariables false
section
variable {s m:List Int} {L:Int} (v:ymm s m L)
include v
end
end Go.Proofs.YtphjphpmfflfpaaDoor
namespace Go.Proofs.YtphjphpmfflfpaaDoor
set_option linter.unusedSimpArgs false
set_option linter.unusedVariables false
open Classical
section
variable {s m:List Int} {L:Int} (v:ymm s m L)
def op2 (x:Nat):Nat:=x-x % 4+(x % 4+2)% 4
include v
end
section
variable {s m:List Int} {L:Int} (hv:yal s m L=true)
include hv
end
end Go.Proofs.YtphjphpmfflfpaaDoor
