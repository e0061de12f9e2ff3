/- Plain: diagrams whose half-edges are renamed: they stay valid, and their circles are the old ones. -/
import Derived.Test.YtjpbeacamoijhaaDoorZm
import Derived.Test.YtjpbeacamoijhaaDoorSr
namespace Go.Proofs.YtjpbeacamoijhaaDoor
set_option linter.unusedSimpArgs false
set_option linter.unusedVariables false
set_option linter.unusedSectionVars false
namespace Sp
open Classical
section
variable {N:Nat} {si al si':Nat->Nat}
theorem yzn (hs:PermN N si) (hs':PermN N si') (h1: ∀x,x<N->si (si' x)=x) {x y:Nat} (hx:x<N) (h:SC si' x y):SC si x y:=by
 have hE:=SC.eqv hs
 refine yhw hs' hE (fun z hz=>?_) hx h
 have:SC si (si' z) (si (si' z)):=SC.step _ _
 rw [h1 z hz] at this
 exact hE.symm _ _ (hs'.lt z hz) hz this
theorem Sph.opp (h:Sph N si al) (hs':PermN N si') (h1: ∀x,x<N->si (si' x)=x) (h2: ∀x,x<N->si' (si x)=x):Sph N si' al:=by
 have hs:=h.perm
 have ha:=h.mat
 have scE: ∀x y,x<N->y<N->(SC si x y↔SC si' x y):=fun x y hx hy=>⟨fun k=>yzn hs' hs h2 hx k,fun k=>yzn hs hs' h1 hx k⟩
 have kE: ∀x y,x<N->y<N->(KK si al N x y↔KK si' al N x y):=fun x y hx hy=>by
  constructor
  ·intro k
   exact yca hs ha (yc7 hs' ha) (fun z hz=>K_sc hs' ha hz ((scE z _ hz (hs.lt z hz)).1 (SC.step si z))) (fun z hz=>K_al hs' ha hz) hx hy k
  ·intro k
   exact yca hs' ha (yc7 hs ha) (fun z hz=>K_sc hs ha hz ((scE z _ hz (hs'.lt z hz)).2 (SC.step si' z))) (fun z hz=>K_al hs ha hz) hx hy k
 have hpm:=ybl hs ha N (Nat.le_refl _)
 have hpm':=ybl hs' ha N (Nat.le_refl _)
 have fE: ∀x y,x<N->SC (phK si' al N) x y->SC (phK si al N) (al x) (al y):=fun x y hx k=>by
  have hEq:EqvN N (fun a b=>SC (phK si al N) (al a) (al b)):=⟨fun a ha'=> .refl _ _,fun a b ha' hb k=>k.symm hpm (ha.lt a ha'),fun a b c _ _ _ k l=>k.trans l⟩
  refine yhw hpm' hEq (fun z hz=>?_) hx k
  have hz1:=ha.lt z hz
  have hz2:=hs'.lt _ hz1
  have e:phK si al N (al (phK si' al N z))=al z:=by
   rw [ph_N ha hz,ph_N ha (ha.lt _ hz2),ha.inv _ hz2,h1 _ hz1]
  have st:=SC.step (phK si al N) (al (phK si' al N z))
  rw [e] at st
  exact st.symm hpm (ha.lt _ (hpm'.lt z hz))
 have fE': ∀x y,x<N->SC (phK si al N) x y->SC (phK si' al N) (al x) (al y):=fun x y hx k=>by
  have hEq:EqvN N (fun a b=>SC (phK si' al N) (al a) (al b)):=⟨fun a ha'=> .refl _ _,fun a b ha' hb k=>k.symm hpm' (ha.lt a ha'),fun a b c _ _ _ k l=>k.trans l⟩
  refine yhw hpm hEq (fun z hz=>?_) hx k
  have hz1:=ha.lt z hz
  have hz2:=hs.lt _ hz1
  have e:phK si' al N (al (phK si al N z))=al z:=by
   rw [ph_N ha hz,ph_N ha (ha.lt _ hz2),ha.inv _ hz2,h2 _ hz1]
  have st:=SC.step (phK si' al N) (al (phK si al N z))
  rw [e] at st
  exact st.symm hpm' (ha.lt _ (hpm.lt z hz))
 refine ⟨hs',ha,fun r hr lV lF hV hF=>?_⟩
 have hV':Tr N (KK si al N r) (SC si) lV:=hV.congrU (fun x hx=>(kE r x hr hx).symm) (fun x y hx hy _ _=>(scE x y hx hy).symm)
 have hF':Tr N (KK si al N r) (SC (phK si al N)) (lF.map al):=by
  refine ⟨fun x hx=>?_,?_,fun x hx y hy e=>?_,fun x hx hU=>?_⟩
  ·obtain ⟨z,hz,rfl⟩:=List.mem_map.1 hx
   have hm:=hF.mem z hz
   have k1:=(kE r z hr hm.1).2 hm.2
   exact ⟨ha.lt z hm.1,((K_cl hs ha hr).2 z hm.1).1 k1⟩
  ·rw [List.nodup_iff_pairwise_ne,List.pairwise_map]
   exact List.Pairwise.imp_of_mem (fun {a b} h1 h2 hne e=>hne (by rw [←ha.inv a (hF.mem a h1).1,e,ha.inv b (hF.mem b h2).1])) (List.nodup_iff_pairwise_ne.1 hF.nodup)
  ·obtain ⟨z,hz,rfl⟩:=List.mem_map.1 hx
   obtain ⟨u,hu,rfl⟩:=List.mem_map.1 hy
   have m1:=(hF.mem z hz).1
   have m2:=(hF.mem u hu).1
   have:=fE' _ _ (ha.lt z m1) e
   rw [ha.inv z m1,ha.inv u m2] at this
   rw [hF.apart z hz u hu this]
  ·have hx':=ha.lt x hx
   obtain ⟨y,hy,k⟩:=hF.all (al x) hx' ((kE r _ hr hx').1 (((K_cl hs ha hr).2 x hx).1 hU))
   refine ⟨al y,List.mem_map.2 ⟨y,hy,rfl⟩,?_⟩
   have:=fE _ _ hx' k
   rw [ha.inv x hx] at this
   exact this
 have:=h.eq r hr lV (lF.map al) hV' hF'
 rw [List.length_map] at this
 rw [this]
 congr 1
 exact ydy fun x hx=>by rw [kE r x hr hx]
end
end Sp
structure Rel (n:Nat) (f g:Nat->Nat) (m m':List Int):Prop where
 fl: ∀x,x<4*n->f x<4*n
 gl: ∀x,x<4*n->g x<4*n
 gf: ∀x,x<4*n->g (f x)=x
 fg: ∀x,x<4*n->f (g x)=x
 len:m'.length=4*n
 mate: ∀x,x<4*n->m'.getD (f x) 0=(f (m.getD x 0).toNat:Int)
section
variable {n:Nat} {f g:Nat->Nat} {m m':List Int}
theorem Rel.gmate (h:Rel n f g m m') (hp:PmOk m n) {y:Nat} (hy:y<4*n):m'.getD y 0=(f (m.getD (g y) 0).toNat:Int):=by
 have:=h.mate (g y) (h.gl y hy)
 rw [h.fg y hy] at this
 exact this
theorem Rel.pm (h:Rel n f g m m') (hp:PmOk m n):PmOk m' n:=by
 have mr: ∀x,x<4*n->(m.getD x 0).toNat<4*n/\0<=m.getD x 0:=fun x hx=>by have:=hp.ok.2 x hx;omega
 refine ⟨⟨h.len,fun y hy=>?_⟩,fun y hy=>?_,fun y hy=>?_⟩
 ·rw [h.gmate hp hy]
  have:=h.fl _ (mr _ (h.gl y hy)).1
  omega
 ·have hg:=h.gl y hy
  rw [h.gmate hp hy,Int.toNat_natCast,h.mate _ (mr _ hg).1,hp.inv _ hg,Int.toNat_natCast,h.fg y hy]
 ·rw [h.gmate hp hy]
  intro e
  have hg:=h.gl y hy
  have e2:f (m.getD (g y) 0).toNat=y:=by omega
  have e3:=congrArg g e2
  rw [h.gf _ (mr _ hg).1] at e3
  have:=(mr _ hg).2
  exact hp.ne _ hg (by omega)
end
def siI (x:Nat):Nat:=x-x % 4+(x % 4+1)% 4
theorem yry (n:Nat):Sp.PermN (4*n) siI:=⟨fun x hx=>by unfold siI;omega,fun x y hx hy e=>by unfold siI at e;omega⟩
theorem ywr {s s' m m':List Int} {L:Int} {f g:Nat->Nat} (hv:yai s m L=true) (hsl:s'.length=s.length) (h:Rel s.length f g m m') (hsg: ∀i,i<s.length->s'.getD i 0=1\/s'.getD i 0= -1)
  (bf:Nat->Bool) (hbf: ∀x,x<4*s.length->bf (m.getD x 0).toNat=bf x) (hout: ∀x,x<4*s.length->outB s' (f x:Nat)=(bf x^^outB s x)) (ho:(∀x,x<4*s.length->f (Sp.siD x)=Sp.siD (f x))\/(∀x,x<4*s.length->f (siI x)=Sp.siD (f x))):yai s' m' L=true:=by
 have v:=yal hv
 have hp:=pmOk hv
 have hp':=h.pm hp
 obtain ⟨hd,hsp⟩:=Sp.dia_of hv
 have hS:=hd.sph.1 hsp
 have hD':Sp.Dia m' s.length:=⟨⟨hp'.ok,hp'.inv⟩,hp'.ne⟩
 have mr: ∀x,x<4*s.length->(m.getD x 0).toNat<4*s.length/\0<=m.getD x 0:=fun x hx=>by have:=hp.ok.2 x hx;omega
 have ea: ∀y,y<4*s.length->g (Sp.alD m' y)=Sp.alD m (g y):=fun y hy=>by
  unfold Sp.alD
  rw [h.gmate hp hy,Int.toNat_natCast,h.gf _ (mr _ (h.gl y hy)).1]
 have la: ∀y,y<4*s.length->Sp.alD m' y<4*s.length:=fun y hy=>by have:=hp'.ok.2 y hy;unfold Sp.alD;omega
 have gi: ∀x y,x<4*s.length->y<4*s.length->g x=g y->x=y:=fun x y hx hy e=>by rw [←h.fg x hx,e,h.fg y hy]
 have sl: ∀x,x<4*s.length->Sp.siD x<4*s.length:=fun x hx=>(Sp.siD_perm s.length).lt x hx
 have hS':Sp.Sph (4*s.length) Sp.siD (Sp.alD m'):=by
  rcases ho with ho|ho
  ·refine hS.embed (io:=g) h.gl gi sl la (fun x hx=>?_) ea
   have:=ho (g x) (h.gl x hx)
   rw [h.fg x hx] at this
   rw [←this,h.gf _ (sl _ (h.gl x hx))]
  ·have hO:=hS.opp (yry s.length) (fun x hx=>by unfold siI Sp.siD;omega) (fun x hx=>by unfold siI Sp.siD;omega)
   refine hO.embed (io:=g) h.gl gi sl la (fun x hx=>?_) ea
   have:=ho (g x) (h.gl x hx)
   rw [h.fg x hx] at this
   rw [←this,h.gf _ ((yry s.length).lt _ (h.gl x hx))]
 rw [yfk]
 unfold yf4
 rw [hsl,Bool.and_eq_true]
 refine ⟨?_,hD'.sph.2 hS'⟩
 unfold yb8
 rw [decide_eq_true_iff,hsl]
 refine ⟨v.s64,h.len,v.l0,v.l64,fun i hi=>hsg i hi,fun y hy=>?_⟩
 have p1:=hp'.ok.2 y hy
 refine ⟨p1.1,by rw [hsl];exact p1.2,hp'.ne y hy,hp'.inv y hy,?_⟩
 have hg:=h.gl y hy
 have q1:=hout (g y) hg
 rw [h.fg y hy] at q1
 have q2:=hout _ (mr _ hg).1
 rw [h.gmate hp hy,q1,q2,hbf _ hg,show (((m.getD (g y) 0).toNat:Nat):Int)=m.getD (g y) 0 by have:=(mr _ hg).2;omega]
 have:=(v.mt (g y) hg).2.2.2.2
 intro e
 exact this (by revert e;cases bf (g y)<;>simp)
theorem yzo {s s' m m':List Int} {L:Int} {f g:Nat->Nat} (hv:yai s m L=true) (hsl:s'.length=s.length) (h:Rel s.length f g m m') (hsg: ∀i,i<s.length->s'.getD i 0=1\/s'.getD i 0= -1)
  (b:Bool) (hout: ∀x,x<4*s.length->outB s' (f x:Nat)=(b^^outB s x)) (ho:(∀x,x<4*s.length->f (Sp.siD x)=Sp.siD (f x))\/(∀x,x<4*s.length->f (siI x)=Sp.siD (f x))):yai s' m' L=true:=
 ywr hv hsl h hsg (fun _=>b) (fun _ _=>rfl) hout ho
end Go.Proofs.YtjpbeacamoijhaaDoor
namespace Go.Proofs.YtjpbeacamoijhaaDoor
set_option linter.unusedSimpArgs false
set_option linter.unusedVariables false
section
variable {m m':List Int} {n L:Nat}
end
theorem jn4 (b:Bool) (c:Nat):jnB b ((4*c:Nat):Int)=((if b then 4*c+3 else 4*c+1:Nat):Int)/\jnB b ((4*c+1:Nat):Int)=((if b then 4*c+2 else 4*c:Nat):Int)/\jnB b ((4*c+2:Nat):Int)=((if b then 4*c+1 else 4*c+3:Nat):Int)/\
  jnB b ((4*c+3:Nat):Int)=((if b then 4*c else 4*c+2:Nat):Int):=by
 obtain ⟨a0,a1,a2,a3,b0,b1,b2,b3⟩:=yp2 c
 cases b
 ·exact ⟨b0,b1,b2,b3⟩
 ·exact ⟨a0,a1,a2,a3⟩
theorem four (x:Nat):x=4*(x/4)\/x=4*(x/4)+1\/x=4*(x/4)+2\/x=4*(x/4)+3:=by omega
theorem yng (s:List Int) (c:Nat):outB s ((4*c:Nat):Int)=false/\outB s ((4*c+1:Nat):Int)=(s.getD c 0==1)/\outB s ((4*c+2:Nat):Int)=true/\outB s ((4*c+3:Nat):Int)=(s.getD c 0== -1):=by
 have e0:((4*c:Nat):Int)% 4=0:=by omega
 have e1:((4*c+1:Nat):Int)% 4=1:=by omega
 have e2:((4*c+2:Nat):Int)% 4=2:=by omega
 have e3:((4*c+3:Nat):Int)% 4=3:=by omega
 have d1:(((4*c+1:Nat):Int)/4).toNat=c:=by omega
 have d3:(((4*c+3:Nat):Int)/4).toNat=c:=by omega
 unfold outB
 rw [e0,e1,e2,e3,d1,d3]
 simp
section
variable {s m:List Int} {L:Int}
end
end Go.Proofs.YtjpbeacamoijhaaDoor
