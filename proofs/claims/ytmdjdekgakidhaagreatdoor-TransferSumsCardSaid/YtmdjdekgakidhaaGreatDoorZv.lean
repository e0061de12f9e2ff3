/- Plain: the circles of the two extreme states, by Euler's inequality. -/
import Derived.Test.YtmdjdekgakidhaaGreatDoorZu
import Derived.Test.YtmdjdekgakidhaaGreatDoorZt
import Derived.Test.YtmdjdekgakidhaaGreatDoorZk
namespace Go.Proofs.YtmdjdekgakidhaaGreatDoor
set_option linter.unusedSimpArgs false
set_option linter.unusedVariables false
open Classical
theorem ypm (n:Nat):Sp.Mat (4*n) op2:=⟨fun x hx=>by unfold op2;omega,fun x hx=>by unfold op2;omega,fun x hx=>by unfold op2;omega⟩
theorem ypn (x:Nat):op2 (op2 x)=x:=by unfold op2;omega
theorem y5w (x:Nat):jS (fun _=>1) (jS (fun _=>0) x)=op2 x:=by
 obtain ⟨v1,v2,v3,v4,v5,v6,v7,v8,_⟩:=yem ((x/4:Nat):Int)
 have h0:=ydm (fun _=>0) x
 have h1:=ydm (fun _=>1) (jS (fun _=>0) x)
 unfold st3 at h0 h1
 have e:x=4*(x/4)\/x=4*(x/4)+1\/x=4*(x/4)+2\/x=4*(x/4)+3:=by omega
 generalize x/4=c at*
 unfold op2
 rcases e with rfl|rfl|rfl|rfl
 ·rw [show ((4*c:Nat):Int)=4*(c:Int) by omega,v1] at h0
  rw [h0,v6] at h1;omega
 ·rw [show ((4*c+1:Nat):Int)=4*(c:Int)+1 by omega,v2] at h0
  rw [h0,v5] at h1;omega
 ·rw [show ((4*c+2:Nat):Int)=4*(c:Int)+2 by omega,v3] at h0
  rw [h0,v8] at h1;omega
 ·rw [show ((4*c+3:Nat):Int)=4*(c:Int)+3 by omega,v4] at h0
  rw [h0,v7] at h1;omega
theorem yaax (x:Nat):jS (fun _=>1) x=op2 (jS (fun _=>0) x):=by
 have:=y5w (jS (fun _=>0) x)
 rwa [yon] at this
section
variable {m:List Int} {n:Nat} {σ:Nat->Bool} (hp:PmOk m n) (hA:Flp m n σ fun _=>0) (hB:Flp m n σ fun _=>1)
include hp hA hB
omit hp in
theorem yio {x:Nat} (hx:x<4*n):σ (op2 x)=σ x:=by
 rw [←y5w,hB.jn _ (ylj hx),hA.jn x hx,Bool.not_not]
omit hB in
theorem yty {x:Nat} (hx:x<4*n):σ (pF m σ (fun _=>0) x)=σ x:=by
 unfold pF
 split
 ·rename_i h
  have hm:=(yhf hp).mat
  rw [hA.jn _ (hm.lt x hx),hA.mt x hx,Bool.not_not]
 ·rfl
omit hp in
theorem ytz: ∀k,k<=n->Sp.cU (fun x=>σ x=true) (4*k)=2*k
 |0,_=>by simp [Sp.cU]
 |k+1,hk=>by
  have ih:=ytz k (by omega)
  rw [show 4*(k+1)=4*k+1+1+1+1 by omega,Sp.cU_succ,Sp.cU_succ,Sp.cU_succ,Sp.cU_succ,ih]
  have e1:σ (4*k+1)= !σ (4*k):=by
   have h:=hA.jn (4*k) (by omega)
   have hj:=ydm (fun _=>0) (4*k)
   unfold st3 at hj
   obtain ⟨v1,_⟩:=yem (k:Int)
   rw [show ((4*k:Nat):Int)=4*(k:Int) by omega,v1] at hj
   rw [show jS (fun _=>0) (4*k)=4*k+1 by omega] at h
   exact h
  have e2:=yio hA hB (x:=4*k) (by omega)
  have e3:=yio hA hB (x:=4*k+1) (by omega)
  rw [show op2 (4*k)=4*k+1+1 by unfold op2;omega] at e2
  rw [show op2 (4*k+1)=4*k+1+1+1 by unfold op2;omega] at e3
  simp only [e1,e2,e3]
  cases σ (4*k)<;>simp<;>omega
theorem y1s {lK:List Nat} (hK:Sp.Tr (4*n) (fun x=>σ x=true) (Sp.KK (pF m σ fun _=>0) op2 (4*n)) lK):cirS m n (fun _=>false)+cirS m n (fun _=>true)<=2*lK.length+n:=by
 have hs:=ygx hp hA
 have hm:=ypm n
 have hD:=(yhf hp).mat
 have hB':=ygx hp hB
 have h1: ∀x,x<4*n->(σ x=true↔σ (pF m σ (fun _=>0) x)=true):=fun x hx=>by rw [yty hp hA hx]
 have h2: ∀x,x<4*n->(σ x=true↔σ (op2 x)=true):=fun x hx=>by rw [yio hA hB hx]
 have hg:=Sp.phK_perm hs hm (4*n) (Nat.le_refl _)
 obtain ⟨lV,hV⟩:=Sp.Tr.exists (Sp.SC.eqv hs) fun x=>σ x=true
 obtain ⟨lF,hF⟩:=Sp.Tr.exists (Sp.SC.eqv hg) fun x=>σ x=true
 have eu:=Sp.euler hs hm h1 h2 (4*n) (Nat.le_refl _) lV lF lK hV hF hK
 have eV:=ytx hp hA hV
 have eE:=Sp.eU_card hm h2
 rw [ytz hA hB n (Nat.le_refl _)] at eE
 have step: ∀x,x<4*n->σ x=true->Sp.phK (pF m σ fun _=>0) op2 (4*n) x<4*n/\σ (Sp.phK (pF m σ fun _=>0) op2 (4*n) x)=true/\op2 (Sp.phK (pF m σ fun _=>0) op2 (4*n) x)=pF m σ (fun _=>1) (op2 x):=fun x hx cx=>by
  have ho:=hm.lt x hx
  have co:=(h2 x hx).1 cx
  refine ⟨hg.lt x hx,?_,?_⟩
  ·rw [Sp.ph_N hm hx];exact (h1 _ ho).1 co
  ·rw [Sp.ph_N hm hx]
   unfold pF
   rw [if_pos co,if_pos co,yaax]
 have iter: ∀k x,x<4*n->σ x=true->Sp.itn (Sp.phK (pF m σ fun _=>0) op2 (4*n)) k x<4*n/\σ (Sp.itn (Sp.phK (pF m σ fun _=>0) op2 (4*n)) k x)=true/\op2 (Sp.itn (Sp.phK (pF m σ fun _=>0) op2 (4*n)) k x)=Sp.itn (pF m σ fun _=>1) k (op2 x):=fun k=>by
  induction k with
  |zero=>intro x hx cx;exact ⟨hx,cx,rfl⟩
  |succ k ih=>
   intro x hx cx
   obtain ⟨a,b,c⟩:=ih x hx cx
   obtain ⟨a',b',c'⟩:=step _ a b
   exact ⟨a',b',by simp only [Sp.itn];rw [c',c]⟩
 have opi: ∀x y,op2 x=op2 y->x=y:=fun x y e=>by rw [←ypn x,e,ypn]
 have hF':Sp.Tr (4*n) (fun x=>σ x=true) (Sp.SC (pF m σ fun _=>1)) (lF.map op2):=by
  refine ⟨fun x hx=>?_,ye8 (fun x _ y _ e=>opi x y e) hF.nodup,fun x hx y hy e=>?_,fun z hz cz=>?_⟩
  ·obtain ⟨y,hy,rfl⟩:=List.mem_map.1 hx
   obtain ⟨a,b⟩:=hF.mem y hy
   exact ⟨hm.lt y a,(h2 y a).1 b⟩
  ·obtain ⟨x',hx',rfl⟩:=List.mem_map.1 hx
   obtain ⟨y',hy',rfl⟩:=List.mem_map.1 hy
   obtain ⟨a,b⟩:=hF.mem x' hx'
   obtain ⟨k,hk⟩:=e
   rw [←(iter k x' a b).2.2] at hk
   rw [hF.apart x' hx' y' hy' ⟨k,opi _ _ hk⟩]
  ·have ho:=hm.lt z hz
   obtain ⟨y,hy,k,hk⟩:=hF.all (op2 z) ho ((h2 z hz).1 cz)
   refine ⟨op2 y,List.mem_map_of_mem hy,k,?_⟩
   have:=(iter k (op2 z) ho ((h2 z hz).1 cz)).2.2
   rw [hk,ypn] at this
   exact this.symm
 have eF:=ytx hp hB hF'
 rw [List.length_map] at eF
 have c1:cirS m n (fun _=>false)=cir3 m n (fun _=>0):=yj9 hp _
 have c2:cirS m n (fun _=>true)=cir3 m n (fun _=>1):=yj9 hp _
 omega
theorem y40 {x y:Nat} (hx:x<4*n) (hy:y<4*n) (hc:Sp.KK Sp.siD (Sp.alD m) (4*n) x y) (cx:σ x=true) (cy:σ y=true):Sp.KK (pF m σ fun _=>0) op2 (4*n) x y:=by
 have hs:=ygx hp hA
 have hm:=ypm n
 have hD:=(yhf hp).mat
 have hE:=Sp.K_eqv hs hm
 have hE0:=Sp.K_eqv (Sp.siD_perm n) hD
 have alt: ∀c,c<n->σ (4*c+1)= !σ (4*c):=fun c h=>by
  have h:=hA.jn (4*c) (by omega)
  have hj:=ydm (fun _=>0) (4*c)
  unfold st3 at hj
  obtain ⟨v1,_⟩:=yem (c:Int)
  rw [show ((4*c:Nat):Int)=4*(c:Int) by omega,v1] at hj
  rw [show jS (fun _=>0) (4*c)=4*c+1 by omega] at h
  exact h
 have same: ∀u v,u<4*n->v<4*n->σ u=true->σ v=true->u/4=v/4->Sp.KK (pF m σ fun _=>0) op2 (4*n) u v:=fun u v hu hv cu cv e=>by
  have h1:=yio hA hB hu
  have h3:=alt (u/4) (by omega)
  have h4:=yio hA hB (x:=4*(u/4)) (by omega)
  have h5:=yio hA hB (x:=4*(u/4)+1) (by omega)
  rw [show op2 (4*(u/4))=4*(u/4)+2 by unfold op2;omega] at h4
  rw [show op2 (4*(u/4)+1)=4*(u/4)+3 by unfold op2;omega] at h5
  have hor:v=u\/v=op2 u:=by
   have eu:u=4*(u/4)\/u=4*(u/4)+1\/u=4*(u/4)+2\/u=4*(u/4)+3:=by omega
   have ev:v=4*(u/4)\/v=4*(u/4)+1\/v=4*(u/4)+2\/v=4*(u/4)+3:=by omega
   generalize u/4=c at*
   unfold op2
   rcases eu with rfl|rfl|rfl|rfl<;>rcases ev with rfl|rfl|rfl|rfl<;>first|omega|(exfalso;clear h1;revert cu cv h3 h4 h5;cases σ (4*c)<;>cases σ (4*c+1)<;>cases σ (4*c+2)<;>cases σ (4*c+3)<;>simp)
  rcases hor with rfl|rfl
  ·exact hE.rfl' _ hu
  ·exact Sp.K_al hs hm hu
 have some': ∀c,c<n-> ∃u,u<4*n/\u/4=c/\σ u=true:=fun c h=>by
  have:=alt c h
  by_cases e:σ (4*c)=true
  ·exact ⟨4*c,by omega,by omega,e⟩
  ·exact ⟨4*c+1,by omega,by omega,by rw [this];simpa using e⟩
 have hR:Sp.EqvN (4*n) fun x y=> ∀u v,u<4*n->v<4*n->σ u=true->σ v=true->u/4=x/4->v/4=y/4->Sp.KK (pF m σ fun _=>0) op2 (4*n) u v:=by
  refine ⟨fun x hx u v hu hv cu cv e1 e2=>same u v hu hv cu cv (e1.trans e2.symm),fun x y hx hy h u v hu hv cu cv e1 e2=>hE.symm _ _ hv hu (h v u hv hu cv cu e2 e1),fun x y z hx hy hz h1 h2 u v hu hv cu cv e1 e2=>?_⟩
  obtain ⟨w,w1,w2,w3⟩:=some' (y/4) (by omega)
  exact hE.trans _ _ _ hu w1 hv (h1 u w hu w1 cu w3 e1 w2) (h2 w v w1 hv w3 cv w2 e2)
 refine Sp.K_least (Sp.siD_perm n) hD hR (fun x hx u v hu hv cu cv e1 e2=>same u v hu hv cu cv (by rw [e1,e2,Sp.siD_div])) (fun x hx u v hu hv cu cv e1 e2=>?_) hx hy hc x y hx hy cx cy rfl rfl
 have ha:=hD.lt x hx
 have hmt:=hA.mt x hx
 by_cases cx':σ x=true
 ·have h1:=Sp.K_si hs hm hx
  have h2:pF m σ (fun _=>0) x=jS (fun _=>0) (Sp.alD m x):=by unfold pF;rw [if_pos cx']
  have h3:=yty hp hA hx
  rw [h2] at h1 h3
  have hl:=ylj (s:=fun _=>0) ha
  exact hE.trans _ _ _ hu hx hv (same u x hu hx cu cx' e1) (hE.trans _ _ _ hx hl hv h1 (same _ v hl hv (by rw [h3];exact cx') cv (by rw [ytw];exact e2.symm)))
 ·have cx2:σ (Sp.alD m x)=true:=by rw [hmt];simpa using cx'
  have h1:=Sp.K_si hs hm ha
  have h2:pF m σ (fun _=>0) (Sp.alD m x)=jS (fun _=>0) x:=by unfold pF;rw [if_pos cx2,hD.inv x hx]
  have h3:=yty hp hA ha
  rw [h2] at h1 h3
  have hl:=ylj (s:=fun _=>0) hx
  exact hE.trans _ _ _ hu hl hv (same u _ hu hl cu (by rw [h3];exact cx2) (by rw [ytw];exact e1)) (hE.trans _ _ _ hl ha hv (hE.symm _ _ ha hl h1) (same _ v ha hv cx2 cv e2.symm))
end
end Go.Proofs.YtmdjdekgakidhaaGreatDoor
set_option linter.unusedSimpArgs false
set_option linter.unusedVariables false
namespace Go.Proofs.YtmdjdekgakidhaaGreatDoor
namespace Sp
section
variable {s s1 s2 m m1 m2:List Int} {L L1 L2:Int} {n c k:Nat}
def unM (m1 m2:List Int):List Int:=m1++m2.map fun x=>x+(m1.length:Int)
theorem unM_l {i:Nat} (h:i<m1.length):(unM m1 m2).getD i 0=m1.getD i 0:=getD_app_l _ _ _ h
theorem unM_r {i:Nat} (h:i<m2.length):(unM m1 m2).getD (m1.length+i) 0=m2.getD i 0+m1.length:=by
 unfold unM
 rw [getD_app_r _ _ _ (by omega),show m1.length+i-m1.length=i by omega]
 simp only [List.getD_eq_getElem?_getD,List.getElem?_map,List.getElem?_eq_getElem h,Option.map_some,Option.getD_some]
theorem outB_l {x:Int} (h0:0<=x) (h:x<4*s1.length):outB (s1++s2) x=outB s1 x:=by
 unfold outB
 rw [getD_app_l _ _ _ (by omega)]
theorem outB_r {x:Int} (h0:0<=x):outB (s1++s2) (x+4*s1.length)=outB s2 x:=by
 unfold outB
 rw [show (x+4*s1.length)% 4=x % 4 by omega,show ((x+4*s1.length)/4).toNat=s1.length+(x/4).toNat by omega,getD_app_r _ _ _ (by omega),show s1.length+(x/4).toNat-s1.length=(x/4).toNat by omega]
theorem valid_union (h1:yah s1 m1 L1=true) (h2:yah s2 m2 L2=true) (hn:s1.length+s2.length<=64) (hL:L1+L2<=64):yah (s1++s2) (unM m1 m2) (L1+L2)=true:=by
 have v1:=ya8 h1
 have v2:=ya8 h2
 obtain ⟨d1,p1⟩:=dia_of h1
 obtain ⟨d2,p2⟩:=dia_of h2
 have S1:=d1.sph.1 p1
 have S2:=d2.sph.1 p2
 have l1:=v1.len
 have l2:=v2.len
 have hsl:(s1++s2).length=s1.length+s2.length:=by simp
 have hml:(unM m1 m2).length=4*(s1.length+s2.length):=by unfold unM;simp;omega
 have gl: ∀i,i<4*s1.length->(unM m1 m2).getD i 0=m1.getD i 0:=fun i hi=>unM_l (by omega)
 have gr: ∀i,i<4*s2.length->(unM m1 m2).getD (i+4*s1.length) 0=m2.getD i 0+(4*s1.length:Nat):=fun i hi=>by
  rw [Nat.add_comm,←l1,unM_r (by omega)]
 have al: ∀i,i<4*s1.length->alD (unM m1 m2) i=alD m1 i:=fun i hi=>by unfold alD;rw [gl i hi]
 have ar: ∀i,i<4*s2.length->alD (unM m1 m2) (i+4*s1.length)=alD m2 i+4*s1.length:=fun i hi=>by
  have:=(v2.mt i hi).1
  unfold alD;rw [gr i hi];omega
 have cs: ∀x,x<4*(s1.length+s2.length)->x<4*s1.length\/ ∃i,i<4*s2.length/\x=i+4*s1.length:=fun x hx=>by
  by_cases h:x<4*s1.length
  ·exact .inl h
  ·exact .inr ⟨x-4*s1.length,by omega,by omega⟩
 have hM:Mat (4*(s1.length+s2.length)) (alD (unM m1 m2)):=by
  refine ⟨fun x hx=>?_,fun x hx=>?_,fun x hx=>?_⟩
  ·rcases cs x hx with h|⟨i,hi,rfl⟩
   ·rw [al x h];have:=S1.mat.lt x h;omega
   ·rw [ar i hi];have:=S2.mat.lt i hi;omega
  ·rcases cs x hx with h|⟨i,hi,rfl⟩
   ·rw [al x h,al _ (S1.mat.lt x h)];exact S1.mat.inv x h
   ·rw [ar i hi,ar _ (S2.mat.lt i hi),S2.mat.inv i hi]
  ·rcases cs x hx with h|⟨i,hi,rfl⟩
   ·rw [al x h];exact S1.mat.ne x h
   ·rw [ar i hi];have:=S2.mat.ne i hi;omega
 have hS:Sph (4*(s1.length+s2.length)) siD (alD (unM m1 m2)):=by
  refine ⟨siD_perm _,hM,fun r hr=>?_⟩
  rcases cs r hr with h|⟨i,hi,rfl⟩
  ·have:=ym6 (N:=4*(s1.length+s2.length)) (N':=4*s1.length) (si:=siD) (al:=alD (unM m1 m2)) (si':=siD) (al':=alD m1) (io:=id) (siD_perm _) hM (fun x hx=>by simp only [id];omega) (fun x y _ _ e=>e) (fun x hx=>(siD_perm s1.length).lt x hx) S1.mat.lt (fun x _=>rfl) (fun x hx=>(al x hx).symm)
   exact (this.2.2 r h).2 (S1.eq r h)
  ·have:=ym6 (N:=4*(s1.length+s2.length)) (N':=4*s2.length) (si:=siD) (al:=alD (unM m1 m2)) (si':=siD) (al':=alD m2) (io:=fun x=>x+4*s1.length) (siD_perm _) hM (fun x hx=>by omega) (fun x y _ _ e=>by omega) (fun x hx=>(siD_perm s2.length).lt x hx) S2.mat.lt (fun x _=>by unfold siD;omega) (fun x hx=>(ar x hx).symm)
   exact (this.2.2 i hi).2 (S2.eq i hi)
 have hc: ∀x,x<4*(s1.length+s2.length)->((alD (unM m1 m2) x:Nat):Int)=(unM m1 m2).getD x 0:=fun x hx=>by
  rcases cs x hx with h|⟨i,hi,rfl⟩
  ·have:=(v1.mt x h).1
   rw [al x h,gl x h];unfold alD;omega
  ·have:=(v2.mt i hi).1
   rw [ar i hi,gr i hi];unfold alD;omega
 have hD:Dia (unM m1 m2) (s1.length+s2.length):=by
  refine ⟨⟨⟨hml,fun i hi=>?_⟩,fun x hx=>?_⟩,fun x hx e=>?_⟩
  ·have h1:=hc i hi;have h2:=hM.lt i hi;omega
  ·have h1:=hc x hx
   have h2:=hM.inv x hx
   have h3:=hc _ (hM.lt x hx)
   rw [h2] at h3
   rw [←h1,Int.toNat_natCast,←h3]
  ·have h1:=hc x hx
   exact hM.ne x hx (by omega)
 rw [yi8]
 unfold yh3
 rw [hsl,Bool.and_eq_true]
 refine ⟨?_,hD.sph.2 hS⟩
 unfold ycr
 rw [decide_eq_true_iff,hsl]
 have z1:=v1.l0
 have z2:=v2.l0
 refine ⟨hn,hml,by omega,hL,fun i hi=>?_,fun h hh=>?_⟩
 ·by_cases hi1:i<s1.length
  ·rw [getD_app_l _ _ _ hi1];exact v1.sg i hi1
  ·rw [getD_app_r _ _ _ (by omega)];exact v2.sg _ (by omega)
 ·have q:=hD.prd.ok.2 h hh
  refine ⟨q.1,by rw [hsl];exact q.2,hD.ne h hh,hD.prd.inv h hh,?_⟩
  rcases cs h hh with hl|⟨i,hi,rfl⟩
  ·have r:=v1.mt h hl
   rw [gl h hl,outB_l (by omega) (by omega),outB_l r.1 r.2.1];exact r.2.2.2.2
  ·have r:=v2.mt i hi
   rw [gr i hi,show ((i+4*s1.length:Nat):Int)=(i:Int)+4*s1.length by omega,show ((4*s1.length:Nat):Int)=4*(s1.length:Int) by omega,outB_r (by omega),outB_r r.1];exact r.2.2.2.2
variable {col:Nat->Bool} {LA LB:Int}
end
end Sp
end Go.Proofs.YtmdjdekgakidhaaGreatDoor
namespace Go.Proofs.YtmdjdekgakidhaaGreatDoor
set_option linter.unusedSimpArgs false
set_option linter.unusedVariables false
theorem yqq (b:Bool) (x:Int) (n:Nat):jnB b (x+4*n)=jnB b x+4*n:=by
 unfold jnB
 rw [ydq,ycn,ydq,ycn,show (x+4*(n:Int))% 2=x % 2 by omega]
 split<;>omega
section
variable {m1 m2:List Int} {n1 n2:Nat}
theorem ykn (hp1:PmOk m1 n1) (hp2:PmOk m2 n2) (hpu:PmOk (Sp.unM m1 m2) (n1+n2)) (ch:Nat->Bool):cirS (Sp.unM m1 m2) (n1+n2) ch=cirS m1 n1 ch+cirS m2 n2 (fun c=>ch (n1+c)):=by
 have l1:=hp1.ok.1
 have l2:=hp2.ok.1
 have H1:=yek (ch:=ch) hp1.ok hp1.inv hp1.ne
 have H2:=yek (ch:=fun c=>ch (n1+c)) hp2.ok hp2.inv hp2.ne
 have hi1:=ybj hp1.ok hp1.inv hp1.ne ch
 have hi2:=ybj hp2.ok hp2.inv hp2.ne (fun c=>ch (n1+c))
 have hiu:=ybj hpu.ok hpu.inv hpu.ne ch
 unfold cirS
 generalize mgB m1 ch n1=R1 at*
 generalize mgB m2 (fun c=>ch (n1+c)) n2=R2 at*
 have r1:=H1.rep
 have r2:=H2.rep
 obtain ⟨R,hR⟩: ∃R,R1++R2.map (fun x=>x+4*(n1:Int))=R:=⟨_,rfl⟩
 have gl: ∀x,x<4*n1->R.getD x 0=R1.getD x 0:=fun x hx=>by rw [←hR];exact Sp.getD_app_l _ _ _ (by rw [r1.len];exact hx)
 have gr: ∀x,x<4*n2->R.getD (4*n1+x) 0=R2.getD x 0+4*n1:=fun x hx=>by
  rw [←hR,Sp.getD_app_r _ _ _ (by rw [r1.len];omega),r1.len,show 4*n1+x-4*n1=x by omega,yl1 _ _ _ 0 _ (by rw [r2.len];exact hx)]
 have ml: ∀x,x<4*n1->(Sp.unM m1 m2).getD x 0=m1.getD x 0:=fun x hx=>Sp.unM_l (by omega)
 have mr: ∀x,x<4*n2->(Sp.unM m1 m2).getD (4*n1+x) 0=m2.getD x 0+4*n1:=fun x hx=>by
  have:=Sp.unM_r (m1:=m1) (m2:=m2) (i:=x) (by omega)
  rw [l1] at this;rw [this];omega
 have hlen:R.length=4*(n1+n2):=by rw [←hR];simp [r1.len,r2.len];omega
 have cs: ∀x,x<4*(n1+n2)->x<4*n1\/ ∃y,y<4*n2/\x=4*n1+y:=fun x hx=>by
  by_cases h:x<4*n1
  ·exact .inl h
  ·exact .inr ⟨x-4*n1,by omega,by omega⟩
 have rep:RepR R (4*(n1+n2)):=by
  refine ⟨hlen,fun x hx=>?_,fun x hx=>?_⟩
  ·rcases cs x hx with h|⟨y,h,rfl⟩
   ·rw [gl x h];have:=r1.rng x h;omega
   ·rw [gr y h];have:=r2.rng y h;omega
  ·rcases cs x hx with h|⟨y,h,rfl⟩
   ·rw [gl x h]
    have:=r1.rng x h
    rw [gl _ (by omega),r1.idem x h]
   ·rw [gr y h]
    have:=r2.rng y h
    rw [show (R2.getD y 0+4*(n1:Int)).toNat=4*n1+(R2.getD y 0).toNat by omega,gr _ (by omega),r2.idem y h]
 have up1: ∀x y:Int,InR n1 x->Cir (fun x=>m1.getD x.toNat 0) (fun x=>jnB (ch (x/4).toNat) x) x y->Cir (fun x=>(Sp.unM m1 m2).getD x.toNat 0) (fun x=>jnB (ch (x/4).toNat) x) x y:=fun x y hx h=>by
  induction h with
  |refl=>exact .refl _
  | @mate z h ih=>
    have hz:=h.rng hi1 hx
    unfold InR at hz
    have:(Sp.unM m1 m2).getD z.toNat 0=m1.getD z.toNat 0:=ml _ (by omega)
    show Cir _ _ x (m1.getD z.toNat 0)
    rw [←this];exact .mate ih
  |join _ ih=>exact .join ih
 have up2: ∀x y:Int,InR n2 x->Cir (fun x=>m2.getD x.toNat 0) (fun x=>jnB (ch (n1+(x/4).toNat)) x) x y->Cir (fun x=>(Sp.unM m1 m2).getD x.toNat 0) (fun x=>jnB (ch (x/4).toNat) x) (x+4*n1) (y+4*n1):=fun x y hx h=>by
  induction h with
  |refl=>exact .refl _
  | @mate z h ih=>
    have hz:=h.rng hi2 hx
    unfold InR at hz
    have:(Sp.unM m1 m2).getD (z+4*(n1:Int)).toNat 0=m2.getD z.toNat 0+4*n1:=by
     rw [show (z+4*(n1:Int)).toNat=4*n1+z.toNat by omega];exact mr _ (by omega)
    show Cir _ _ _ (m2.getD z.toNat 0+4*n1)
    rw [←this];exact .mate ih
  | @join z h ih=>
    have hz:=h.rng hi2 hx
    unfold InR at hz
    have e1:=Cir.join ih
    rw [yqq,show ((z+4*(n1:Int))/4).toNat=n1+(z/4).toNat by omega] at e1
    exact e1
 have hcir:CirR (n1+n2) (fun x=>(Sp.unM m1 m2).getD x.toNat 0) (fun x=>jnB (ch (x/4).toNat) x) R:=by
  refine CirR.of hiu rep (fun x y hx hy e=>?_) (fun x hx=>?_) (fun x hx=>?_)
  ·rcases cs x hx with h|⟨x',h,rfl⟩<;>rcases cs y hy with g|⟨y',g,rfl⟩
   ·rw [gl x h,gl y g] at e
    exact up1 x y (by unfold InR;omega) ((H1.iff x y h g).1 e)
   ·rw [gl x h,gr y' g] at e
    have:=r1.rng x h;have:=r2.rng y' g;omega
   ·rw [gr x' h,gl y g] at e
    have:=r2.rng x' h;have:=r1.rng y g;omega
   ·rw [gr x' h,gr y' g] at e
    have:=up2 x' y' (by unfold InR;omega) ((H2.iff x' y' h g).1 (by omega))
    rw [show ((4*n1+x':Nat):Int)=(x':Int)+4*n1 by omega,show ((4*n1+y':Nat):Int)=(y':Int)+4*n1 by omega];exact this
  ·simp only [Int.toNat_natCast]
   rcases cs x hx with h|⟨x',h,rfl⟩
   ·rw [ml x h,gl x h]
    have hm:=hp1.ok.2 x h
    rw [gl _ (by omega)]
    refine (H1.iff _ x (by omega) h).2 ?_
    have h0:InR n1 (x:Int):=by unfold InR;omega
    have:=(Cir.mate (mt:=fun x=>m1.getD x.toNat 0) (jn:=fun x=>jnB (ch (x/4).toNat) x) (Cir.refl (x:Int))).symm hi1 h0
    simp only [Int.toNat_natCast] at this
    rw [show (((m1.getD x 0).toNat:Nat):Int)=m1.getD x 0 by omega];exact this
   ·rw [mr x' h,gr x' h]
    have hm:=hp2.ok.2 x' h
    rw [show (m2.getD x' 0+4*(n1:Int)).toNat=4*n1+(m2.getD x' 0).toNat by omega,gr _ (by omega)]
    have h0:InR n2 (x':Int):=by unfold InR;omega
    have:=(Cir.mate (mt:=fun x=>m2.getD x.toNat 0) (jn:=fun x=>jnB (ch (n1+(x/4).toNat)) x) (Cir.refl (x':Int))).symm hi2 h0
    simp only [Int.toNat_natCast] at this
    rw [(H2.iff (m2.getD x' 0).toNat x' (by omega) h).2 (by rw [show (((m2.getD x' 0).toNat:Nat):Int)=m2.getD x' 0 by omega];exact this)]
  ·rcases cs x hx with h|⟨x',h,rfl⟩
   ·have h0:InR n1 (x:Int):=by unfold InR;omega
    have hj:=hi1.jr x h0
    unfold InR at hj
    have:=(Cir.join (mt:=fun x=>m1.getD x.toNat 0) (jn:=fun x=>jnB (ch (x/4).toNat) x) (Cir.refl (x:Int))).symm hi1 h0
    rw [gl x h,gl _ (by omega)]
    exact (H1.iff _ x (by omega) h).2 (by rw [show (((jnB (ch ((x:Int)/4).toNat) (x:Int)).toNat:Nat):Int)=jnB (ch ((x:Int)/4).toNat) x by omega];exact this)
   ·have h0:InR n2 (x':Int):=by unfold InR;omega
    have hj:=hi2.jr x' h0
    unfold InR at hj
    have:=(Cir.join (mt:=fun x=>m2.getD x.toNat 0) (jn:=fun x=>jnB (ch (n1+(x/4).toNat)) x) (Cir.refl (x':Int))).symm hi2 h0
    rw [show ((4*n1+x':Nat):Int)=(x':Int)+4*n1 by omega,yqq,show (((x':Int)+4*(n1:Int))/4).toNat=n1+((x':Int)/4).toNat by omega,gr x' h]
    generalize jnB (ch (n1+((x':Int)/4).toNat)) (x':Int)=z at*
    rw [show (z+4*(n1:Int)).toNat=4*n1+z.toNat by omega,gr _ (by omega),(H2.iff z.toNat x' (by omega) h).2 (by rw [show ((z.toNat:Nat):Int)=z by omega];exact this)]
 have hru:roots (mgB (Sp.unM m1 m2) ch (n1+n2))=roots R:=yfi (yek (ch:=ch) hpu.ok hpu.inv hpu.ne) hcir
 rw [hru]
 have e0:(roots R:Int)=roots R1+roots R2:=by
  unfold roots
  rw [yey,yey,yey,hlen,r1.len,r2.len,show 4*(n1+n2)=4*n1+4*n2 by omega,yha]
  congr 1
  ·exact yap fun x hx=>by rw [gl x hx]
  ·exact yap fun x hx=>by
    rw [gr x hx]
    have:((R2.getD x 0+4*(n1:Int)==((4*n1+x:Nat):Int))=(R2.getD x 0==(x:Int))):=by
     rw [Bool.eq_iff_iff,beq_iff_eq,beq_iff_eq];omega
    rw [this]
 omega
end
def cvS (f g:Int->Int) (M:Nat) (e:Int):Int:=sm (fun i=>f ((i:Int)-M)*g (e-((i:Int)-M))) (2*M+1)
theorem ywp (g:Int->Int) (M:Nat) (e:Int): ∀(p:List (Int×Int)),(∀t∈p,-(M:Int)<=t.1/\t.1<=M)->cvL p g e=cvS (cfL p) g M e
 |[],_=>by unfold cvS;simp only [cvL,cfL,Int.zero_mul];rw [yb1];omega
 |t::p,h=>by
  have ih:=ywp g M e p fun u hu=>h u (List.mem_cons_of_mem _ hu)
  have ht:=h t (List.mem_cons_self ..)
  simp only [cvL,ih]
  unfold cvS
  simp only [cfL,Int.add_mul]
  have key:sm (fun i:Nat=>(if t.1=(i:Int)-M then t.2 else 0)*g (e-((i:Int)-M))) (2*M+1)=t.2*g (e-t.1):=by
   rw [yka (a:=(t.1+M).toNat) (by omega) fun x hx hne=>by rw [if_neg (by omega),Int.zero_mul],if_pos (by omega),show (((t.1+(M:Int)).toNat:Nat):Int)-M=t.1 by omega]
  rw [yco,key]
theorem ypo (g:Int->Int) (M:Nat): ∀(j:Nat) (a e:Int),-(M:Int)+2*j<=a->a+2*j<=M->cvS (fun x=>dpw j (x-a)) g M e=dmn j g (e-a)
 |0,a,e,h1,h2=>by
  unfold cvS
  simp only [dpw,dmn]
  rw [yka (a:=(a+M).toNat) (by omega) fun x hx hne=>by rw [if_neg (by omega),Int.zero_mul],if_pos (by omega),Int.one_mul,show (((a+(M:Int)).toNat:Nat):Int)-M=a by omega]
 |j+1,a,e,h1,h2=>by
  have e1:=ypo g M j (a-2) e (by omega) (by omega)
  have e2:=ypo g M j (a+2) e (by omega) (by omega)
  have:cvS (fun x=>dpw (j+1) (x-a)) g M e= -1*cvS (fun x=>dpw j (x-(a-2))) g M e+ -1*cvS (fun x=>dpw j (x-(a+2))) g M e:=by
   unfold cvS
   rw [←yf5,←yf5,←yco]
   refine yap fun x hx=>?_
   simp only [dpw,dml]
   rw [show (x:Int)-M-a+2=(x:Int)-M-(a-2) by omega,show (x:Int)-M-a-2=(x:Int)-M-(a+2) by omega,Int.sub_mul,Int.neg_mul]
   omega
  rw [this,e1,e2]
  simp only [dmn,dml]
  rw [show e-(a-2)=e-a+2 by omega,show e-(a+2)=e-a-2 by omega];omega
theorem y1t (F:Nat->Int->Int) (g:Int->Int) (M:Nat) (e:Int): ∀K,cvS (fun x=>sm (fun k=>F k x) K) g M e=sm (fun k=>cvS (F k) g M e) K
 |0=>by unfold cvS;simp only [sm,Int.zero_mul];rw [yb1];omega
 |K+1=>by
  have:=y1t F g M e K
  simp only [sm]
  rw [←this]
  unfold cvS
  rw [←yco]
  exact yap fun x _=>by rw [Int.add_mul]
theorem yt0 (F:Nat->Int->Int) (K:Nat): ∀i e,dmn i (fun x=>sm (fun k=>F k x) K) e=sm (fun k=>dmn i (F k) e) K
 |0,e=>rfl
 |i+1,e=>by
  simp only [dmn,dml,yt0 F K i]
  have h1:sm (fun k=> -dmn i (F k) (e+2)-dmn i (F k) (e-2)) K= -1*sm (fun k=>dmn i (F k) (e+2)) K+ -1*sm (fun k=>dmn i (F k) (e-2)) K:=by
   rw [←yf5,←yf5,←yco];exact yap fun k _=>by omega
  rw [h1];omega
theorem ypp (j:Nat) (w:Int): ∀i e,dmn i (fun x=>dpw j (x-w)) e=dpw (i+j) (e-w)
 |0,e=>by rw [Nat.zero_add];rfl
 |i+1,e=>by
  rw [show i+1+j=(i+j)+1 by omega]
  simp only [dmn,dml,dpw,ypp j w i]
  rw [show e+2-w=e-w+2 by omega,show e-2-w=e-w-2 by omega]
section
variable {m1 m2:List Int} {n1 n2 L1 L2:Nat}
theorem yhg {m:List Int} {n L:Nat} (hp:PmOk m n) (h0: ¬(n=0/\L=0)) (k:Nat):1<=cN m n L k:=by
 unfold cN
 by_cases hn:0<n
 ·have:=yfm hp (chB k) hn;omega
 ·omega
theorem y41 (hp1:PmOk m1 n1) (hp2:PmOk m2 n2) (hpu:PmOk (Sp.unM m1 m2) (n1+n2)) (h1: ¬(n1=0/\L1=0)) (h2: ¬(n2=0/\L2=0)) (hn1:n1<=9) (hL1:L1<=20) {p:List (Int×Int)} (hp: ∀t∈p,-(1000:Int)<=t.1/\t.1<=1000) (hc: ∀e,cfL p e=brT m1 n1 L1 1 e) (e:Int):
  cvL p (brT m2 n2 L2 1) e=brT (Sp.unM m1 m2) (n1+n2) (L1+L2) 2 e:=by
 rw [ywp _ 1000 e p hp,show cfL p=brT m1 n1 L1 1 from funext hc]
 have hN: ∀k1 k2,k1<2^n1->cN (Sp.unM m1 m2) (n1+n2) (L1+L2) (2^n1*k2+k1)=cN m1 n1 L1 k1+cN m2 n2 L2 k2:=fun k1 k2 hk=>by
  unfold cN
  rw [ykn hp1 hp2 hpu]
  have e1:cirS m1 n1 (chB (2^n1*k2+k1))=cirS m1 n1 (chB k1):=by unfold cirS;rw [ydu fun c hc=>yv4 hc]
  have e2:cirS m2 n2 (fun c=>chB (2^n1*k2+k1) (n1+c))=cirS m2 n2 (chB k2):=by unfold cirS;rw [ydu fun c _=>y0t hk]
  rw [e1,e2];omega
 have hW: ∀k1 k2,k1<2^n1->wB (n1+n2) (2^n1*k2+k1)=wB n1 k1+wB n2 k2:=fun k1 k2 hk=>by
  unfold wB;rw [y4g hk];omega
 have hl: ∀x,brT m1 n1 L1 1 x=sm (fun k=>dpw (cN m1 n1 L1 k-1) (x-wB n1 k)) (2^n1):=fun x=>yap fun k _=>if_pos (yhg hp1 h1 k)
 have hr:brT m2 n2 L2 1=fun x=>sm (fun k=>dpw (cN m2 n2 L2 k-1) (x-wB n2 k)) (2^n2):=funext fun x=>yap fun k _=>if_pos (yhg hp2 h2 k)
 rw [show brT m1 n1 L1 1=fun x=>sm (fun k=>dpw (cN m1 n1 L1 k-1) (x-wB n1 k)) (2^n1) from funext hl,y1t]
 have s1:sm (fun k=>cvS (fun x=>dpw (cN m1 n1 L1 k-1) (x-wB n1 k)) (brT m2 n2 L2 1) 1000 e) (2^n1)=sm (fun k1=>sm (fun k2=>dpw (cN m1 n1 L1 k1+cN m2 n2 L2 k2-2) (e-(wB n1 k1+wB n2 k2))) (2^n2)) (2^n1):=yap fun k1 hk1=>by
  have a:=yxx hp1 (L:=L1) k1
  have b:=yo2 k1 n1
  have c1:=yhg hp1 h1 k1
  rw [ypo _ 1000 _ _ _ (by unfold wB;omega) (by unfold wB;omega),hr,yt0]
  refine yap fun k2 _=>?_
  have c2:=yhg hp2 h2 k2
  rw [ypp]
  congr 1<;>omega
 rw [s1,yo3]
 unfold brT hrT
 rw [Nat.pow_add,yv3]
 refine yap fun k2 _=>yap fun k1 hk1=>?_
 have c1:=yhg hp1 h1 k1
 have c2:=yhg hp2 h2 k2
 rw [hN k1 k2 hk1,hW k1 k2 hk1,if_pos (by omega)]
theorem yaay {m:List Int} {n L:Nat} (h: ∀k,k<2^n->2<=cN m n L k) (e:Int):dml (brT m n L 2) e=brT m n L 1 e:=by
 have h1:=ymo (K:=2^n) (c:=cN m n L) (w:=wB n) 1 e
 have h0:hrR (2^n) (cN m n L) (wB n) 1 e=0:=by
  have:hrR (2^n) (cN m n L) (wB n) 1 e=sm (fun _=>0) (2^n):=yap fun k hk=>by
   have:=h k hk
   rw [if_neg]
   omega
  rw [this,yb1];omega
 have h2:brT m n L 1 e=dml (brT m n L 2) e+hrR (2^n) (cN m n L) (wB n) 1 e:=h1
 rw [h2,h0];omega
end
end Go.Proofs.YtmdjdekgakidhaaGreatDoor
