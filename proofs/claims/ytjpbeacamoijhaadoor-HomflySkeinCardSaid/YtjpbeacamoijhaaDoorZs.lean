/- Plain: renumbered crossings. -/
import Derived.Test.YtjpbeacamoijhaaDoorZo
import Derived.Test.YtjpbeacamoijhaaDoorZm
import Derived.Test.YtjpbeacamoijhaaDoorZr
import Derived.Test.YtjpbeacamoijhaaDoorZb
namespace Go.Proofs.YtjpbeacamoijhaaDoor
set_option linter.unusedSimpArgs false
set_option linter.unusedVariables false
structure Ord (n:Nat) (o nu:Nat->Nat):Prop where
 ol: ∀i,i<n->o i<n
 nl: ∀c,c<n->nu c<n
 no: ∀i,i<n->nu (o i)=i
 on: ∀c,c<n->o (nu c)=c
def rnF (nu:Nat->Nat) (x:Nat):Nat:=4*nu (x/4)+x % 4
def rnS (s:List Int) (o:Nat->Nat) (n:Nat):List Int:=(List.range n).map fun i=>s.getD (o i) 0
def rnM (m:List Int) (o nu:Nat->Nat) (n:Nat):List Int:=(List.range (4*n)).map fun y=>(rnF nu (m.getD (rnF o y) 0).toNat:Int)
section
variable {s m:List Int} {L:Int} {o nu:Nat->Nat}
theorem ymc {n:Nat} {o nu:Nat->Nat} (h: ∀i,i<n->nu (o i)=i) {x:Nat} (hx:x<4*n):rnF nu (rnF o x)=x:=by
 have:=h (x/4) (by omega)
 unfold rnF
 rw [show (4*o (x/4)+x % 4)/4=o (x/4) by omega,this];omega
theorem yzy (hp:PmOk m s.length) (h:Ord s.length o nu):Rel s.length (rnF nu) (rnF o) m (rnM m o nu s.length):=by
 have fl: ∀x,x<4*s.length->rnF nu x<4*s.length:=fun x hx=>by have:=h.nl (x/4) (by omega);unfold rnF;omega
 refine ⟨fl,fun x hx=>by have:=h.ol (x/4) (by omega);unfold rnF;omega,fun x hx=>ymc h.on hx,fun x hx=>ymc h.no hx,by simp [rnM],fun x hx=>?_⟩
 unfold rnM
 have:=fl x hx
 simp only [List.getD_eq_getElem?_getD,List.getElem?_map,List.getElem?_range this,Option.map_some,Option.getD_some]
 rw [ymc h.on hx]
theorem y9x (nu:Nat->Nat) (c:Nat):rnF nu (4*c)=4*nu c/\rnF nu (4*c+1)=4*nu c+1/\rnF nu (4*c+2)=4*nu c+2/\rnF nu (4*c+3)=4*nu c+3:=by
 unfold rnF
 rw [show 4*c/4=c by omega,show (4*c+1)/4=c by omega,show (4*c+2)/4=c by omega,show (4*c+3)/4=c by omega]
 omega
theorem yr9 (hv:yai s m L=true) (h:Ord s.length o nu):yai (rnS s o s.length) (rnM m o nu s.length) L=true:=by
 have v:=yal hv
 have hp:=pmOk hv
 have sg: ∀i,i<s.length->(rnS s o s.length).getD i 0=s.getD (o i) 0:=fun i hi=>by
  unfold rnS
  simp only [List.getD_eq_getElem?_getD,List.getElem?_map,List.getElem?_range hi,Option.map_some,Option.getD_some]
 refine yzo hv (by simp [rnS]) (yzy hp h) (fun i hi=>by rw [sg i hi];exact v.sg _ (h.ol i hi)) false (fun x hx=>?_) (.inl fun x hx=>?_)
 ·rw [Bool.false_xor]
  obtain ⟨c,hc⟩: ∃c,x/4=c:=⟨_,rfl⟩
  have hx4:=four x
  rw [hc] at hx4
  have hcl:c<s.length:=by omega
  obtain ⟨a0,a1,a2,a3⟩:=yng s c
  obtain ⟨b0,b1,b2,b3⟩:=yng (rnS s o s.length) (nu c)
  rw [sg _ (h.nl c hcl),h.on c hcl] at b1 b3
  obtain ⟨r0,r1,r2,r3⟩:=y9x nu c
  rcases hx4 with rfl|rfl|rfl|rfl
  ·rw [r0,b0,a0]
  ·rw [r1,b1,a1]
  ·rw [r2,b2,a2]
  ·rw [r3,b3,a3]
 ·have hd:Sp.siD x/4=x/4:=Sp.siD_div x
  unfold rnF
  rw [hd]
  unfold Sp.siD
  omega
end
end Go.Proofs.YtjpbeacamoijhaaDoor
namespace Go.Proofs.YtjpbeacamoijhaaDoor
set_option linter.unusedSimpArgs false
set_option linter.unusedVariables false
namespace Hs
open Sp (Sph siD PermN itn SC alD)
section
variable {D D':Sh} {X:Int->Int->Nat->Int}
end
section
variable {s m s' m':List Int} {L:Int}
theorem y8e (v:ybd s m L) {g gi:Nat->Nat} {e:Nat->Nat} (R:Rel s.length g gi m m') (hc: ∀h,h<4*s.length->cod (g h)=e (cod h)) {x y:Nat} (hx:x<4*s.length) (hy:outH (shD s' m') y=g x):(shD s' m').nx y=e (cod (alD m x)):=by
 show cod (alD m' (outH (shD s' m') y))=_
 rw [hy]
 have:=R.mate x hx
 have e1:alD m' (g x)=g (alD m x):=by unfold alD;rw [this,Int.toNat_natCast]
 rw [e1,hc _ (yd1 v hx).1]
theorem HF_renum {X:Int->Int->Nat->Int} (hX:Good X) (hv:yai s m L=true) {o nu:Nat->Nat} (h:Ord s.length o nu):HF X (rnS s o s.length) (rnM m o nu s.length) L=HF X s m L:=by
 have v:=yal hv
 have hp:=pmOk hv
 have hv':=yr9 hv h
 have hlen:(rnS s o s.length).length=s.length:=by simp [rnS]
 have sg: ∀c,c<s.length->(rnS s o s.length).getD (nu c) 0=s.getD c 0:=fun c hc=>by
  unfold rnS
  simp only [List.getD_eq_getElem?_getD,List.getElem?_map,List.getElem?_range (h.nl c hc),Option.map_some,Option.getD_some]
  rw [h.on c hc]
 have hrn: ∀a,rnE nu (fun _=>false) a=2*nu (a/2)+a % 2:=fun a=>rfl
 have R:Ren (shD s m) (shD (rnS s o s.length) (rnM m o nu s.length)) nu (fun _=>false):=by
  refine ⟨hlen,h.nl,fun c d hc hd e=>by rw [←h.on c hc,e,h.on d hd],fun c hc=>sg c hc,fun a ha=>?_⟩
  have ha':a<2*s.length:=ha
  refine y8e (x:=outH (shD s m) a) (e:=rnE nu (fun _=>false)) v (yzy hp h) (fun x _=>?_) (ycb (D:=shD s m) ha) ?_
  ·rw [hrn]
   have e1:cod x/2=x/4:=by unfold cod;omega
   have e2:cod x % 2=x % 2:=by unfold cod;omega
   rw [e1,e2]
   unfold cod rnF
   omega
  ·have e:(shD (rnS s o s.length) (rnM m o nu s.length)).sg (nu (a/2))=(shD s m).sg (a/2):=sg _ (by omega)
   rw [hrn]
   have hd:outH (shD s m) a/4=a/2:=yi3 _ _
   unfold rnF
   rw [hd]
   unfold outH
   rw [show (2*nu (a/2)+a % 2)/2=nu (a/2) by omega,e]
   split<;>split<;>try omega
   all_goals (split<;>omega)
 have:=yu3 (k:=L.toNat) (st:=fun _=>1) (st':=fun _=>1) (ycj v) (ycj (yal hv')) (ykx hv') R hX (fun _=> .inl (Nat.le_refl _)) fun c hc=>rfl
 unfold HF
 exact this.symm
end
end Hs
end Go.Proofs.YtjpbeacamoijhaaDoor
namespace Go.Proofs.YtjpbeacamoijhaaDoor
set_option linter.unusedSimpArgs false
set_option linter.unusedVariables false
namespace Hs
def dN:Nat->Int->Int
 |0,e=>if e=0 then 1 else 0
 |n+1,e=>dN n (e+1)-dN n (e-1)
theorem dN_sup: ∀(n:Nat) (e:Int),dN n e≠0-> -(n:Int)<=e/\e<=n/\(e-n)% 2=0
 |0,e,h=>by
  unfold dN at h
  by_cases h0:e=0
  ·subst h0;decide
  ·rw [if_neg h0] at h;exact absurd rfl h
 |n+1,e,h=>by
  unfold dN at h
  by_cases h1:dN n (e+1)=0
  ·have:=dN_sup n (e-1) (by intro h2;rw [h1,h2] at h;exact h rfl)
   omega
  ·have:=dN_sup n (e+1) h1
   omega
theorem yni: ∀(n:Nat) (e:Int),-(2^n:Int)<=dN n e/\dN n e<=2^n
 |0,e=>by unfold dN;split<;>decide
 |n+1,e=>by
  unfold dN
  have h1:=yni n (e+1)
  have h2:=yni n (e-1)
  rw [Int.pow_succ]
  omega
def Xh (a b:Int) (i j:Int) (k:Nat):Int:=if b=j-(k-1) then dN (k-1) (a-i) else 0
theorem Xh_good (a b:Int):Good (Xh a b):=fun i j k hk=>by
 unfold Xh
 obtain ⟨n,rfl⟩: ∃n,k=n+1:=⟨k-1,by omega⟩
 have e1:((n+1:Nat):Int)-1=n:=by omega
 have e2:((n+1+1:Nat):Int)-1=n+1:=by omega
 rw [e1,e2,show n+1-1=n by omega,show n+1+1-1=n+1 by omega]
 by_cases h:b=j-n
 ·rw [if_pos h,if_pos h,if_pos (by omega)]
  have e3:dN (n+1) (a-i)=dN n (a-i+1)-dN n (a-i-1):=rfl
  rw [show a-(i-1)=a-i+1 by omega,show a-(i+1)=a-i-1 by omega,e3]
  omega
 ·rw [if_neg h,if_neg h,if_neg (by omega)];rfl
theorem Xh_i (a b u:Int):(fun i j k=>Xh a b (i+u) j k)=Xh (a-u) b:=by
 funext i j k
 unfold Xh
 rw [show a-(i+u)=a-u-i by omega]
theorem Xh_j (a b u:Int):(fun i j k=>Xh a b i (j+u) k)=Xh a (b-u):=by
 funext i j k
 unfold Xh
 by_cases h:b=j+u-((k:Int)-1)
 ·rw [if_pos h,if_pos (by omega)]
 ·rw [if_neg h,if_neg (by omega)]
def hfF (s m:List Int) (L:Int) (a b:Int):Int:=HF (Xh a b) s m L
section
variable {s m:List Int} {L:Int}
theorem yi4 {c:Nat} (hv:yai s m L=true) (hc:c<s.length) (hv':yai (smS s c) (smM s m c) (smLp s m c L)=true) (a b:Int):
  (s.getD c 0=1->hfF s m L (a+1) b=hfF (swS s c) (swM s m c) L (a-1) b+hfF (smS s c) (smM s m c) (smLp s m c L) a (b-1))/\
  (s.getD c 0= -1->hfF (swS s c) (swM s m c) L (a+1) b=hfF s m L (a-1) b+hfF (smS s c) (smM s m c) (smLp s m c L) a (b-1)):=by
 obtain ⟨s1,s2⟩:=y25 (Xh_good a b) hv hc hv'
 have e1:(fun i j k=>Xh a b (i-1) j k)=Xh (a+1) b:=by
  have:=Xh_i a b (-1)
  rw [show a- -1=a+1 by omega] at this
  exact this
 rw [e1,Xh_i,Xh_j] at s1 s2
 exact ⟨s1,s2⟩
end
end Hs
end Go.Proofs.YtjpbeacamoijhaaDoor
namespace Go.Proofs.YtjpbeacamoijhaaDoor
set_option linter.unusedSimpArgs false
set_option linter.unusedVariables false
namespace Hs
def evT:List (Int×Int×Int×Nat)->(Int->Int->Nat->Int)->Int
 |[],_=>0
 |t::T,X=>t.1*X t.2.1 t.2.2.1 t.2.2.2+evT T X
theorem yu4 (X:Int->Int->Nat->Int): ∀T T',evT (T++T') X=evT T X+evT T' X
 |[],T'=>(Int.zero_add _).symm
 |t::T,T'=>by
  show _+evT (T++T') X=_+evT T X+evT T' X
  rw [yu4 X T T'];omega
def ngT (c:Int) (T:List (Int×Int×Int×Nat)):List (Int×Int×Int×Nat):=T.map fun t=>(c*t.1,t.2)
theorem yzz (c:Int) (X:Int->Int->Nat->Int): ∀T,evT (ngT c T) X=c*evT T X
 |[]=>(Int.mul_zero _).symm
 |t::T=>by
  show c*t.1*_+evT (ngT c T) X=c*(t.1*_+evT T X)
  rw [yzz c X T,Int.mul_add,Int.mul_assoc]
def Rep (D:Sh) (S:WS) (u:Nat) (G:(Int->Int->Nat->Int)->Int):Prop:=
 ∃T,(∀X,G X=evT T X)/\T.length<=2^rl S D.n/\ ∀t∈T,(t.1=1\/t.1= -1)/\(S.i-2*rl S D.n<=t.2.1/\t.2.1<=S.i+2*rl S D.n)/\(S.j<=t.2.2.1/\t.2.2.1<=S.j+rl S D.n)/\S.k<=t.2.2.2/\t.2.2.2<=u
section
variable {D:Sh}
theorem y9y (S:WS) (a:Nat) {v:Nat} (hv: ¬v<=1): ∀m,rl (S.mk' a v) m<=rl S m:=fun m=>ycp (fun c hc=>by
 have hc':upd S.st (a/2) v c<=1:=hc
 by_cases e:c=a/2
 ·rw [e,yac] at hc';exact absurd hc' hv
 ·rwa [yae _ _ e] at hc') m
theorem Rep.weak {S S':WS} {u:Nat} {G:(Int->Int->Nat->Int)->Int} (h:Rep D S' u G) (h1:rl S' D.n<=rl S D.n) (hi:S'.i=S.i) (hj:S'.j=S.j) (hk:S'.k=S.k):Rep D S u G:=by
 obtain ⟨T,t1,t2,t3⟩:=h
 refine ⟨T,t1,Nat.le_trans t2 (Nat.pow_le_pow_right (by omega) h1),fun t ht=>?_⟩
 have:=t3 t ht
 rw [hi,hj,hk] at this
 omega
theorem yz0 {S:WS} {a u:Nat} {F:(Int->Int->Nat->Int)->WS->Nat->Int} (hs: ∀c,c<D.n->D.sg c=1\/D.sg c= -1) (h: ∀x∈br D S a,Rep D x.2.1 u fun X=>F X x.2.1 x.2.2):Rep D S u fun X=>sumB (br D S a) (F X):=by
 have nil:Rep D S u fun X=>sumB [] (F X):=⟨[],fun X=>rfl,Nat.zero_le _,fun t ht=>by cases ht⟩
 have one: ∀(v b:Nat),¬v<=1->(Rep D (S.mk' a v) u fun X=>F X (S.mk' a v) b)->Rep D S u fun X=>sumB [(1,S.mk' a v,b)] (F X):=fun v b hv h=>by
  have h':=h.weak (S:=S) (y9y S a hv D.n) rfl rfl rfl
  obtain ⟨T,t1,t2,t3⟩:=h'
  refine ⟨T,fun X=>?_,t2,t3⟩
  show 1*F X _ _+0=_
  rw [Int.one_mul,Int.add_zero]
  exact t1 X
 unfold br at h⊢
 by_cases h1:2*D.n<=a
 ·rw [if_pos h1];exact nil
 rw [if_neg h1] at h⊢
 by_cases h2:S.st (a/2)=2
 ·rw [if_pos h2] at h⊢;exact one _ _ (by omega) (h _ (.head _))
 rw [if_neg h2] at h⊢
 by_cases h3:S.st (a/2)=3
 ·rw [if_pos h3] at h⊢;exact one _ _ (by omega) (h _ (.head _))
 rw [if_neg h3] at h⊢
 by_cases h4:S.st (a/2)=5
 ·rw [if_pos h4] at h⊢;exact one _ _ (by omega) (h _ (.head _))
 rw [if_neg h4] at h⊢
 by_cases h5:S.st (a/2)=a % 2
 ·rw [if_pos h5] at h⊢;exact one _ _ (by omega) (h _ (.head _))
 rw [if_neg h5] at h⊢
 by_cases h6:S.st (a/2)=1-a % 2
 ·rw [if_pos h6] at h⊢
  have hsg:sgn D (S.st (a/2)) (a/2)=1\/sgn D (S.st (a/2)) (a/2)= -1:=by
   have:=hs (a/2) (by omega)
   unfold sgn;split<;>omega
  have A:=h _ (.head _)
  have B:=h _ (.tail _ (.head _))
  generalize sgn D (S.st (a/2)) (a/2)=w at*
  obtain ⟨T,t1,t2,t3⟩:=A
  obtain ⟨T',t1',t2',t3'⟩:=B
  dsimp only at t1 t2 t3 t1' t2' t3'
  have l1:rl ((S.mk' a 3).sc (2*w) 0) D.n+1<=rl S D.n:=ykr (S':=(S.mk' a 3).sc (2*w) 0) (x:=a/2) (fun c hc=>by
   have hc':upd S.st (a/2) 3 c<=1:=hc
   by_cases e:c=a/2
   ·rw [e];omega
   ·rwa [yae _ _ e] at hc') (by omega) (by show¬upd S.st (a/2) 3 (a/2)<=1;rw [yac];omega) D.n (by omega)
  have l2:rl ((S.mk' a 2).sc w 1) D.n+1<=rl S D.n:=ykr (S':=(S.mk' a 2).sc w 1) (x:=a/2) (fun c hc=>by
   have hc':upd S.st (a/2) 2 c<=1:=hc
   by_cases e:c=a/2
   ·rw [e];omega
   ·rwa [yae _ _ e] at hc') (by omega) (by show¬upd S.st (a/2) 2 (a/2)<=1;rw [yac];omega) D.n (by omega)
  obtain ⟨q,hq⟩: ∃q,rl S D.n=q+1:=⟨rl S D.n-1,by omega⟩
  have p1:(2:Nat)^rl ((S.mk' a 3).sc (2*w) 0) D.n<=2^q:=Nat.pow_le_pow_right (by omega) (by omega)
  have p2:(2:Nat)^rl ((S.mk' a 2).sc w 1) D.n<=2^q:=Nat.pow_le_pow_right (by omega) (by omega)
  refine ⟨T++ngT w T',fun X=>?_,?_,fun t ht=>?_⟩
  ·show 1*F X _ _+(w*F X _ _+0)=_
   rw [yu4,yzz,←t1 X,←t1' X,Int.one_mul,Int.add_zero]
  ·have:(ngT w T').length=T'.length:=by simp [ngT]
   rw [List.length_append,this,hq,Nat.pow_succ]
   omega
  ·rcases List.mem_append.1 ht with ht|ht
   ·have:=t3 t ht
    have ei:((S.mk' a 3).sc (2*w) 0).i=S.i+2*w:=rfl
    have ej:((S.mk' a 3).sc (2*w) 0).j=S.j:=Int.add_zero _
    have ek:((S.mk' a 3).sc (2*w) 0).k=S.k:=rfl
    rw [ei,ej,ek] at this
    omega
   ·obtain ⟨t0,ht0,rfl⟩:=List.mem_map.1 ht
    have:=t3' t0 ht0
    have ei:((S.mk' a 2).sc w 1).i=S.i+w:=rfl
    have ej:((S.mk' a 2).sc w 1).j=S.j+1:=rfl
    have ek:((S.mk' a 2).sc w 1).k=S.k:=rfl
    rw [ei,ej,ek] at this
    refine ⟨?_,?_⟩
    ·show w*t0.1=1\/w*t0.1= -1
     rcases hsg with rfl|rfl<;>rcases this.1 with e|e<;>rw [e]<;>decide
    ·dsimp only
     omega
 ·rw [if_neg h6];exact nil
theorem yz1 (hs: ∀c,c<D.n->D.sg c=1\/D.sg c= -1) {stop:Nat->Bool} {u:Nat} {k:(Int->Int->Nat->Int)->WS->Nat->Int} (hk: ∀S b,S.k+fu D S<=u->Rep D S u fun X=>k X S b): ∀f S a,S.k+fu D S<=u->Rep D S u fun X=>Wf D stop f S a (k X)
 |0,S,a,_=>⟨[],fun X=>rfl,Nat.zero_le _,fun t ht=>by cases ht⟩
 |f+1,S,a,hu=>by
  show Rep D S u fun X=>if stop a=true then k X S a else if S.vis a=true then 0 else sumB (br D S a) fun S' b=>Wf D stop f S' b (k X)
  by_cases h1:stop a=true
  ·simp only [if_pos h1];exact hk S a hu
  simp only [if_neg h1]
  by_cases h2:S.vis a=true
  ·simp only [if_pos h2];exact ⟨[],fun X=>rfl,Nat.zero_le _,fun t ht=>by cases ht⟩
  simp only [if_neg h2]
  refine yz0 hs fun x hx=>yz1 hs hk f x.2.1 x.2.2 ?_
  have:=ygc hx (by simpa using h2)
  have:=br_k hx
  omega
theorem yof (hs: ∀c,c<D.n->D.sg c=1\/D.sg c= -1) (u:Nat): ∀(B:List Nat) (S:WS),S.k+fu D S<=u->Rep D S u fun X=>run X D B S
 |[],S,hu=>⟨[(1,S.i,S.j,S.k)],fun X=>by show X S.i S.j S.k=1*X S.i S.j S.k+0;rw [Int.one_mul,Int.add_zero],Nat.one_le_two_pow,fun t ht=>by
  rw [List.mem_singleton] at ht;subst ht
  dsimp only
  omega⟩
 |a::B,S,hu=>by
  show Rep D S u fun X=>if S.vis a=true then run X D B S else wk1 D S.cr a (run X D B)
  by_cases h2:S.vis a=true
  ·simp only [if_pos h2];exact yof hs u B S hu
  simp only [if_neg h2]
  have key:Rep D S.cr u fun X=>wk1 D S.cr a (run X D B):=by
   unfold wk1
   refine yz0 hs fun x hx=>?_
   unfold W
   have h20:S.vis a=false:=by simpa using h2
   have h3:=ygc hx (show S.cr.vis a=false from h20)
   have h4:=br_k hx
   have h5:fu D S.cr=fu D S:=rfl
   have h6:S.cr.k=S.k+1:=rfl
   exact yz1 hs (fun T b hT=>yof hs u B T hT) _ x.2.1 x.2.2 (by omega)
  obtain ⟨T,t1,t2,t3⟩:=key
  have e4:rl S.cr D.n=rl S D.n:=Nat.le_antisymm (ycp (S:=S) (S':=S.cr) (fun c h=>h) _) (ycp (S:=S.cr) (S':=S) (fun c h=>h) _)
  refine ⟨T,t1,e4▸t2,fun t ht=>?_⟩
  have:=t3 t ht
  have e1:S.cr.k=S.k+1:=rfl
  have e2:S.cr.i=S.i:=rfl
  have e3:S.cr.j=S.j:=rfl
  rw [e1,e2,e3,e4] at this
  omega
end
end Hs
end Go.Proofs.YtjpbeacamoijhaaDoor
namespace Go.Proofs.YtjpbeacamoijhaaDoor
set_option linter.unusedSimpArgs false
set_option linter.unusedVariables false
namespace Hs
open Sp (Sph siD PermN itn SC alD)
end Hs
end Go.Proofs.YtjpbeacamoijhaaDoor
namespace Go.Proofs.YtjpbeacamoijhaaDoor
set_option linter.unusedSimpArgs false
set_option linter.unusedVariables false
namespace Hs
open Sp (Sph siD PermN itn SC alD)
end Hs
end Go.Proofs.YtjpbeacamoijhaaDoor
namespace Go.Proofs.YtjpbeacamoijhaaDoor
set_option linter.unusedSimpArgs false
set_option linter.unusedVariables false
namespace Hs
def Dl (g:Int->Int->Int) (a b:Int):Int:=g (a+1) (b+1)-g (a-1) (b+1)
theorem Xh_k (a b i j:Int) {k:Nat} (hk:1<=k):Xh a b i j (k+1)=Xh (a+1) (b+1) i j k-Xh (a-1) (b+1) i j k:=by
 obtain ⟨n,rfl⟩: ∃n,k=n+1:=⟨k-1,by omega⟩
 unfold Xh
 have e1:((n+1:Nat):Int)-1=n:=by omega
 have e2:((n+1+1:Nat):Int)-1=n+1:=by omega
 rw [e1,e2,show n+1-1=n by omega,show n+1+1-1=n+1 by omega]
 by_cases h:b=j-(n+1)
 ·rw [if_pos h,if_pos (by omega),if_pos (by omega)]
  have e3:dN (n+1) (a-i)=dN n (a-i+1)-dN n (a-i-1):=rfl
  rw [e3,show a+1-i=a-i+1 by omega,show a-1-i=a-i-1 by omega]
 ·rw [if_neg h,if_neg (by omega),if_neg (by omega)];rfl
section
variable {s m:List Int} {l:Nat}
end
section
variable {s m:List Int} {l:Nat}
end
end Hs
end Go.Proofs.YtjpbeacamoijhaaDoor
namespace Go.Proofs.YtjpbeacamoijhaaDoor
set_option linter.unusedSimpArgs false
set_option linter.unusedVariables false
namespace Hs
theorem yz2 (S:WS): ∀n,rl S n<=n
 |0=>Nat.le_refl _
 |n+1=>by
  have:=yz2 S n
  simp only [rl]
  split<;>omega
theorem y9z (D:Sh) (S:WS):fu D S<=2*D.n:=by
 have: ∀k,unv S.vis k<=k:=fun k=>by
  induction k with
  |zero=>exact Nat.le_refl _
  |succ k ih=>simp only [unv];split<;>omega
 exact this _
theorem yz3 (X:Int->Int->Nat->Int): ∀T,evT T X≠0-> ∃t∈T,X t.2.1 t.2.2.1 t.2.2.2≠0
 |[],h=>absurd rfl h
 |t::T,h=>by
  by_cases h1:X t.2.1 t.2.2.1 t.2.2.2=0
  ·have h2:evT T X≠0:=fun e=>h (by show t.1*_+evT T X=0;rw [h1,e,Int.mul_zero];rfl)
   obtain ⟨u,hu,hx⟩:=yz3 X T h2
   exact ⟨u, .tail _ hu,hx⟩
  ·exact ⟨t, .head _,h1⟩
theorem yu5 (X:Int->Int->Nat->Int) (M:Int): ∀T:List (Int×Int×Int×Nat),(∀t∈T,(t.1=1\/t.1= -1)/\ -M<=X t.2.1 t.2.2.1 t.2.2.2/\X t.2.1 t.2.2.1 t.2.2.2<=M)-> -(T.length*M)<=evT T X/\evT T X<=T.length*M
 |[],_=>by
  show-(((0:Nat):Int)*M)<=0/\0<=((0:Nat):Int)*M
  rw [show ((0:Nat):Int)=0 from rfl,Int.zero_mul];decide
 |t::T,h=>by
  have ih:=yu5 X M T fun u hu=>h u (.tail _ hu)
  obtain ⟨h1,h2,h3⟩:=h t (.head _)
  have e:(((t::T).length:Nat):Int)*M=T.length*M+M:=by
   rw [List.length_cons,show ((T.length+1:Nat):Int)=(T.length:Int)+1 by omega,Int.add_mul,Int.one_mul]
  show-(((t::T).length:Nat)*M)<=t.1*X t.2.1 t.2.2.1 t.2.2.2+evT T X/\t.1*X t.2.1 t.2.2.1 t.2.2.2+evT T X<=((t::T).length:Nat)*M
  rw [e]
  rcases h1 with h1|h1<;>rw [h1]
  ·rw [Int.one_mul];omega
  ·rw [Int.neg_one_mul];omega
section
variable {s m:List Int} {l:Nat}
theorem yz4 (v:ybd s m l): ∃T,(∀X,HF X s m l=evT T X)/\T.length<=2^s.length/\ ∀t∈T,(t.1=1\/t.1= -1)/\(-(2*s.length:Int)<=t.2.1/\t.2.1<=2*s.length)/\(0<=t.2.2.1/\t.2.2.1<=s.length)/\l<=t.2.2.2/\t.2.2.2<=l+2*s.length:=by
 have hf:=y9z (shD s m) (Z0 (fun _=>1) l)
 have hf':fu (shD s m) (Z0 (fun _=>1) l)<=2*s.length:=hf
 obtain ⟨T,t1,t2,t3⟩:=yof (D:=shD s m) (fun c hc=>v.sg c hc) (l+fu (shD s m) (Z0 (fun _=>1) l)) (List.range (2*s.length)) (Z0 (fun _=>1) l) (Nat.le_refl _)
 have hr:rl (Z0 (fun _=>1) l) (shD s m).n<=s.length:=yz2 _ _
 refine ⟨T,fun X=>?_,Nat.le_trans t2 (Nat.pow_le_pow_right (by omega) hr),fun t ht=>?_⟩
 ·unfold HF
  rw [Int.toNat_natCast];exact t1 X
 ·have:=t3 t ht
  have e1:(Z0 (fun _=>1) l).i=0:=rfl
  have e2:(Z0 (fun _=>1) l).j=0:=rfl
  have e3:(Z0 (fun _=>1) l).k=l:=rfl
  rw [e1,e2,e3] at this
  omega
theorem ysa (v:ybd s m l) {a b:Int} (h:hfF s m l a b≠0):(-(4*s.length+l:Int)<=a/\a<=4*s.length+l)/\ -(2*s.length+l:Int)<=b/\b<=s.length+1:=by
 obtain ⟨T,t1,_,t3⟩:=yz4 v
 obtain ⟨t,ht,hx⟩:=yz3 _ T (by rw [←t1];exact h)
 have:=t3 t ht
 unfold Xh at hx
 by_cases hb:b=t.2.2.1-((t.2.2.2:Int)-1)
 ·rw [if_pos hb] at hx
  have:=dN_sup _ _ hx
  omega
 ·rw [if_neg hb] at hx;exact absurd rfl hx
theorem y8f (v:ybd s m l) (a b:Int): -(2^(3*s.length+l):Int)<=hfF s m l a b/\hfF s m l a b<=2^(3*s.length+l):=by
 obtain ⟨T,t1,t2,t3⟩:=yz4 v
 have pw: ∀{x y:Nat},x<=y->(2^x:Int)<=2^y:=fun {x y} h=>by
  have:=Nat.pow_le_pow_right (n:=2) (by omega) h
  exact_mod_cast this
 have h1:=yu5 (Xh a b) (2^(2*s.length+l)) T fun t ht=>by
  have:=t3 t ht
  refine ⟨this.1,?_⟩
  have h2:=yni (t.2.2.2-1) (a-t.2.1)
  have h3:=pw (show t.2.2.2-1<=2*s.length+l by omega)
  have h4:(0:Int)<=2^(2*s.length+l):=by
   have:=pw (Nat.zero_le (2*s.length+l))
   have e:(2:Int)^0=1:=rfl
   omega
  unfold Xh
  split<;>omega
 rw [←t1] at h1
 have h5:((T.length:Nat):Int)*2^(2*s.length+l)<=2^(3*s.length+l):=by
  have:T.length*2^(2*s.length+l)<=2^(3*s.length+l):=by
   rw [show 3*s.length+l=s.length+(2*s.length+l) by omega,Nat.pow_add 2 s.length (2*s.length+l)]
   exact Nat.mul_le_mul_right _ t2
  exact_mod_cast this
 show-_<=HF (Xh a b) s m l/\HF (Xh a b) s m l<=_
 omega
end
end Hs
end Go.Proofs.YtjpbeacamoijhaaDoor
namespace Go.Proofs.YtjpbeacamoijhaaDoor
set_option linter.unusedSimpArgs false
set_option linter.unusedVariables false
theorem y26 {s m:List Int} {L:Int} (hv:yai s m L=true) {o nu:Nat->Nat} (h:Ord s.length o nu) (a b:Int):Hs.hfF (rnS s o s.length) (rnM m o nu s.length) L a b=Hs.hfF s m L a b:=Hs.HF_renum (Hs.Xh_good a b) hv h
namespace Hs
section
variable {s m:List Int} {L:Int}
theorem y6j {c:Nat} (hv:yai s m L=true) (hc:c<s.length) (hv':yai (smS s c) (smM s m c) (smLp s m c L)=true) (a b:Int):hfF s m L a b=hfF (swS s c) (swM s m c) L (a-2*s.getD c 0) b+s.getD c 0*hfF (smS s c) (smM s m c) (smLp s m c L) (a-s.getD c 0) (b-1):=by
 rcases (yal hv).sg c hc with h|h
 ·have:=(yi4 hv hc hv' (a-1) b).1 h
  rw [show a-1+1=a by omega,show a-1-1=a-2 by omega] at this
  rw [h,show a-2*1=a-2 by omega,Int.one_mul];exact this
 ·have:=(yi4 hv hc hv' (a+1) b).2 h
  rw [show a+1+1=a+2 by omega,show a+1-1=a by omega] at this
  rw [h,show a-2* -1=a+2 by omega,show a- -1=a+1 by omega];omega
theorem y6k (hv:yai s m L=true) (hb:badO s m=none) (a b:Int):hfF s m L a b=Xh a b 0 0 (L.toNat+(yak s m).length):=y6i (Xh_good a b) hv hb
theorem Xh_1 (a b:Int):Xh a b 0 0 1=if a=0/\b=0 then 1 else 0:=by
 unfold Xh
 show (if b=0-(((1:Nat):Int)-1) then (if a-0=0 then 1 else 0) else 0)=_
 by_cases h:a=0/\b=0
 ·rw [if_pos (by omega),if_pos (by omega),if_pos h]
 ·rw [if_neg h]
  by_cases h1:b=0-(((1:Nat):Int)-1)
  ·rw [if_pos h1,if_neg (by omega)]
  ·rw [if_neg h1]
theorem y90 (n:Nat) (a b:Int):Xh a b 0 0 (n+1+1)=Dl (fun a b=>Xh a b 0 0 (n+1)) a b:=Xh_k a b 0 0 (by omega)
def hfE (s m:List Int) (L:Int) (e:Int):Int:=hfF s m L (bvA e) (bvZ e)
theorem ye7 {l:Nat} (v:ybd s m l) (hn:s.length+l<=1000) {e e':Int} (h: -1048576<=bvZ e'/\bvZ e'<=1048576):hfE s m l (e-e')=hfF s m l (bvA e-bvA e') (bvZ e-bvZ e'):=by
 have e1:e-e'=bvE (bvA e-bvA e') (bvZ e-bvZ e'):=by
  have h1:=ycf e
  have h2:=ycf e'
  unfold bvE at*
  omega
 unfold hfE
 by_cases hz: -8388608<=bvZ e-bvZ e'/\bvZ e-bvZ e'<8388608
 ·rw [e1,ycu hz,ybk hz]
 ·have b1:=yku e
  have z1:hfF s m l (bvA e-bvA e') (bvZ e-bvZ e')=0:=Classical.byContradiction fun h0=>by
   have:=ysa v h0
   omega
  have z2:hfF s m l (bvA (e-e')) (bvZ (e-e'))=0:=Classical.byContradiction fun h0=>by
   have:=ysa v h0
   have k:bvZ (e-e')=bvZ e-bvZ e'-16777216\/bvZ (e-e')=bvZ e-bvZ e'+16777216:=by
    unfold bvZ at*
    omega
   omega
  rw [z1,z2]
end
end Hs
end Go.Proofs.YtjpbeacamoijhaaDoor
