/- Plain: a smoothed diagram is the diagram with a crossing smoothed from the start. -/
import Derived.Test.YtjpbeacamoijhaaDoorHs14
namespace Go.Proofs.YtjpbeacamoijhaaDoor
set_option linter.unusedSimpArgs false
set_option linter.unusedVariables false
namespace Hs
open Sp (Sph siD PermN itn SC alD)
def upE (x a:Nat):Nat:=if a/2<x then a else a+2
def upC (x c:Nat):Nat:=if c<x then c else c+1
theorem yky (x a:Nat):upE x a/2=upC x (a/2):=by unfold upE upC;split<;>omega
theorem yuz (x a:Nat):upE x a % 2=a % 2:=by unfold upE;split<;>omega
theorem yec (x a:Nat):upE x a/2≠x:=by unfold upE;split<;>omega
theorem yr4 (x c:Nat):upC x c≠x:=by unfold upC;split<;>omega
theorem y78 (x a:Nat):co (upE x a)=upE x (co a):=by
 have:=yao a
 unfold upE
 rw [this]
 by_cases h:a/2<x
 ·rw [if_pos h,if_pos h]
 ·rw [if_neg h,if_neg h]
  unfold co
  by_cases h2:a % 2=0
  ·rw [if_pos h2,if_pos (by omega)]
  ·rw [if_neg h2,if_neg (by omega)];omega
theorem yod {x a b:Nat} (h:upE x a=upE x b):a=b:=by unfold upE at h;split at h<;>split at h<;>omega
theorem y6c {x a b:Nat} (h:upC x a=upC x b):a=b:=by unfold upC at h;split at h<;>split at h<;>omega
theorem yr5 {x b:Nat} (h:b/2≠x): ∃a,upE x a=b:=by
 by_cases h1:b/2<x
 ·exact ⟨b,if_pos h1⟩
 ·exact ⟨b-2,by unfold upE;rw [if_neg (by omega)];omega⟩
theorem yj1 {x a n:Nat} (h:a<2*n):upE x a<2*(n+1):=by unfold upE;split<;>omega
theorem yu0 {x a n:Nat} (hx:x<n+1) (h:upE x a<2*(n+1)):a<2*n:=by unfold upE at h;split at h<;>omega
inductive Fol (D:Sh) (x:Nat):Nat->Nat->Prop
 |stop {w:Nat} (h:w/2≠x):Fol D x w w
 |go {w w':Nat} (h:w/2=x) (k:Fol D x (D.nx (co w)) w'):Fol D x w w'
structure Ctr (D D':Sh) (x:Nat):Prop where
 hx:x<D.n
 n:D.n=D'.n+1
 sg: ∀c,c<D'.n->D'.sg c=D.sg (upC x c)
 nx: ∀a,a<2*D'.n->Fol D x (D.nx (upE x a)) (upE x (D'.nx a))
structure Rl (x e:Nat) (S' S:WS):Prop where
 st: ∀c,S.st (upC x c)=S'.st c
 vis: ∀a,S.vis (upE x a)=S'.vis a
 i:S'.i=S.i
 j:S'.j=S.j
 k:S'.k=S.k+e
 x:S.st x=5\/S.st x=2\/S.st x=4
def Zx (D:Sh) (x w:Nat):Prop:=(w=2*x/\D.nx (2*x+1)=2*x)\/(w=2*x+1/\D.nx (2*x)=2*x+1)\/(w/2=x/\D.nx (2*x+1)=2*x+1/\D.nx (2*x)=2*x)
def exN (D:Sh) (x:Nat):Nat:=(if D.nx (2*x+1)=2*x then 1 else 0)+(if D.nx (2*x)=2*x+1 then 1 else 0)+(if D.nx (2*x+1)=2*x+1/\D.nx (2*x)=2*x then 1 else 0)
section
variable {D D':Sh} {x:Nat}
theorem y6d (hD:Ok D) (hx:x<D.n) {w:Nat} (hw:w/2=x) (h:Zx D x (D.nx (co w))):Zx D x w:=by
 have e:w=2*x\/w=2*x+1:=by omega
 have inj:D.nx (2*x+1)≠D.nx (2*x):=fun e=>by have:=hD.inj _ _ (by omega) (by omega) e;omega
 rcases e with e|e<;>subst e
 ·rw [co0] at h
  rcases h with ⟨h1,h2⟩|⟨h1,h2⟩|⟨_,h2,h3⟩
  ·exact .inl ⟨rfl,h2⟩
  ·exact absurd (h1.trans h2.symm) inj
  ·exact .inr (.inr ⟨hw,h2,h3⟩)
 ·rw [co1] at h
  rcases h with ⟨h1,h2⟩|⟨h1,h2⟩|⟨_,h2,h3⟩
  ·exact absurd (h2.trans h1.symm) inj
  ·exact .inr (.inl ⟨rfl,h2⟩)
  ·exact .inr (.inr ⟨hw,h2,h3⟩)
theorem yzs (hD:Ok D) (hx:x<D.n) {z:Nat} (hz:z<2*D.n) (hzx:z/2≠x): ¬Zx D x (D.nx z):=by
 have key: ∀y,y/2=x->D.nx z≠D.nx y:=fun y hy e=>hzx (by rw [hD.inj _ _ hz (by omega) e];exact hy)
 rintro (⟨h1,h2⟩|⟨h1,h2⟩|⟨h1,h2,h3⟩)
 ·exact key (2*x+1) (by omega) (h1.trans h2.symm)
 ·exact key (2*x) (by omega) (h1.trans h2.symm)
 ·have e:D.nx z=2*x\/D.nx z=2*x+1:=by omega
  rcases e with e|e
  ·exact key (2*x) (by omega) (e.trans h3.symm)
  ·exact key (2*x+1) (by omega) (e.trans h2.symm)
theorem yr6 (hD:Ok D) (hx:x<D.n) {p:Nat} (hp:p/2≠x) {k:WS->Nat->Int} {w w':Nat} (hF:Fol D x w w'): ∀{S:WS},Mid D S p w->(S.st x=5\/S.st x=2\/S.st x=4)->(∀z,Zx D x z->S.vis z=false)-> ¬Zx D x w->
  ∃S1,W D (eqE p) S w k=W D (eqE p) S1 w' k/\Mid D S1 p w'/\(∀c,c≠x->S1.st c=S.st c)/\(∀a,a/2≠x->S1.vis a=S.vis a)/\S1.i=S.i/\S1.j=S.j/\S1.k=S.k/\(S1.st x=5\/S1.st x=2\/S1.st x=4)/\(∀z,Zx D x z->S1.vis z=false):=by
 induction hF with
 |stop h=>intro S hM hs hZ hw;exact ⟨S,rfl,hM,fun _ _=>rfl,fun _ _=>rfl,rfl,rfl,rfl,hs,hZ⟩
 | @go w w' h _ ih=>
   intro S hM hs hZ hw
   have hwp:w≠p:=fun e=>hp (e▸h)
   have hv:S.vis w=false:=hM.vq.resolve_left hwp
   have hl:=hM.lq
   have f:=hM.inv w hl
   unfold Fit at f
   rw [h] at f
   have hb: ∃v,(v=2\/v=4)/\br D S w=[(1,S.mk' w v,D.nx (co w))]:=by
    rcases hs with h5|h2|h4
    ·exact ⟨2, .inl rfl,br_5 hl (by rw [h];exact h5)⟩
    ·exact ⟨4, .inr rfl,br_2 hl (by rw [h];exact h2)⟩
    ·rw [h4,FitP.i4,hv] at f;cases f.1
   obtain ⟨v,hv2,hb⟩:=hb
   have hM':=hM.step hD hwp (x:=(1,S.mk' w v,D.nx (co w))) (by rw [hb];exact .head _)
   obtain ⟨S1,k1,k2,k3,k4,k5,k6,k7,k8,k9⟩:=ih hM' (by rw [yd5 h];omega) (fun z hz=>by
    have hzw:z≠w:=fun e=>hw (by rw [←e];exact hz)
    exact (yag S hzw).trans (hZ z hz)) fun hz=>hw (y6d hD hx h hz)
   refine ⟨S1,?_,k2,fun c hc=>?_,fun a ha=>?_,k5,k6,k7,k8,k9⟩
   ·rw [W_go (ycx hwp) hv,hb,yci,k1]
   ·rw [k3 c hc];exact yae _ _ (by rw [h];exact hc)
   ·rw [k4 a ha];exact yag S fun e=>ha (by rw [e];exact h)
theorem Rl.mark (e:Nat) {S' S:WS} (h:Rl x e S' S) (a v:Nat):Rl x e (S'.mk' a v) (S.mk' (upE x a) v):=by
 refine ⟨fun c=>?_,fun b=>?_,h.i,h.j,h.k,?_⟩
 ·show upd S.st (upE x a/2) v (upC x c)=upd S'.st (a/2) v c
  rw [yky]
  by_cases e:c=a/2
  ·subst e;rw [yac,yac]
  ·rw [yae _ _ e,yae _ _ fun e'=>e (y6c e')];exact h.st c
 ·show upd S.vis (upE x a) true (upE x b)=upd S'.vis a true b
  by_cases e:b=a
  ·subst e;rw [yac,yac]
  ·rw [yae _ _ e,yae _ _ fun e'=>e (yod e')];exact h.vis b
 ·show upd S.st (upE x a/2) v x=5\/upd S.st (upE x a/2) v x=2\/upd S.st (upE x a/2) v x=4
  rw [yae _ _ (Ne.symm (yec x a))];exact h.x
theorem Rl.sc {e:Nat} {S' S:WS} (h:Rl x e S' S) (u v:Int):Rl x e (S'.sc u v) (S.sc u v):=
 ⟨h.st,h.vis,by show S'.i+u=S.i+u;rw [h.i],by show S'.j+v=S.j+v;rw [h.j],h.k,h.x⟩
theorem Rl.cr {e:Nat} {S' S:WS} (h:Rl x e S' S):Rl x e S'.cr S.cr:=⟨h.st,h.vis,h.i,h.j,by show S'.k+1=S.k+1+e;rw [h.k];omega,h.x⟩
theorem yzt (C:Ctr D D' x) {e:Nat} {S' S:WS} (h:Rl x e S' S) {a:Nat} (ha:a<2*D'.n):
  BR (fun S1 b S1' b'=> ∃o,o<2*D'.n/\b'=D'.nx o/\b=D.nx (upE x o)/\Rl x e S1' S1) (br D S (upE x a)) (br D' S' a):=by
 have hst:S.st (upE x a/2)=S'.st (a/2):=by rw [yky];exact h.st _
 have hal:upE x a<2*D.n:=by rw [C.n];exact yj1 ha
 have hsg:sgn D (S'.st (a/2)) (upE x a/2)=sgn D' (S'.st (a/2)) (a/2):=by
  unfold sgn;rw [yky,←C.sg _ (by omega)]
 unfold br
 rw [hst,yuz,if_neg (show¬2*D.n<=upE x a by omega),if_neg (show¬2*D'.n<=a by omega),y78,hsg]
 split
 ·exact .cons ⟨co a,ya4 ha,rfl,rfl,h.mark e a 4⟩ .nil
 split
 ·exact .cons ⟨a,ha,rfl,rfl,h.mark e a 4⟩ .nil
 split
 ·exact .cons ⟨co a,ya4 ha,rfl,rfl,h.mark e a 2⟩ .nil
 split
 ·exact .cons ⟨a,ha,rfl,rfl,h.mark e a 3⟩ .nil
 split
 ·exact .cons ⟨a,ha,rfl,rfl,(h.mark e a 3).sc _ _⟩ (.cons ⟨co a,ya4 ha,rfl,rfl,(h.mark e a 2).sc _ _⟩ .nil)
 ·exact .nil
theorem y9w (hD:Ok D) (hD':Ok D') (C:Ctr D D' x) {e p:Nat} (V:Nat->Bool) {k' k:WS->Int} (hk: ∀S' S,Rl x e S' S->(∀z,Zx D x z->S.vis z=false)->Bd D S->(∀a,V a=true->S'.vis a=true)->k' S'=k S):
  ∀(n:Nat) (S' S:WS) (a:Nat),fu D' S'<=n->a<2*D'.n->Rl x e S' S->(∀z,Zx D x z->S.vis z=false)->Mid D S (upE x p) (upE x a)->(∀a,V a=true->S'.vis a=true)->W D (eqE (upE x p)) S (upE x a) (fun S _=>k S)=W D' (eqE p) S' a fun S _=>k' S:=fun n=>by
 have step: ∀(S' S:WS) (a:Nat) (F' F:WS->Nat->Int),a<2*D'.n->Rl x e S' S->(∀z,Zx D x z->S.vis z=false)->(∀y∈br D S (upE x a),Mid D y.2.1 (upE x p) y.2.2)->(∀y∈br D' S' a,∀S2,Rl x e y.2.1 S2->(∀z,Zx D x z->S2.vis z=false)->Mid D S2 (upE x p) (upE x y.2.2)->y.2.2<2*D'.n->W D (eqE (upE x p)) S2 (upE x y.2.2) (fun S _=>k S)=F' y.2.1 y.2.2)->
   (sumB (br D S (upE x a)) fun S1 b=>W D (eqE (upE x p)) S1 b fun S _=>k S)=sumB (br D' S' a) F':=fun S' S a F' F ha hR hZ hM hF=>by
  have h1:=(yzt C hR ha).and (J:=fun S b S' b'=>Mid D S (upE x p) b/\(∀z,Zx D x z->S.vis z=false)) fun y hy _ _=>⟨hM y hy,fun z hz=>by
   rw [(ydj hy).2,yae _ _ fun e=>?_]
   ·exact hZ z hz
   ·have:z/2=x:=by rcases hz with h|h|h<;>omega
    rw [e] at this;exact yec x a this⟩
  have key: ∀{l l':List (Int×WS×Nat)},BR (fun S1 b S1' b'=>(∃o,o<2*D'.n/\b'=D'.nx o/\b=D.nx (upE x o)/\Rl x e S1' S1)/\Mid D S1 (upE x p) b/\(∀z,Zx D x z->S1.vis z=false)) l l'->(∀y∈l',∀S2,Rl x e y.2.1 S2->(∀z,Zx D x z->S2.vis z=false)->Mid D S2 (upE x p) (upE x y.2.2)->y.2.2<2*D'.n->W D (eqE (upE x p)) S2 (upE x y.2.2) (fun S _=>k S)=F' y.2.1 y.2.2)->(sumB l fun S1 b=>W D (eqE (upE x p)) S1 b fun S _=>k S)=sumB l' F':=fun {l l'} hb=>by
   induction hb with
   |nil=>intro _;rfl
   | @cons c S1 b S1' b' l l' hr _ ih=>
     intro hF
     obtain ⟨⟨o,ho,e1,e2,hR1⟩,hM1,hZ1⟩:=hr
     subst e1 e2
     have hol:upE x o<2*D.n:=by rw [C.n];exact yj1 ho
     obtain ⟨S2,k1,k2,k3,k4,k5,k6,k7,k8,k9⟩:=yr6 hD C.hx (yec x p) (k:=fun S _=>k S) (C.nx o ho) hM1 hR1.x hZ1 (yzs hD C.hx hol (yec x o))
     have hR2:Rl x e S1' S2:=⟨fun c=>by rw [k3 _ (yr4 x c)];exact hR1.st c,fun a=>by rw [k4 _ (yec x a)];exact hR1.vis a,by rw [k5];exact hR1.i,by rw [k6];exact hR1.j,by rw [k7];exact hR1.k,k8⟩
     simp only [sumB]
     rw [k1,hF _ (.head _) S2 hR2 k9 k2 (hD'.lt _ ho),ih fun y hy=>hF y (.tail _ hy)]
  exact key h1 hF
 induction n with
 |zero=>
  intro S' S a hn ha hR hZ hM hV
  cases hs:eqE p a with
  |true=>
   have e:a=p:=by simpa [eqE] using hs
   subst e
   rw [yaz (ya3 _),yaz (ya3 _),hk S' S hR hZ hM.close hV]
  |false=>
   have hap:a≠p:=fun e=>by rw [e,ya3] at hs;cases hs
   have hap':upE x a≠upE x p:=fun e=>hap (yod e)
   cases hv:S'.vis a with
   |true=>rw [yej hs hv,yej (ycx hap') (by rw [hR.vis];exact hv)]
   |false=>
    rw [W_go hs hv,W_go (ycx hap') (by rw [hR.vis];exact hv)]
    refine step S' S a _ (fun S1 b=>0) ha hR hZ (fun y hy=>hM.step hD hap' hy) fun y hy=>?_
    have:=ygc hy hv
    omega
 |succ n ih=>
  intro S' S a hn ha hR hZ hM hV
  cases hs:eqE p a with
  |true=>
   have e:a=p:=by simpa [eqE] using hs
   subst e
   rw [yaz (ya3 _),yaz (ya3 _),hk S' S hR hZ hM.close hV]
  |false=>
   have hap:a≠p:=fun e=>by rw [e,ya3] at hs;cases hs
   have hap':upE x a≠upE x p:=fun e=>hap (yod e)
   cases hv:S'.vis a with
   |true=>rw [yej hs hv,yej (ycx hap') (by rw [hR.vis];exact hv)]
   |false=>
    rw [W_go hs hv,W_go (ycx hap') (by rw [hR.vis];exact hv)]
    refine step S' S a _ (fun S1 b=>0) ha hR hZ (fun y hy=>hM.step hD hap' hy) fun y hy S2 h1 h2 h3 h4=>?_
    have:=ygc hy hv
    refine ih _ _ _ (by omega) h4 h1 h2 h3 fun b hb=>?_
    rw [(ydj hy).2]
    unfold upd
    split
    ·rfl
    ·exact hV b hb
end
end Hs
end Go.Proofs.YtjpbeacamoijhaaDoor
namespace Go.Proofs.YtjpbeacamoijhaaDoor
set_option linter.unusedSimpArgs false
set_option linter.unusedVariables false
namespace Hs
open Sp (Sph siD PermN itn SC alD)
section
variable {D D':Sh} {x:Nat}
theorem ykz {X:Int->Int->Nat->Int} {S S':WS} {a d:Nat} {B:List Nat} (hv:S.vis a=false) (hb:br D S.cr a=[(1,S',d)]) (h:W D (eqE a) S' d (fun S _=>run X D B S)=run X D B S'):run X D (a::B) S=run X D B S':=by
 show (if S.vis a=true then _ else wk1 D S.cr a (run X D B))=_
 rw [if_neg (by simp [hv])]
 unfold wk1
 rw [hb,yci,h]
theorem y23 {X:Int->Int->Nat->Int} {S S':WS} {a d:Nat} {B:List Nat} {z:Int} (hv:S.vis a=false) (hb:br D S.cr a=[(1,S',d)]) (h:W D (eqE a) S' d (fun S _=>run X D B S)=z):run X D (a::B) S=z:=by
 show (if S.vis a=true then _ else wk1 D S.cr a (run X D B))=_
 rw [if_neg (by simp [hv])]
 unfold wk1
 rw [hb,yci,h]
theorem yfq {X:Int->Int->Nat->Int} {S:WS} {a:Nat} {B:List Nat} (hv:S.vis a=true):run X D (a::B) S=run X D B S:=by
 show (if S.vis a=true then _ else _)=_
 rw [if_pos hv]
theorem y24 (hD:Ok D) (hx:x<D.n) (X:Int->Int->Nat->Int) {S:WS} (hB:Bd D S) (hs:S.st x=5\/S.st x=2\/S.st x=4) (hZ: ∀z,Zx D x z->S.vis z=false) (hv: ∀a,a<2*D.n->a/2≠x->S.vis a=true):run X D [2*x,2*x+1] S=X S.i S.j (S.k+exN D x):=by
 have l0:2*x<2*D.n:=by omega
 have l1:2*x+1<2*D.n:=by omega
 have d0:2*x/2=x:=by omega
 have d1:(2*x+1)/2=x:=by omega
 have inj:D.nx (2*x+1)≠D.nx (2*x):=fun e=>by have:=hD.inj _ _ l1 l0 e;omega
 have f0:=hB _ l0
 have f1:=hB _ l1
 unfold Fit at f0 f1
 rw [d0,co0] at f0
 rw [d1,co1] at f1
 have far: ∀z,z<2*D.n->z/2≠x->S.vis (D.nx z)=true:=fun z hz hzx=>by
  have v1:=hv z hz hzx
  have v2:=hv (co z) (ya4 hz) (by rw [yao];exact hzx)
  have f:=hB z hz
  unfold Fit FitP at f
  rw [v1,v2] at f
  rcases f with ⟨_,h,_⟩|⟨_,_,h⟩|⟨_,h,_⟩|⟨_,_,h⟩
  ·cases h
  ·exact h
  ·exact h.1 rfl
  ·cases h
 have both: ∀{q:Nat} {P:Prop},S.st x=q->(S.vis (2*x)=true↔P)->True:=fun _ _=>trivial
 obtain ⟨z0,hz0,e0⟩:=ykp hD l0
 obtain ⟨z1,hz1,e1⟩:=ykp hD l1
 have at0:z0/2=x->z0=2*x\/z0=2*x+1:=fun h=>by omega
 have at1:z1/2=x->z1=2*x\/z1=2*x+1:=fun h=>by omega
 have two:S.vis (2*x)=false->S.vis (2*x+1)=false->S.st x=5:=fun a b=>by
  rw [a,b] at f0
  unfold FitP at f0
  rcases f0 with ⟨_,_,_⟩|⟨_,h,_⟩|⟨_,_,h⟩|⟨_,_,h⟩
  ·omega
  ·cases h
  ·cases h
  ·cases h
 have one:S.vis (2*x)≠S.vis (2*x+1)->S.st x=2:=fun a=>by
  rcases hs with h|h|h
  ·rw [h,FitP.i0 (.inr rfl)] at f0 f1
   rw [f0.1,f1.1] at a;exact absurd rfl a
  ·exact h
  ·rw [h,FitP.i4] at f0 f1
   rw [f0.1,f1.1] at a;exact absurd rfl a
 by_cases hA:D.nx (2*x+1)=2*x
 ·have hC: ¬(D.nx (2*x+1)=2*x+1/\D.nx (2*x)=2*x):=fun h=>by omega
  have v0:S.vis (2*x)=false:=hZ _ (.inl ⟨rfl,hA⟩)
  by_cases hBB:D.nx (2*x)=2*x+1
  ·have v1:S.vis (2*x+1)=false:=hZ _ (.inr (.inl ⟨rfl,hBB⟩))
   have h5:=two v0 v1
   rw [ykz (S':=S.cr.mk' (2*x) 2) (d:=2*x) v0 (by rw [br_5 l0 (by rw [d0];exact h5),co0,hA]) (yaz (ya3 _)),
    ykz (S':=((S.cr.mk' (2*x) 2).cr).mk' (2*x+1) 4) (d:=2*x+1) (by rw [yag _ (by omega)];exact v1) (by rw [br_2 l1 (by rw [d1];exact yd5 d0),co1,hBB]) (yaz (ya3 _))]
   show X S.i S.j (S.k+1+1)=_
   unfold exN
   rw [if_pos hA,if_pos hBB,if_neg hC]
  ·have v1:S.vis (2*x+1)=true:=by
    by_cases h:z1/2=x
    ·rcases at1 h with h|h<;>rw [h] at e1
     ·exact absurd e1 hBB
     ·omega
    ·rw [←e1];exact far z1 hz1 h
   have h2:=one (by rw [v0,v1];decide)
   rw [ykz (S':=S.cr.mk' (2*x) 4) (d:=2*x) v0 (by rw [br_2 l0 (by rw [d0];exact h2),co0,hA]) (yaz (ya3 _)),yfq (by rw [yag _ (by omega)];exact v1)]
   show X S.i S.j (S.k+1)=_
   unfold exN
   rw [if_pos hA,if_neg hBB,if_neg hC]
 ·by_cases hBB:D.nx (2*x)=2*x+1
  ·have hC: ¬(D.nx (2*x+1)=2*x+1/\D.nx (2*x)=2*x):=fun h=>by omega
   have v1:S.vis (2*x+1)=false:=hZ _ (.inr (.inl ⟨rfl,hBB⟩))
   have v0:S.vis (2*x)=true:=by
    by_cases h:z0/2=x
    ·rcases at0 h with h|h<;>rw [h] at e0
     ·omega
     ·exact absurd e0 hA
    ·rw [←e0];exact far z0 hz0 h
   have h2:=one (by rw [v0,v1];decide)
   rw [yfq v0,ykz (S':=S.cr.mk' (2*x+1) 4) (d:=2*x+1) v1 (by rw [br_2 l1 (by rw [d1];exact h2),co1,hBB]) (yaz (ya3 _))]
   show X S.i S.j (S.k+1)=_
   unfold exN
   rw [if_neg hA,if_pos hBB,if_neg hC]
  ·by_cases hC:D.nx (2*x+1)=2*x+1/\D.nx (2*x)=2*x
   ·have v0:S.vis (2*x)=false:=hZ _ (.inr (.inr ⟨d0,hC.1,hC.2⟩))
    have v1:S.vis (2*x+1)=false:=hZ _ (.inr (.inr ⟨d1,hC.1,hC.2⟩))
    have h5:=two v0 v1
    refine y23 (S':=S.cr.mk' (2*x) 2) (d:=2*x+1) v0 (by rw [br_5 l0 (by rw [d0];exact h5),co0,hC.1]) ?_
    have v1':(S.cr.mk' (2*x) 2).vis (2*x+1)=false:=by rw [yag _ (by omega)];exact v1
    rw [W_go (ycx (by omega)) v1',br_2 l1 (by rw [d1];exact yd5 d0),yci,co1,hC.2,yaz (ya3 _),yfq (ybg _ _ _)]
    show X S.i S.j (S.k+1)=_
    unfold exN
    rw [if_neg hA,if_neg hBB,if_pos hC]
   ·have v0:S.vis (2*x)=true/\S.vis (2*x+1)=true:=by
     have n0:z0/2=x->z0=2*x:=fun h=>(at0 h).resolve_right fun e=>by rw [e] at e0;exact hA e0
     have n1:z1/2=x->z1=2*x+1:=fun h=>(at1 h).resolve_left fun e=>by rw [e] at e1;exact hBB e1
     have eqv:S.vis (2*x)=true\/S.vis (2*x+1)=true->D.nx (2*x)=2*x\/D.nx (2*x+1)=2*x+1->S.vis (2*x)=true/\S.vis (2*x+1)=true:=fun h h'=>by
      rcases hs with h5|h2|h4
      ·rw [h5,FitP.i0 (.inr rfl)] at f0 f1
       rcases h with h|h
       ·rw [f0.1] at h;cases h
       ·rw [f1.1] at h;cases h
      ·rw [h2,FitP.i2] at f0 f1
       rcases h' with h'|h'
       ·have:=f1.1
        rw [h'] at this
        rcases h with h|h
        ·exact ⟨h,this.2 h⟩
        ·exact ⟨this.1 h,h⟩
       ·have:=f0.1
        rw [h'] at this
        rcases h with h|h
        ·exact ⟨h,this.1 h⟩
        ·exact ⟨this.2 h,h⟩
      ·rw [h4,FitP.i4] at f0 f1
       exact ⟨f0.1,f1.1⟩
     by_cases h0:z0/2=x
     ·have k0:=n0 h0
      rw [k0] at e0
      by_cases h1:z1/2=x
      ·have k1:=n1 h1
       rw [k1] at e1
       exact absurd ⟨e1,e0⟩ hC
      ·exact eqv (.inr (by rw [←e1];exact far z1 hz1 h1)) (.inl e0)
     ·have w0:S.vis (2*x)=true:=by rw [←e0];exact far z0 hz0 h0
      by_cases h1:z1/2=x
      ·have k1:=n1 h1
       rw [k1] at e1
       exact eqv (.inl w0) (.inr e1)
      ·exact ⟨w0,by rw [←e1];exact far z1 hz1 h1⟩
    rw [yfq v0.1,yfq v0.2]
    show X S.i S.j S.k=_
    unfold exN
    rw [if_neg hA,if_neg hBB,if_neg hC];rfl
theorem yk0 (hD:Ok D) (hD':Ok D') (C:Ctr D D' x) (X:Int->Int->Nat->Int): ∀(B:List Nat) (S' S:WS),Rl x (exN D x) S' S->(∀z,Zx D x z->S.vis z=false)->Bd D S->Cov D' B S'->run X D' B S'=run X D (B.map (upE x)++[2*x,2*x+1]) S
 |[],S',S,hR,hZ,hB,hC=>by
  show X S'.i S'.j S'.k=run X D [2*x,2*x+1] S
  rw [y24 hD C.hx X hB hR.x hZ fun a ha hax=>?_,hR.i,hR.j,hR.k]
  obtain ⟨b,rfl⟩:=yr5 hax
  rw [hR.vis]
  cases e:S'.vis b with
  |true=>rfl
  |false=>
   have:=hC.all b (yu0 (x:=x) (by have:=C.hx;have:=C.n;omega) (by rw [←C.n];exact ha)) e
   cases this
 |a::B,S',S,hR,hZ,hB,hC=>by
  have hal:=hC.lt a (.head _)
  cases hv:S'.vis a with
  |true=>
   have hC':Cov D' B S':=⟨fun b hb=>hC.lt b (.tail _ hb),fun b hb hvb=>(List.mem_cons.1 (hC.all b hb hvb)).resolve_left fun e=>by rw [e,hv] at hvb;cases hvb⟩
   rw [yfq hv,yk0 hD hD' C X B S' S hR hZ hB hC']
   exact (yfq (by rw [hR.vis];exact hv)).symm
  |false=>
   have hvS:S.vis (upE x a)=false:=by rw [hR.vis];exact hv
   show (if S'.vis a=true then _ else wk1 D' S'.cr a (run X D' B))=if S.vis (upE x a)=true then _ else wk1 D S.cr (upE x a) (run X D (B.map (upE x)++[2*x,2*x+1]))
   rw [if_neg (by simp [hv]),if_neg (by simp [hvS])]
   unfold wk1
   have hR':=hR.cr
   symm
   have h1:=(yzt C hR' hal).and (J:=fun S b S' b'=>Mid D S (upE x a) b/\(∀z,Zx D x z->S.vis z=false)) fun y hy _ _=>⟨hB.cr.start hD hvS hy,fun z hz=>by
    rw [(ydj hy).2,yae _ _ fun e=>?_]
    ·exact hZ z hz
    ·have:z/2=x:=by rcases hz with h|h|h<;>omega
     rw [e] at this;exact yec x a this⟩
   have hvs: ∀y∈br D' S'.cr a,∀b,(fun b=>S'.vis b||b==a) b=true->y.2.1.vis b=true:=fun y hy b hb=>by
    rw [(ydj hy).2]
    unfold upd
    split
    ·rfl
    ·rename_i hba
     have hb':(S'.vis b||b==a)=true:=hb
     simp [hba] at hb'
     exact hb'
   revert hvs h1
   generalize br D' S'.cr a=l'
   generalize br D S.cr (upE x a)=l
   intro h1 hvs
   induction h1 with
   |nil=>rfl
   | @cons c S1 b S1' b' l l' hr _ ih=>
     obtain ⟨⟨o,ho,e1,e2,hR1⟩,hM1,hZ1⟩:=hr
     subst e1 e2
     have hol:upE x o<2*D.n:=by rw [C.n];exact yj1 ho
     obtain ⟨S2,k1,k2,k3,k4,k5,k6,k7,k8,k9⟩:=yr6 hD C.hx (yec x a) (k:=fun S _=>run X D (B.map (upE x)++[2*x,2*x+1]) S) (C.nx o ho) hM1 hR1.x hZ1 (yzs hD C.hx hol (yec x o))
     have hR2:Rl x (exN D x) S1' S2:=⟨fun c=>by rw [k3 _ (yr4 x c)];exact hR1.st c,fun a=>by rw [k4 _ (yec x a)];exact hR1.vis a,by rw [k5];exact hR1.i,by rw [k6];exact hR1.j,by rw [k7];exact hR1.k,k8⟩
     simp only [sumB]
     rw [k1,y9w hD hD' C (fun b=>S'.vis b||b==a) (k':=run X D' B) (fun T' T hT hTZ hTB hTV=>?_) _ S1' S2 _ (Nat.le_refl _) (hD'.lt _ ho) hR2 k9 k2 (hvs _ (.head _)),ih fun y hy=>hvs y (.tail _ hy)]
     refine yk0 hD hD' C X B T' T hT hTZ hTB ⟨fun b hb=>hC.lt b (.tail _ hb),fun b hb hvb=>?_⟩
     refine (List.mem_cons.1 (hC.all b hb ?_)).resolve_left fun e=>?_
     ·cases e:S'.vis b with
      |false=>rfl
      |true=>rw [hTV b (by show (S'.vis b||b==a)=true;rw [e];rfl)] at hvb;cases hvb
     ·rw [hTV b (by show (S'.vis b||b==a)=true;rw [e];simp)] at hvb;cases hvb
end
end Hs
end Go.Proofs.YtjpbeacamoijhaaDoor
