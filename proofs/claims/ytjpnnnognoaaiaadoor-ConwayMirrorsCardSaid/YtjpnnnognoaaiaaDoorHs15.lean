/- Plain: a smoothed diagram is the diagram with a crossing smoothed from the start. -/
import Derived.Test.YtjpnnnognoaaiaaDoorHs14
namespace Go.Proofs.YtjpnnnognoaaiaaDoor
set_option linter.unusedSimpArgs false
set_option linter.unusedVariables false
namespace Hs
open Sp (Sph siD PermN itn SC alD)
def upE (x a:Nat):Nat:=if a/2<x then a else a+2
def upC (x c:Nat):Nat:=if c<x then c else c+1
theorem ykw (x a:Nat):upE x a/2=upC x (a/2):=by unfold upE upC;split<;>omega
theorem yua (x a:Nat):upE x a % 2=a % 2:=by unfold upE;split<;>omega
theorem yek (x a:Nat):upE x a/2≠x:=by unfold upE;split<;>omega
theorem yry (x c:Nat):upC x c≠x:=by unfold upC;split<;>omega
theorem y7l (x a:Nat):co (upE x a)=upE x (co a):=by
 have:=yai a
 unfold upE
 rw [this]
 by_cases h:a/2<x
 ·rw [if_pos h,if_pos h]
 ·rw [if_neg h,if_neg h]
  unfold co
  by_cases h2:a % 2=0
  ·rw [if_pos h2,if_pos (by omega)]
  ·rw [if_neg h2,if_neg (by omega)];omega
theorem yn8 {x a b:Nat} (h:upE x a=upE x b):a=b:=by unfold upE at h;split at h<;>split at h<;>omega
theorem y5n {x a b:Nat} (h:upC x a=upC x b):a=b:=by unfold upC at h;split at h<;>split at h<;>omega
theorem yrz {x b:Nat} (h:b/2≠x): ∃a,upE x a=b:=by
 by_cases h1:b/2<x
 ·exact ⟨b,if_pos h1⟩
 ·exact ⟨b-2,by unfold upE;rw [if_neg (by omega)];omega⟩
theorem yj6 {x a n:Nat} (h:a<2*n):upE x a<2*(n+1):=by unfold upE;split<;>omega
theorem yub {x a n:Nat} (hx:x<n+1) (h:upE x a<2*(n+1)):a<2*n:=by unfold upE at h;split at h<;>omega
inductive Fol (D:Sh) (x:Nat):Nat->Nat->Prop
 |stop {w:Nat} (h:w/2≠x):Fol D x w w
 |go {w w':Nat} (h:w/2=x) (k:Fol D x (D.nx (co w)) w'):Fol D x w w'
structure Ctr (D D':Sh) (x:Nat):Prop where
 hx:x<D.n
 n:D.n=D'.n+1
 sg: ∀c,c<D'.n->D'.sg c=D.sg (upC x c)
 nx: ∀a,a<2*D'.n->Fol D x (D.nx (upE x a)) (upE x (D'.nx a))
structure Rl (x e:Nat) (S' S:WS):Prop where
 st: ∀c,S.st (upC x c)=S'.st c
 vis: ∀a,S.vis (upE x a)=S'.vis a
 i:S'.i=S.i
 j:S'.j=S.j
 k:S'.k=S.k+e
 x:S.st x=5\/S.st x=2\/S.st x=4
def Zx (D:Sh) (x w:Nat):Prop:=(w=2*x/\D.nx (2*x+1)=2*x)\/(w=2*x+1/\D.nx (2*x)=2*x+1)\/(w/2=x/\D.nx (2*x+1)=2*x+1/\D.nx (2*x)=2*x)
def exN (D:Sh) (x:Nat):Nat:=(if D.nx (2*x+1)=2*x then 1 else 0)+(if D.nx (2*x)=2*x+1 then 1 else 0)+(if D.nx (2*x+1)=2*x+1/\D.nx (2*x)=2*x then 1 else 0)
section
variable {D D':Sh} {x:Nat}
theorem y5o (hD:Ok D) (hx:x<D.n) {w:Nat} (hw:w/2=x) (h:Zx D x (D.nx (co w))):Zx D x w:=by
 have e:w=2*x\/w=2*x+1:=by omega
 have inj:D.nx (2*x+1)≠D.nx (2*x):=fun e=>by have:=hD.inj _ _ (by omega) (by omega) e;omega
 rcases e with e|e<;>subst e
 ·rw [co0] at h
  rcases h with ⟨h1,h2⟩|⟨h1,h2⟩|⟨_,h2,h3⟩
  ·exact .inl ⟨rfl,h2⟩
  ·exact absurd (h1.trans h2.symm) inj
  ·exact .inr (.inr ⟨hw,h2,h3⟩)
 ·rw [co1] at h
  rcases h with ⟨h1,h2⟩|⟨h1,h2⟩|⟨_,h2,h3⟩
  ·exact absurd (h2.trans h1.symm) inj
  ·exact .inr (.inl ⟨rfl,h2⟩)
  ·exact .inr (.inr ⟨hw,h2,h3⟩)
theorem yza (hD:Ok D) (hx:x<D.n) {z:Nat} (hz:z<2*D.n) (hzx:z/2≠x): ¬Zx D x (D.nx z):=by
 have key: ∀y,y/2=x->D.nx z≠D.nx y:=fun y hy e=>hzx (by rw [hD.inj _ _ hz (by omega) e];exact hy)
 rintro (⟨h1,h2⟩|⟨h1,h2⟩|⟨h1,h2,h3⟩)
 ·exact key (2*x+1) (by omega) (h1.trans h2.symm)
 ·exact key (2*x) (by omega) (h1.trans h2.symm)
 ·have e:D.nx z=2*x\/D.nx z=2*x+1:=by omega
  rcases e with e|e
  ·exact key (2*x) (by omega) (e.trans h3.symm)
  ·exact key (2*x+1) (by omega) (e.trans h2.symm)
theorem yr0 (hD:Ok D) (hx:x<D.n) {p:Nat} (hp:p/2≠x) {k:WS->Nat->Int} {w w':Nat} (hF:Fol D x w w'): ∀{S:WS},Mid D S p w->(S.st x=5\/S.st x=2\/S.st x=4)->(∀z,Zx D x z->S.vis z=false)-> ¬Zx D x w->
  ∃S1,W D (eqE p) S w k=W D (eqE p) S1 w' k/\Mid D S1 p w'/\(∀c,c≠x->S1.st c=S.st c)/\(∀a,a/2≠x->S1.vis a=S.vis a)/\S1.i=S.i/\S1.j=S.j/\S1.k=S.k/\(S1.st x=5\/S1.st x=2\/S1.st x=4)/\(∀z,Zx D x z->S1.vis z=false):=by
 induction hF with
 |stop h=>intro S hM hs hZ hw;exact ⟨S,rfl,hM,fun _ _=>rfl,fun _ _=>rfl,rfl,rfl,rfl,hs,hZ⟩
 | @go w w' h _ ih=>
   intro S hM hs hZ hw
   have hwp:w≠p:=fun e=>hp (e▸h)
   have hv:S.vis w=false:=hM.vq.resolve_left hwp
   have hl:=hM.lq
   have f:=hM.inv w hl
   unfold Fit at f
   rw [h] at f
   have hb: ∃v,(v=2\/v=4)/\br D S w=[(1,S.mk' w v,D.nx (co w))]:=by
    rcases hs with h5|h2|h4
    ·exact ⟨2, .inl rfl,br_5 hl (by rw [h];exact h5)⟩
    ·exact ⟨4, .inr rfl,br_2 hl (by rw [h];exact h2)⟩
    ·rw [h4,FitP.i4,hv] at f;cases f.1
   obtain ⟨v,hv2,hb⟩:=hb
   have hM':=hM.step hD hwp (x:=(1,S.mk' w v,D.nx (co w))) (by rw [hb];exact .head _)
   obtain ⟨S1,k1,k2,k3,k4,k5,k6,k7,k8,k9⟩:=ih hM' (by rw [yd8 h];omega) (fun z hz=>by
    have hzw:z≠w:=fun e=>hw (by rw [←e];exact hz)
    exact (yah S hzw).trans (hZ z hz)) fun hz=>hw (y5o hD hx h hz)
   refine ⟨S1,?_,k2,fun c hc=>?_,fun a ha=>?_,k5,k6,k7,k8,k9⟩
   ·rw [W_go (ycz hwp) hv,hb,ycn,k1]
   ·rw [k3 c hc];exact yaf _ _ (by rw [h];exact hc)
   ·rw [k4 a ha];exact yah S fun e=>ha (by rw [e];exact h)
theorem Rl.mark (e:Nat) {S' S:WS} (h:Rl x e S' S) (a v:Nat):Rl x e (S'.mk' a v) (S.mk' (upE x a) v):=by
 refine ⟨fun c=>?_,fun b=>?_,h.i,h.j,h.k,?_⟩
 ·show upd S.st (upE x a/2) v (upC x c)=upd S'.st (a/2) v c
  rw [ykw]
  by_cases e:c=a/2
  ·subst e;rw [yad,yad]
  ·rw [yaf _ _ e,yaf _ _ fun e'=>e (y5n e')];exact h.st c
 ·show upd S.vis (upE x a) true (upE x b)=upd S'.vis a true b
  by_cases e:b=a
  ·subst e;rw [yad,yad]
  ·rw [yaf _ _ e,yaf _ _ fun e'=>e (yn8 e')];exact h.vis b
 ·show upd S.st (upE x a/2) v x=5\/upd S.st (upE x a/2) v x=2\/upd S.st (upE x a/2) v x=4
  rw [yaf _ _ (Ne.symm (yek x a))];exact h.x
theorem Rl.sc {e:Nat} {S' S:WS} (h:Rl x e S' S) (u v:Int):Rl x e (S'.sc u v) (S.sc u v):=
 ⟨h.st,h.vis,by show S'.i+u=S.i+u;rw [h.i],by show S'.j+v=S.j+v;rw [h.j],h.k,h.x⟩
theorem Rl.cr {e:Nat} {S' S:WS} (h:Rl x e S' S):Rl x e S'.cr S.cr:=⟨h.st,h.vis,h.i,h.j,by show S'.k+1=S.k+1+e;rw [h.k];omega,h.x⟩
theorem yzb (C:Ctr D D' x) {e:Nat} {S' S:WS} (h:Rl x e S' S) {a:Nat} (ha:a<2*D'.n):
  BR (fun S1 b S1' b'=> ∃o,o<2*D'.n/\b'=D'.nx o/\b=D.nx (upE x o)/\Rl x e S1' S1) (br D S (upE x a)) (br D' S' a):=by
 have hst:S.st (upE x a/2)=S'.st (a/2):=by rw [ykw];exact h.st _
 have hal:upE x a<2*D.n:=by rw [C.n];exact yj6 ha
 have hsg:sgn D (S'.st (a/2)) (upE x a/2)=sgn D' (S'.st (a/2)) (a/2):=by
  unfold sgn;rw [ykw,←C.sg _ (by omega)]
 unfold br
 rw [hst,yua,if_neg (show¬2*D.n<=upE x a by omega),if_neg (show¬2*D'.n<=a by omega),y7l,hsg]
 split
 ·exact .cons ⟨co a,yav ha,rfl,rfl,h.mark e a 4⟩ .nil
 split
 ·exact .cons ⟨a,ha,rfl,rfl,h.mark e a 4⟩ .nil
 split
 ·exact .cons ⟨co a,yav ha,rfl,rfl,h.mark e a 2⟩ .nil
 split
 ·exact .cons ⟨a,ha,rfl,rfl,h.mark e a 3⟩ .nil
 split
 ·exact .cons ⟨a,ha,rfl,rfl,(h.mark e a 3).sc _ _⟩ (.cons ⟨co a,yav ha,rfl,rfl,(h.mark e a 2).sc _ _⟩ .nil)
 ·exact .nil
theorem y9c (hD:Ok D) (hD':Ok D') (C:Ctr D D' x) {e p:Nat} (V:Nat->Bool) {k' k:WS->Int} (hk: ∀S' S,Rl x e S' S->(∀z,Zx D x z->S.vis z=false)->Bd D S->(∀a,V a=true->S'.vis a=true)->k' S'=k S):
  ∀(n:Nat) (S' S:WS) (a:Nat),fu D' S'<=n->a<2*D'.n->Rl x e S' S->(∀z,Zx D x z->S.vis z=false)->Mid D S (upE x p) (upE x a)->(∀a,V a=true->S'.vis a=true)->W D (eqE (upE x p)) S (upE x a) (fun S _=>k S)=W D' (eqE p) S' a fun S _=>k' S:=fun n=>by
 have step: ∀(S' S:WS) (a:Nat) (F' F:WS->Nat->Int),a<2*D'.n->Rl x e S' S->(∀z,Zx D x z->S.vis z=false)->(∀y∈br D S (upE x a),Mid D y.2.1 (upE x p) y.2.2)->(∀y∈br D' S' a,∀S2,Rl x e y.2.1 S2->(∀z,Zx D x z->S2.vis z=false)->Mid D S2 (upE x p) (upE x y.2.2)->y.2.2<2*D'.n->W D (eqE (upE x p)) S2 (upE x y.2.2) (fun S _=>k S)=F' y.2.1 y.2.2)->
   (sumB (br D S (upE x a)) fun S1 b=>W D (eqE (upE x p)) S1 b fun S _=>k S)=sumB (br D' S' a) F':=fun S' S a F' F ha hR hZ hM hF=>by
  have h1:=(yzb C hR ha).and (J:=fun S b S' b'=>Mid D S (upE x p) b/\(∀z,Zx D x z->S.vis z=false)) fun y hy _ _=>⟨hM y hy,fun z hz=>by
   rw [(ydo hy).2,yaf _ _ fun e=>?_]
   ·exact hZ z hz
   ·have:z/2=x:=by rcases hz with h|h|h<;>omega
    rw [e] at this;exact yek x a this⟩
  have key: ∀{l l':List (Int×WS×Nat)},BR (fun S1 b S1' b'=>(∃o,o<2*D'.n/\b'=D'.nx o/\b=D.nx (upE x o)/\Rl x e S1' S1)/\Mid D S1 (upE x p) b/\(∀z,Zx D x z->S1.vis z=false)) l l'->(∀y∈l',∀S2,Rl x e y.2.1 S2->(∀z,Zx D x z->S2.vis z=false)->Mid D S2 (upE x p) (upE x y.2.2)->y.2.2<2*D'.n->W D (eqE (upE x p)) S2 (upE x y.2.2) (fun S _=>k S)=F' y.2.1 y.2.2)->(sumB l fun S1 b=>W D (eqE (upE x p)) S1 b fun S _=>k S)=sumB l' F':=fun {l l'} hb=>by
   induction hb with
   |nil=>intro _;rfl
   | @cons c S1 b S1' b' l l' hr _ ih=>
     intro hF
     obtain ⟨⟨o,ho,e1,e2,hR1⟩,hM1,hZ1⟩:=hr
     subst e1 e2
     have hol:upE x o<2*D.n:=by rw [C.n];exact yj6 ho
     obtain ⟨S2,k1,k2,k3,k4,k5,k6,k7,k8,k9⟩:=yr0 hD C.hx (yek x p) (k:=fun S _=>k S) (C.nx o ho) hM1 hR1.x hZ1 (yza hD C.hx hol (yek x o))
     have hR2:Rl x e S1' S2:=⟨fun c=>by rw [k3 _ (yry x c)];exact hR1.st c,fun a=>by rw [k4 _ (yek x a)];exact hR1.vis a,by rw [k5];exact hR1.i,by rw [k6];exact hR1.j,by rw [k7];exact hR1.k,k8⟩
     simp only [sumB]
     rw [k1,hF _ (.head _) S2 hR2 k9 k2 (hD'.lt _ ho),ih fun y hy=>hF y (.tail _ hy)]
  exact key h1 hF
 induction n with
 |zero=>
  intro S' S a hn ha hR hZ hM hV
  cases hs:eqE p a with
  |true=>
   have e:a=p:=by simpa [eqE] using hs
   subst e
   rw [yax (ya2 _),yax (ya2 _),hk S' S hR hZ hM.close hV]
  |false=>
   have hap:a≠p:=fun e=>by rw [e,ya2] at hs;cases hs
   have hap':upE x a≠upE x p:=fun e=>hap (yn8 e)
   cases hv:S'.vis a with
   |true=>rw [yeo hs hv,yeo (ycz hap') (by rw [hR.vis];exact hv)]
   |false=>
    rw [W_go hs hv,W_go (ycz hap') (by rw [hR.vis];exact hv)]
    refine step S' S a _ (fun S1 b=>0) ha hR hZ (fun y hy=>hM.step hD hap' hy) fun y hy=>?_
    have:=yi3 hy hv
    omega
 |succ n ih=>
  intro S' S a hn ha hR hZ hM hV
  cases hs:eqE p a with
  |true=>
   have e:a=p:=by simpa [eqE] using hs
   subst e
   rw [yax (ya2 _),yax (ya2 _),hk S' S hR hZ hM.close hV]
  |false=>
   have hap:a≠p:=fun e=>by rw [e,ya2] at hs;cases hs
   have hap':upE x a≠upE x p:=fun e=>hap (yn8 e)
   cases hv:S'.vis a with
   |true=>rw [yeo hs hv,yeo (ycz hap') (by rw [hR.vis];exact hv)]
   |false=>
    rw [W_go hs hv,W_go (ycz hap') (by rw [hR.vis];exact hv)]
    refine step S' S a _ (fun S1 b=>0) ha hR hZ (fun y hy=>hM.step hD hap' hy) fun y hy S2 h1 h2 h3 h4=>?_
    have:=yi3 hy hv
    refine ih _ _ _ (by omega) h4 h1 h2 h3 fun b hb=>?_
    rw [(ydo hy).2]
    unfold upd
    split
    ·rfl
    ·exact hV b hb
end
end Hs
end Go.Proofs.YtjpnnnognoaaiaaDoor
