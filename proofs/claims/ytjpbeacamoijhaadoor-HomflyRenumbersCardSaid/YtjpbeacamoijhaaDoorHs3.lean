/- Plain: a strand below is moved over a crossing. -/
import Derived.Test.YtjpbeacamoijhaaDoorHs2
namespace Go.Proofs.YtjpbeacamoijhaaDoor
set_option linter.unusedSimpArgs false
set_option linter.unusedVariables false
namespace Hs
def atx (x:Nat):Nat->Bool:=fun c=>decide (c/2=x)
theorem y3r {x c:Nat} (h:c/2=x):atx x c=true:=by unfold atx;exact decide_eq_true h
theorem y9c {x c:Nat} (h:c/2≠x):atx x c=false:=by unfold atx;exact decide_eq_false h
theorem y3s {x c:Nat} (h:atx x c=true):c/2=x:=by unfold atx at h;exact of_decide_eq_true h
theorem y9d {x c:Nat} (h:atx x c=false):c/2≠x:=by unfold atx at h;exact of_decide_eq_false h
structure Arr (D:Sh) (x:Nat) (S:WS) (d:Nat) (S':WS) (c:Nat):Prop where
 at':c/2=x
 v: ∀a,a/2=x->S'.vis a=S.vis a
 st:S'.st x=S.st x
 dd:c=d\/S'.vis d=true
 oth: ∀e,e<2*D.n->e/2=x->D.nx e≠d->c≠D.nx e/\S'.vis (D.nx e)=S.vis (D.nx e)
theorem W_at {D:Sh} (hD:Ok D) {x:Nat} {S:WS} {d:Nat} {K K':WS->Nat->Int} (h: ∀S' c,Arr D x S d S' c->K S' c=K' S' c):W D (atx x) S d K=W D (atx x) S d K':=by
 refine yhv (fun S' c=>(∀a,a/2=x->S'.vis a=S.vis a)/\S'.st x=S.st x/\(c=d\/S'.vis d=true)/\(∀e,e<2*D.n->e/2=x->D.nx e≠d->c≠D.nx e/\S'.vis (D.nx e)=S.vis (D.nx e))) ?_ ?_ ⟨fun _ _=>rfl,rfl, .inl rfl,fun e _ _ hn=>⟨Ne.symm hn,rfl⟩⟩
 ·intro S' c ⟨h1,h2,h3,h4⟩ hs hv y hy
  have hc:=y9d hs
  obtain ⟨hlt,v,e1,e2,_⟩:=yix hy
  rw [e1,e2]
  refine ⟨fun a ha=>?_,?_,?_,fun e he hex hn=>?_⟩
  ·rw [yae _ _ fun e=>hc (by rw [←e];exact ha)];exact h1 a ha
  ·rw [yae _ _ (Ne.symm hc)];exact h2
  ·by_cases hd:c=d
   ·right;rw [←hd,yac]
   ·right;rw [yae _ _ (Ne.symm hd)];exact h3.resolve_left hd
  ·obtain ⟨h5,h6⟩:=h4 e he hex hn
   refine ⟨fun e'=>?_,by rw [yae _ _ (Ne.symm h5)];exact h6⟩
   rcases yiw hy with hh|hh<;>rw [hh] at e'
   ·have:=hD.inj _ _ hlt he e';rw [this] at hc;exact hc hex
   ·have:=hD.inj _ _ (ya4 hlt) he e';rw [←this,yao] at hex;exact hc hex
 ·intro S' c ⟨h1,h2,h3,h4⟩ hs
  exact h S' c ⟨y3s hs,h1,h2,h3,h4⟩
def stp (D:Sh) (S:WS) (c:Nat) (F:WS->Nat->Int):Int:=if S.vis c=true then 0 else sumB (br D S c) F
theorem ygd {D:Sh} {S:WS} {c:Nat} {F:WS->Nat->Int} (h:S.vis c=true):stp D S c F=0:=if_pos h
theorem yek {D:Sh} {S:WS} {c p:Nat} {k:WS->Nat->Int} (h:c≠p):W D (eqE p) S c k=stp D S c fun S d=>W D (eqE p) S d k:=by
 rw [W_eq,if_neg (by simp [ycx h])];rfl
theorem yel {D:Sh} (hD:Ok D) {x p d:Nat} {S:WS} {k:WS->Nat->Int} (hp:p/2=x\/ ∃e,e<2*D.n/\e/2=x/\D.nx e=p) (hd:d≠p\/p/2=x):W D (eqE p) S d k=W D (atx x) S d fun S' c=>W D (eqE p) S' c k:=by
 rw [yq3 (s1:=eqX p x) (fun b h=>by unfold eqE at h;simp [eqX,h])]
 refine Wsim (fun S c S' c'=>S=S'/\c=c'/\(c=p->c/2=x)) ?_ _ _ _ _ ⟨rfl,rfl,fun e=>?_⟩
 ·intro S c S' c' ⟨e1,e2,h3⟩
  subst e1 e2
  refine ⟨?_,fun _=>rfl,fun hs=>⟨rfl,fun hv=>BR.refl' fun y hy=>⟨rfl,rfl,fun e=>?_⟩⟩⟩
  ·unfold eqX atx
   by_cases h:c=p
   ·simp [h3 h]
   ·simp [h]
  ·have hc:c/2≠x:=fun e'=>by simp [eqX,e'] at hs
   have hl:=(ydj hy).1
   rcases hp with hp|⟨e0,h0,h1,h2⟩
   ·rw [e];exact hp
   ·exfalso
    rw [←h2] at e
    rcases yiw hy with hh|hh<;>rw [hh] at e
    ·have:=hD.inj _ _ hl h0 e;rw [this] at hc;exact hc h1
    ·have:=hD.inj _ _ (ya4 hl) h0 e;rw [←this,yao] at h1;exact hc h1
 ·rcases hd with hd|hd
  ·exact absurd e hd
  ·rw [e];exact hd
theorem yjr {D:Sh} (hD:Ok D) {x b:Nat} {S:WS} {k:WS->Int} (hb: ∃e,e<2*D.n/\e/2=x/\D.nx e=b) (hv:S.vis b=false):wk1 D S b k=W D (atx x) S b fun S' c=>stp D S' c fun S'' d=>W D (eqE b) S'' d fun S _=>k S:=by
 by_cases hx:b/2=x
 ·rw [yaz (y3r hx)]
  unfold stp wk1
  rw [if_neg (by simp [hv])]
 ·rw [W_go (y9c hx) hv]
  unfold wk1
  refine ybm fun y hy=>?_
  have hl:=(ydj hy).1
  have hd:y.2.2≠b:=fun e=>by
   obtain ⟨e0,h0,h1,h2⟩:=hb
   rw [←h2] at e
   rcases yiw hy with hh|hh<;>rw [hh] at e
   ·have:=hD.inj _ _ hl h0 e;rw [this] at hx;exact hx h1
   ·have:=hD.inj _ _ (ya4 hl) h0 e;rw [←this,yao] at h1;exact hx h1
  rw [yel hD (.inr hb) (.inl hd)]
  refine yhv (fun _ _=>True) (fun _ _ _ _ _ _ _=>trivial) (fun S c _ hs=>?_) trivial
  exact yek fun e=>hx (by rw [←e];exact y3s hs)
theorem yb6 {x:Nat} {f:WS->WS} (h:Loc x f) {D:Sh} {k:WS->Nat->Int} (S:WS) (a:Nat):W D (atx x) (f S) a k=W D (atx x) S a fun S b=>k (f S) b:=h.W (fun a h=>y3r h) S a
theorem ykl (T:WS) {a b:Nat} (v w z:Nat) (h:a/2=b/2):(T.mk' a v).mk' b z=(T.mk' b w).mk' a z:=by
 unfold WS.mk'
 rw [h]
 simp only [yt8,WS.mk.injEq,and_true,true_and]
 by_cases e:a=b
 ·rw [e]
 ·exact yis _ _ _ e
theorem yd5 {T:WS} {a x v:Nat} (h:a/2=x):(T.mk' a v).st x=v:=by unfold WS.mk';rw [←h];exact yac _ _ _
theorem ybg (T:WS) (a v:Nat):(T.mk' a v).vis a=true:=yac _ _ _
theorem yag (T:WS) {a b v:Nat} (h:b≠a):(T.mk' a v).vis b=T.vis b:=yae _ _ h
theorem br_3 {D:Sh} {S:WS} {c:Nat} (hl:c<2*D.n) (h:S.st (c/2)=3):br D S c=[(1,S.mk' c 4,D.nx c)]:=by
 unfold br;rw [if_neg (by omega),if_neg (by omega),if_pos h]
theorem br_2 {D:Sh} {S:WS} {c:Nat} (hl:c<2*D.n) (h:S.st (c/2)=2):br D S c=[(1,S.mk' c 4,D.nx (co c))]:=by
 unfold br;rw [if_neg (by omega),if_pos h]
theorem br_5 {D:Sh} {S:WS} {c:Nat} (hl:c<2*D.n) (h:S.st (c/2)=5):br D S c=[(1,S.mk' c 2,D.nx (co c))]:=by
 unfold br;rw [if_neg (by omega),if_neg (by omega),if_neg (by omega),if_pos h]
theorem br_o {D:Sh} {S:WS} {c:Nat} (hl:c<2*D.n) (h:S.st (c/2)=c % 2):br D S c=[(1,S.mk' c 3,D.nx c)]:=by
 unfold br;rw [if_neg (by omega),if_neg (by omega),if_neg (by omega),if_neg (by omega),if_pos h]
theorem br_u {D:Sh} {S:WS} {c:Nat} (hl:c<2*D.n) (h:S.st (c/2)=1-c % 2):br D S c=[(1,(S.mk' c 3).sc (2*sgn D (S.st (c/2)) (c/2)) 0,D.nx c),(sgn D (S.st (c/2)) (c/2),(S.mk' c 2).sc (sgn D (S.st (c/2)) (c/2)) 1,D.nx (co c))]:=by
 unfold br;rw [if_neg (by omega),if_neg (by omega),if_neg (by omega),if_neg (by omega),if_neg (by omega),if_pos h]
theorem yci (S:WS) (a:Nat) (F:WS->Nat->Int):sumB [(1,S,a)] F=F S a:=by simp [sumB]
theorem yq5 (S S':WS) (a a':Nat) (c:Int) (F:WS->Nat->Int):sumB [(1,S,a),(c,S',a')] F=F S a+c*F S' a':=by simp [sumB]
theorem yd6 {D:Sh} {S S':WS} {c d:Nat} {F:WS->Nat->Int} (h:S.vis c=false) (hb:br D S c=[(1,S',d)]):stp D S c F=F S' d:=by
 unfold stp;rw [if_neg (by simp [h]),hb,yci]
section
variable {D:Sh} {x:Nat} {S:WS} {k:WS->Int}
theorem y3t (hD:Ok D) {a:Nat} (ha:a/2=x) (hl:a<2*D.n) (hst:S.st x=3) (h1:S.vis a=false) (h2:S.vis (co a)=true):wk1 D S a k=W D (atx x) S (D.nx a) fun S' c=>if c=a then k (S'.mk' a 4) else 0:=by
 unfold wk1
 rw [br_3 hl (by rw [ha];exact hst),yci,yel hD (.inl ha) (.inr ha),yb6 (Loc.mkL 4 ha)]
 refine W_at hD fun S' c hA=>?_
 by_cases hc:c=a
 ·rw [if_pos hc,hc,yaz (ya3 a)]
 ·rw [if_neg hc,yek hc]
  have e:c=co a:=(ybi (hA.at'.trans ha.symm)).resolve_left hc
  refine ygd ?_
  rw [yag _ hc,hA.v c hA.at',e];exact h2
theorem yyr (hD:Ok D) {a:Nat} (ha:a/2=x) (hl:a<2*D.n) (hst:S.st x=3) (h1:S.vis a=false) (h2:S.vis (co a)=true) (h3:S.vis (D.nx a)=false):wk1 D S (D.nx a) k=W D (atx x) S (D.nx a) fun S' c=>if c=a then k (S'.mk' a 4) else 0:=by
 rw [yjr (x:=x) hD ⟨a,hl,ha,rfl⟩ h3]
 refine W_at hD fun S' c hA=>?_
 by_cases hc:c=a
 ·rw [if_pos hc,hc,yd6 (by rw [hA.v a ha];exact h1) (br_3 hl (by rw [ha,hA.st];exact hst)),yaz (ya3 _)]
 ·rw [if_neg hc]
  have e:c=co a:=(ybi (hA.at'.trans ha.symm)).resolve_left hc
  refine ygd ?_
  rw [hA.v c hA.at',e];exact h2
theorem y9e (hD:Ok D) {a:Nat} (ha:a/2=x) (hl:a<2*D.n) (hst:S.st x=2) (h1:S.vis a=false) (h2:S.vis (co a)=true):wk1 D S a k=W D (atx x) S (D.nx (co a)) fun S' c=>if c=a then k (S'.mk' a 4) else 0:=by
 unfold wk1
 rw [br_2 hl (by rw [ha];exact hst),yci,yel hD (.inl ha) (.inr ha),yb6 (Loc.mkL 4 ha)]
 refine W_at hD fun S' c hA=>?_
 by_cases hc:c=a
 ·rw [if_pos hc,hc,yaz (ya3 a)]
 ·rw [if_neg hc,yek hc]
  have e:c=co a:=(ybi (hA.at'.trans ha.symm)).resolve_left hc
  refine ygd ?_
  rw [yag _ hc,hA.v c hA.at',e];exact h2
theorem y7r (hD:Ok D) {a:Nat} (ha:a/2=x) (hl:a<2*D.n) (hst:S.st x=2) (h1:S.vis a=false) (h2:S.vis (co a)=true) (h3:S.vis (D.nx (co a))=false):wk1 D S (D.nx (co a)) k=W D (atx x) S (D.nx (co a)) fun S' c=>if c=a then k (S'.mk' a 4) else 0:=by
 rw [yjr (x:=x) hD ⟨co a,ya4 hl,(yao a).trans ha,rfl⟩ h3]
 refine W_at hD fun S' c hA=>?_
 by_cases hc:c=a
 ·rw [if_pos hc,hc,yd6 (by rw [hA.v a ha];exact h1) (br_2 hl (by rw [ha,hA.st];exact hst)),yaz (ya3 _)]
 ·rw [if_neg hc]
  have e:c=co a:=(ybi (hA.at'.trans ha.symm)).resolve_left hc
  refine ygd ?_
  rw [hA.v c hA.at',e];exact h2
theorem y9f (hD:Ok D) {a:Nat} (ha:a/2=x) (hl:a<2*D.n) (hst:S.st x=5) (h1:S.vis a=false) (h2:S.vis (co a)=false):wk1 D S a k=W D (atx x) S (D.nx (co a)) fun S' c=>if c=a then k (S'.mk' a 2) else W D (atx x) ((S'.mk' a 2).mk' (co a) 4) (D.nx a) fun S'' c'=>if c'=a then k S'' else 0:=by
 have hca:co a/2=x:=by rw [yao];exact ha
 have hcl:=ya4 hl
 unfold wk1
 rw [br_5 hl (by rw [ha];exact hst),yci,yel hD (.inl ha) (.inr ha),yb6 (Loc.mkL 2 ha)]
 refine W_at hD fun S' c hA=>?_
 by_cases hc:c=a
 ·rw [if_pos hc,hc,yaz (ya3 a)]
 ·rw [if_neg hc,yek hc]
  have e:c=co a:=(ybi (hA.at'.trans ha.symm)).resolve_left hc
  subst e
  rw [yd6 (by rw [yag _ hc,hA.v _ hA.at'];exact h2) (br_2 hcl (by rw [hca,yd5 ha])),yax,yel hD (.inl ha) (.inr ha)]
  refine W_at hD fun S'' c' hA'=>?_
  by_cases hc':c'=a
  ·rw [if_pos hc',hc',yaz (ya3 a)]
  ·rw [if_neg hc',yek hc']
   have e:c'=co a:=(ybi (hA'.at'.trans ha.symm)).resolve_left hc'
   refine ygd ?_
   rw [hA'.v c' hA'.at',e];exact ybg _ _ _
theorem y7s (hD:Ok D) {a:Nat} (ha:a/2=x) (hl:a<2*D.n) (hst:S.st x=5) (h1:S.vis a=false) (h2:S.vis (co a)=false) (h3:S.vis (D.nx (co a))=false):wk1 D S (D.nx (co a)) k=W D (atx x) S (D.nx (co a)) fun S' c=>if c=a then k (S'.mk' a 2) else W D (atx x) ((S'.mk' a 2).mk' (co a) 4) (D.nx a) fun S'' c'=>if c'=a then k S'' else 0:=by
 have hca:co a/2=x:=by rw [yao];exact ha
 have hcl:=ya4 hl
 have hne:D.nx a≠D.nx (co a):=fun e=>ycw a (hD.inj _ _ hl hcl e).symm
 rw [yjr (x:=x) hD ⟨co a,hcl,hca,rfl⟩ h3]
 refine W_at hD fun S' c hA=>?_
 by_cases hc:c=a
 ·rw [if_pos hc,hc,yd6 (by rw [hA.v a ha];exact h1) (br_5 hl (by rw [ha,hA.st];exact hst)),yaz (ya3 _)]
 ·rw [if_neg hc]
  have e:c=co a:=(ybi (hA.at'.trans ha.symm)).resolve_left hc
  subst e
  rw [yd6 (by rw [hA.v _ hA.at'];exact h2) (br_5 hcl (by rw [hca,hA.st];exact hst)),yax,yel hD (.inr ⟨co a,hcl,hca,rfl⟩) (.inl hne)]
  rw [yb6 (Loc.mkL 2 hca),yb6 ((Loc.mkL 4 hca).comp (Loc.mkL 2 ha))]
  refine W_at hD fun S'' c' hA'=>?_
  have n1:=(hA'.oth (co a) hcl hca (Ne.symm hne)).1
  rw [yek n1]
  by_cases hc':c'=a
  ·rw [if_pos hc',hc',yd6 (by rw [yag _ (Ne.symm (ycw a)),hA'.v a ha,hA.v a ha];exact h1) (br_2 hl (by rw [ha,yd5 hca])),yaz (ya3 _),ykl _ 2 2 4 (by rw [hca,ha])]
  ·rw [if_neg hc']
   have e:c'=co a:=(ybi (hA'.at'.trans ha.symm)).resolve_left hc'
   rw [e]
   exact ygd (ybg _ _ _)
end
theorem yn0 {D:Sh} (hD:Ok D) {a:Nat} {e:Int} {k:WS->Int} {S:WS} (hB:Bd D S) (hl:a<2*D.n) (h:S.st (a/2)=3\/S.st (a/2)=4):Lt D a e k S=Lt D (D.nx a) e k S:=by
 have f:=hB a hl
 unfold Fit at f
 cases hv:S.vis a with
 |true=>
  have:S.vis (D.nx a)=true:=by
   rcases h with h|h<;>rw [h] at f
   ·exact (FitP.i3.1 f).1.1 hv
   ·exact (FitP.i4.1 f).2
  rw [ych hv,ych this]
 |false=>
  rcases h with h|h<;>rw [h] at f
  ·obtain ⟨f1,f2⟩:=FitP.i3.1 f
   have h3:S.vis (D.nx a)=false:=by
    cases e:S.vis (D.nx a) with
    |false=>rfl
    |true=>rw [f1.2 e] at hv;cases hv
   have h2:S.vis (co a)=true:=by
    cases e:S.vis (co a) with
    |true=>rfl
    |false=>rw [hv,e] at f2;exact absurd f2 (by decide)
   rw [ycr hv,ycr h3,y3t (S:=S.sc e 1) hD rfl hl h hv h2,yyr (S:=S.sc e 1) hD rfl hl h hv h2 h3]
  ·rw [(FitP.i4.1 f).1] at hv;cases hv
theorem yo5 {D:Sh} (hD:Ok D) {a:Nat} {e:Int} {k:WS->Int} {S:WS} (hB:Bd D S) (hl:a<2*D.n) (h:S.st (a/2)=2\/S.st (a/2)=4\/S.st (a/2)=5):Lt D a e k S=Lt D (D.nx (co a)) e k S:=by
 have f:=hB a hl
 have f':=hB (co a) (ya4 hl)
 unfold Fit at f f'
 rw [yao,yax] at f'
 cases hv:S.vis a with
 |true=>
  have:S.vis (D.nx (co a))=true:=by
   rcases h with h|h|h<;>rw [h] at f f'
   ·exact (FitP.i2.1 f).1.1 hv
   ·exact (FitP.i4.1 f').2
   ·rw [((FitP.i0 (.inr rfl)).1 f).1] at hv;cases hv
  rw [ych hv,ych this]
 |false=>
  rcases h with h|h|h<;>rw [h] at f f'
  ·obtain ⟨f1,f2⟩:=FitP.i2.1 f
   have h3:S.vis (D.nx (co a))=false:=by
    cases e:S.vis (D.nx (co a)) with
    |false=>rfl
    |true=>rw [f1.2 e] at hv;cases hv
   have h2:S.vis (co a)=true:=by
    cases e:S.vis (co a) with
    |true=>rfl
    |false=>rw [hv,e] at f2;exact absurd f2 (by decide)
   rw [ycr hv,ycr h3,y9e (S:=S.sc e 1) hD rfl hl h hv h2,y7r (S:=S.sc e 1) hD rfl hl h hv h2 h3]
  ·rw [(FitP.i4.1 f).1] at hv;cases hv
  ·obtain ⟨g1,g2⟩:=(FitP.i0 (.inr rfl)).1 f'
   have h3:S.vis (D.nx (co a))=false:=by simpa using g2
   rw [ycr hv,ycr h3,y9f (S:=S.sc e 1) hD rfl hl h hv g1,y7s (S:=S.sc e 1) hD rfl hl h hv g1 h3]
end Hs
end Go.Proofs.YtjpbeacamoijhaaDoor
