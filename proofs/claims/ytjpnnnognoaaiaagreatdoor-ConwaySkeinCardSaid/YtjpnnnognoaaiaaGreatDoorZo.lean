/- Plain: what holds along the walker's way; letters. -/
import Derived.Test.YtjpnnnognoaaiaaGreatDoorHs1
namespace Go.Proofs.YtjpnnnognoaaiaaGreatDoor
set_option linter.unusedSimpArgs false
set_option linter.unusedVariables false
namespace Hs
structure Ok (D:Sh):Prop where
 lt: ∀a,a<2*D.n->D.nx a<2*D.n
 inj: ∀a b,a<2*D.n->b<2*D.n->D.nx a=D.nx b->a=b
 sg: ∀c,c<D.n->D.sg c=1\/D.sg c= -1
def FitP (q:Nat) (va vc:Bool) (A C:Prop):Prop:=
 ((q<=1\/q=5)/\va=false/\ ¬A)\/(q=4/\va=true/\A)\/(q=3/\(va=true↔A)/\va= !vc)\/(q=2/\(va=true↔C)/\va= !vc)
theorem FitP.i0 {q:Nat} {va vc:Bool} {A C:Prop} (hq:q<=1\/q=5):FitP q va vc A C↔va=false/\ ¬A:=by
 unfold FitP
 constructor
 ·rintro (⟨_,h⟩|⟨h,_⟩|⟨h,_⟩|⟨h,_⟩)
  ·exact h
  all_goals omega
 ·exact fun h=> .inl ⟨hq,h⟩
theorem FitP.i4 {va vc:Bool} {A C:Prop}:FitP 4 va vc A C↔va=true/\A:=by
 unfold FitP
 constructor
 ·rintro (⟨h,_⟩|⟨_,h⟩|⟨h,_⟩|⟨h,_⟩)
  ·omega
  ·exact h
  all_goals omega
 ·exact fun h=> .inr (.inl ⟨rfl,h⟩)
theorem FitP.i3 {va vc:Bool} {A C:Prop}:FitP 3 va vc A C↔(va=true↔A)/\va= !vc:=by
 unfold FitP
 constructor
 ·rintro (⟨h,_⟩|⟨h,_⟩|⟨_,h⟩|⟨h,_⟩)
  ·omega
  ·omega
  ·exact h
  ·omega
 ·exact fun h=> .inr (.inr (.inl ⟨rfl,h⟩))
theorem FitP.i2 {va vc:Bool} {A C:Prop}:FitP 2 va vc A C↔(va=true↔C)/\va= !vc:=by
 unfold FitP
 constructor
 ·rintro (⟨h,_⟩|⟨h,_⟩|⟨h,_⟩|⟨_,h⟩)
  ·omega
  ·omega
  ·omega
  ·exact h
 ·exact fun h=> .inr (.inr (.inr ⟨rfl,h⟩))
def Fit (D:Sh) (S:WS) (arr:Nat->Prop) (a:Nat):Prop:=FitP (S.st (a/2)) (S.vis a) (S.vis (co a)) (arr (D.nx a)) (arr (D.nx (co a)))
def Inv (D:Sh) (S:WS) (arr:Nat->Prop):Prop:= ∀a,a<2*D.n->Fit D S arr a
theorem Inv.congr {D:Sh} {S:WS} {arr arr':Nat->Prop} (h:Inv D S arr) (he: ∀b,arr b↔arr' b):Inv D S arr':=fun a ha=>by
 have:arr=arr':=funext fun b=>propext (he b)
 rw [←this];exact h a ha
theorem yij {D:Sh} {S:WS} {a:Nat} {x:Int×WS×Nat} (h:x∈br D S a):x.2.2=D.nx a\/x.2.2=D.nx (co a):=by
 unfold br at h
 split at h
 ·cases h
 split at h
 ·rw [List.mem_singleton] at h;subst h;exact .inr rfl
 split at h
 ·rw [List.mem_singleton] at h;subst h;exact .inl rfl
 split at h
 ·rw [List.mem_singleton] at h;subst h;exact .inr rfl
 split at h
 ·rw [List.mem_singleton] at h;subst h;exact .inl rfl
 split at h
 ·rcases List.mem_cons.1 h with h|h
  ·subst h;exact .inl rfl
  ·rw [List.mem_singleton] at h;subst h;exact .inr rfl
 ·cases h
theorem yik {D:Sh} {S:WS} {a:Nat} {x:Int×WS×Nat} (h:x∈br D S a):a<2*D.n/\ ∃v,x.2.1.st=upd S.st (a/2) v/\x.2.1.vis=upd S.vis a true/\
  ((S.st (a/2)=2/\v=4/\x.2.2=D.nx (co a))\/(S.st (a/2)=3/\v=4/\x.2.2=D.nx a)\/(S.st (a/2)=5/\v=2/\x.2.2=D.nx (co a))\/(S.st (a/2)<=1/\v=3/\x.2.2=D.nx a)\/(S.st (a/2)<=1/\S.st (a/2)≠a % 2/\v=2/\x.2.2=D.nx (co a))):=by
 unfold br at h
 split at h
 ·cases h
 refine ⟨by omega,?_⟩
 split at h
 ·rename_i h1;rw [List.mem_singleton] at h;subst h;exact ⟨4,rfl,rfl, .inl ⟨h1,rfl,rfl⟩⟩
 split at h
 ·rename_i h1;rw [List.mem_singleton] at h;subst h;exact ⟨4,rfl,rfl, .inr (.inl ⟨h1,rfl,rfl⟩)⟩
 split at h
 ·rename_i h1;rw [List.mem_singleton] at h;subst h;exact ⟨2,rfl,rfl, .inr (.inr (.inl ⟨h1,rfl,rfl⟩))⟩
 split at h
 ·rename_i h1;rw [List.mem_singleton] at h;subst h;exact ⟨3,rfl,rfl, .inr (.inr (.inr (.inl ⟨by omega,rfl,rfl⟩)))⟩
 split at h
 ·rename_i h0 h1
  rcases List.mem_cons.1 h with h|h
  ·subst h;exact ⟨3,rfl,rfl, .inr (.inr (.inr (.inl ⟨by omega,rfl,rfl⟩)))⟩
  ·rw [List.mem_singleton] at h;subst h;exact ⟨2,rfl,rfl, .inr (.inr (.inr (.inr ⟨by omega,h0,rfl,rfl⟩)))⟩
 ·cases h
theorem Inv.step {D:Sh} (hD:Ok D) {S:WS} {arr:Nat->Prop} (h:Inv D S arr) {a:Nat} (hv:S.vis a=false) {x:Int×WS×Nat} (hx:x∈br D S a):Inv D x.2.1 (fun b=>arr b\/b=x.2.2)/\ ¬arr x.2.2:=by
 obtain ⟨hlt,v,e1,e2,hc⟩:=yik hx
 have hca:=ya2 hlt
 have fa:=h a hlt
 have fc:=h (co a) hca
 unfold Fit at fa fc
 rw [yam,yaw] at fc
 rw [hv] at fa fc
 have hne:=yd0 a
 have i1:D.nx (co a)≠D.nx a:=fun e=>hne (hD.inj _ _ hca hlt e)
 have key: ¬arr x.2.2/\FitP v true (S.vis (co a)) (arr (D.nx a)\/D.nx a=x.2.2) (arr (D.nx (co a))\/D.nx (co a)=x.2.2)/\FitP v (S.vis (co a)) true (arr (D.nx (co a))\/D.nx (co a)=x.2.2) (arr (D.nx a)\/D.nx a=x.2.2):=by
  rcases hc with ⟨q,rfl,hn⟩|⟨q,rfl,hn⟩|⟨q,rfl,hn⟩|⟨q,rfl,hn⟩|⟨q,_,rfl,hn⟩<;>rw [hn]
  ·rw [q,FitP.i2] at fa fc
   have c1:S.vis (co a)=true:=by cases e:S.vis (co a) with
    |true=>rfl
    |false=>rw [e] at fa;exact absurd fa.2 (by decide)
   rw [c1,FitP.i4,FitP.i4]
   exact ⟨fun h=>absurd (fa.1.2 h) (by decide),⟨rfl, .inl (fc.1.1 c1)⟩,rfl, .inr rfl⟩
  ·rw [q,FitP.i3] at fa fc
   have c1:S.vis (co a)=true:=by cases e:S.vis (co a) with
    |true=>rfl
    |false=>rw [e] at fa;exact absurd fa.2 (by decide)
   rw [c1,FitP.i4,FitP.i4]
   exact ⟨fun h=>absurd (fa.1.2 h) (by decide),⟨rfl, .inr rfl⟩,rfl, .inl (fc.1.1 c1)⟩
  ·rw [q,FitP.i0 (.inr rfl)] at fa fc
   rw [fc.1,FitP.i2,FitP.i2]
   exact ⟨fc.2,⟨⟨fun _=> .inr rfl,fun _=>rfl⟩,rfl⟩,⟨fun h=>absurd h (by decide),fun h=>(h.elim fa.2 fun e=>i1 e.symm).elim⟩,rfl⟩
  ·rw [FitP.i0 (.inl q)] at fa fc
   rw [fc.1,FitP.i3,FitP.i3]
   exact ⟨fa.2,⟨⟨fun _=> .inr rfl,fun _=>rfl⟩,rfl⟩,⟨fun h=>absurd h (by decide),fun h=>(h.elim fc.2 fun e=>i1 e).elim⟩,rfl⟩
  ·rw [FitP.i0 (.inl q)] at fa fc
   rw [fc.1,FitP.i2,FitP.i2]
   exact ⟨fc.2,⟨⟨fun _=> .inr rfl,fun _=>rfl⟩,rfl⟩,⟨fun h=>absurd h (by decide),fun h=>(h.elim fa.2 fun e=>i1 e.symm).elim⟩,rfl⟩
 refine ⟨?_,key.1⟩
 ·intro e he
  unfold Fit
  rw [e1,e2]
  by_cases hea:e/2=a/2
  ·rw [hea,yae]
   rcases ybf hea with rfl|rfl
   ·rw [yae,yag _ _ hne];exact key.2.1
   ·rw [yag _ _ hne,yaw,yae];exact key.2.2
  ·have n1:e≠a:=fun e'=>hea (by rw [e'])
   have n2:co e≠a:=fun e'=>hea (by rw [←yam e,e'])
   rw [yag _ _ hea,yag _ _ n1,yag _ _ n2]
   have k1:D.nx e≠x.2.2:=fun e'=>by
    rcases yij hx with hh|hh<;>rw [hh] at e'
    ·exact n1 (hD.inj _ _ he hlt e')
    ·have:=hD.inj _ _ he hca e';rw [this,yam] at hea;exact hea rfl
   have k2:D.nx (co e)≠x.2.2:=fun e'=>by
    rcases yij hx with hh|hh<;>rw [hh] at e'
    ·exact n2 (hD.inj _ _ (ya2 he) hlt e')
    ·have:=hD.inj _ _ (ya2 he) hca e'
     have:=congrArg co this
     rw [yaw,yaw] at this;exact n1 this
   have fe:=h e he
   unfold Fit at fe
   simp only [k1,k2,or_false]
   exact fe
structure Mid (D:Sh) (S:WS) (p q:Nat):Prop where
 inv:Inv D S fun b=>(S.vis b=true/\b≠p)\/b=q
 vp:S.vis p=true
 lq:q<2*D.n
 vq:q=p\/S.vis q=false
def Bd (D:Sh) (S:WS):Prop:=Inv D S fun b=>S.vis b=true
theorem yop {D:Sh} (hD:Ok D) {S:WS} {a:Nat} {x:Int×WS×Nat} (h:x∈br D S a):x.2.2<2*D.n:=by
 have hl:=(ydg h).1
 rcases yij h with e|e<;>rw [e]
 ·exact hD.lt _ hl
 ·exact hD.lt _ (ya2 hl)
theorem Mid.step {D:Sh} (hD:Ok D) {S:WS} {p q:Nat} (h:Mid D S p q) (hq:q≠p) {x:Int×WS×Nat} (hx:x∈br D S q):Mid D x.2.1 p x.2.2:=by
 have hv:S.vis q=false:=h.vq.resolve_left hq
 obtain ⟨h1,h2⟩:=h.inv.step hD hv hx
 have e2:=(ydg hx).2
 refine ⟨h1.congr fun b=>?_,?_,yop hD hx,?_⟩
 ·rw [e2]
  by_cases hb:b=q
  ·subst hb;rw [yae];simp [hq]
  ·rw [yag _ _ hb];simp [hb]
 ·rw [e2,yag _ _ (Ne.symm hq)];exact h.vp
 ·by_cases e:x.2.2=p
  ·exact .inl e
  ·refine .inr ?_
   have hb:x.2.2≠q:=fun e'=>h2 (.inr e')
   rw [e2,yag _ _ hb]
   cases hh:S.vis x.2.2 with
   |false=>rfl
   |true=>exact absurd (.inl ⟨hh,e⟩) h2
theorem Bd.start {D:Sh} (hD:Ok D) {S:WS} (h:Bd D S) {p:Nat} (hv:S.vis p=false) {x:Int×WS×Nat} (hx:x∈br D S p):Mid D x.2.1 p x.2.2:=by
 obtain ⟨h1,h2⟩:=Inv.step hD h hv hx
 have e2:=(ydg hx).2
 refine ⟨h1.congr fun b=>?_,by rw [e2,yae],yop hD hx,?_⟩
 ·rw [e2]
  by_cases hb:b=p
  ·subst hb;rw [yae,hv];simp
  ·rw [yag _ _ hb];simp [hb]
 ·by_cases e:x.2.2=p
  ·exact .inl e
  ·refine .inr ?_
   rw [e2,yag _ _ e]
   cases hh:S.vis x.2.2 with
   |false=>rfl
   |true=>exact absurd hh h2
theorem Mid.close {D:Sh} {S:WS} {p:Nat} (h:Mid D S p p):Bd D S:=h.inv.congr fun b=>by
 by_cases hb:b=p
 ·subst hb;simp [h.vp]
 ·simp [hb]
def ev (q q':Nat):Prop:=q'=q\/q'=4\/(q<=1/\(q'=2\/q'=3))\/(q=5/\q'=2)
structure Ext (S S':WS):Prop where
 vis: ∀a,S.vis a=true->S'.vis a=true
 st: ∀c,ev (S.st c) (S'.st c)
theorem Ext.rfl' (S:WS):Ext S S:=⟨fun _ h=>h,fun _=> .inl rfl⟩
theorem Ext.trans {S S' S'':WS} (h:Ext S S') (k:Ext S' S''):Ext S S'':=⟨fun a ha=>k.vis a (h.vis a ha),fun c=>by
 have h1:=h.st c
 have h2:=k.st c
 unfold ev at*
 omega⟩
theorem yxz {D:Sh} {S:WS} {a:Nat} {x:Int×WS×Nat} (hx:x∈br D S a):Ext S x.2.1:=by
 obtain ⟨hlt,v,e1,e2,hc⟩:=yik hx
 refine ⟨fun b hb=>?_,fun c=>?_⟩
 ·rw [e2];unfold upd;split
  ·rfl
  ·exact hb
 ·rw [e1];unfold upd;split
  ·rename_i h;subst h;unfold ev;omega
  ·exact .inl rfl
theorem yus {D:Sh} (hD:Ok D) {S:WS} {p:Nat} {k k':WS->Int} (J:WS->Nat->Prop) (hB:Bd D S) (hv:S.vis p=false)
  (h0: ∀x∈br D S p,J x.2.1 x.2.2) (hJ: ∀S' b,Mid D S' p b->Ext S S'->J S' b->b≠p-> ∀x∈br D S' b,J x.2.1 x.2.2)
  (hk: ∀S',Bd D S'->Ext S S'->S'.vis p=true->J S' p->k S'=k' S'):wk1 D S p k=wk1 D S p k':=by
 unfold wk1
 refine ybd fun x hx=>yf9 (fun S' b=>Mid D S' p b/\Ext S S'/\J S' b) ?_ ?_ ⟨hB.start hD hv hx,yxz hx,h0 x hx⟩
 ·intro S' b ⟨h1,h2,h3⟩ hs hv' y hy
  have hb:b≠p:=fun e=>by rw [e,yay] at hs;cases hs
  exact ⟨h1.step hD hb hy,h2.trans (yxz hy),hJ S' b h1 h2 h3 hb y hy⟩
 ·intro S' b ⟨h1,h2,h3⟩ hs
  have hb:b=p:=by simpa [eqE] using hs
  subst hb
  exact hk S' h1.close h2 h1.vp h3
theorem yn3 {D:Sh} (hD:Ok D) {S:WS} {p:Nat} {k k':WS->Int} (hB:Bd D S) (hv:S.vis p=false) (hk: ∀S',Bd D S'->Ext S S'->S'.vis p=true->k S'=k' S'):wk1 D S p k=wk1 D S p k':=
 yus hD (fun _ _=>True) hB hv (fun _ _=>trivial) (fun _ _ _ _ _ _ _ _=>trivial) fun S' h1 h2 h3 _=>hk S' h1 h2 h3
theorem Bd.sc {D:Sh} {S:WS} (h:Bd D S) (u v:Int):Bd D (S.sc u v):=h
theorem Bd.cr {D:Sh} {S:WS} (h:Bd D S):Bd D S.cr:=h
theorem yjc {D:Sh} {X:Int->Int->Nat->Int} (u v:Int): ∀(B:List Nat) (S:WS),run X D B (S.sc u v)=run (fun i j k=>X (i+u) (j+v) k) D B S
 |[],S=>rfl
 |a::r,S=>by
  simp only [run]
  show (if S.vis a=true then _ else _)=_
  split
  ·exact yjc u v r S
  ·rw [WS.sc_cr,ymk]
   congr 1
   exact funext fun S=>yjc u v r S
def Lt (D:Sh) (a:Nat) (e:Int) (k:WS->Int) (S:WS):Int:=if S.vis a=true then k S else k (S.sc (2*e) 0)+e*wk1 D (S.sc e 1) a k
theorem yce {D:Sh} {a:Nat} {e:Int} {k:WS->Int} {S:WS} (h:S.vis a=true):Lt D a e k S=k S:=if_pos h
theorem ycq {D:Sh} {a:Nat} {e:Int} {k:WS->Int} {S:WS} (h:S.vis a=false):Lt D a e k S=k (S.sc (2*e) 0)+e*wk1 D (S.sc e 1) a k:=if_neg (by simp [h])
theorem ydu {D:Sh} (hD:Ok D) {a:Nat} {e:Int} {k k':WS->Int} {S:WS} (hB:Bd D S) (hk: ∀S',Bd D S'->Ext S S'->k S'=k' S'):Lt D a e k S=Lt D a e k' S:=by
 unfold Lt
 split
 ·exact hk S hB (.rfl' S)
 ·rename_i h
  have h1:k (S.sc (2*e) 0)=k' (S.sc (2*e) 0):=hk _ (hB.sc _ _) ⟨fun _ h=>h,fun _=> .inl rfl⟩
  rw [h1,yn3 hD (S:=S.sc e 1) (hB.sc _ _) (show S.vis a=false by simpa using h) fun S' hB' hE _=>hk S' hB' ⟨hE.vis,hE.st⟩]
theorem y6a {D:Sh} (hD:Ok D) {a:Nat} {e:Int} (he:e=1\/e= -1) {k:WS->Int} {S:WS} (hB:Bd D S):Lt D a e (Lt D a (-e) k) S=k S:=by
 cases hv:S.vis a with
 |true=>rw [yce hv,yce hv]
 |false=>
  have hv': ∀u v,(S.sc u v).vis a=false:=fun _ _=>hv
  rw [ycq hv,ycq (hv' _ _),WS.sc_sc,WS.sc_sc]
  rw [yn3 hD (k':=k) (hB.sc _ _) (hv' _ _) fun S' _ _ h=>yce h]
  have e1:2*e+2* -e=0:=by omega
  have e2:2*e+ -e=e:=by omega
  rw [e1,e2,Int.add_zero,WS.sc_zero,Int.zero_add,Int.neg_mul]
  omega
end Hs
end Go.Proofs.YtjpnnnognoaaiaaGreatDoor
namespace Go.Proofs.YtjpnnnognoaaiaaGreatDoor
set_option linter.unusedSimpArgs false
set_option linter.unusedVariables false
namespace Hs
def atx (x:Nat):Nat->Bool:=fun c=>decide (c/2=x)
theorem y1r {x c:Nat} (h:c/2=x):atx x c=true:=by unfold atx;exact decide_eq_true h
theorem y7t {x c:Nat} (h:c/2≠x):atx x c=false:=by unfold atx;exact decide_eq_false h
theorem y1s {x c:Nat} (h:atx x c=true):c/2=x:=by unfold atx at h;exact of_decide_eq_true h
theorem y7u {x c:Nat} (h:atx x c=false):c/2≠x:=by unfold atx at h;exact of_decide_eq_false h
structure Arr (D:Sh) (x:Nat) (S:WS) (d:Nat) (S':WS) (c:Nat):Prop where
 at':c/2=x
 v: ∀a,a/2=x->S'.vis a=S.vis a
 st:S'.st x=S.st x
 dd:c=d\/S'.vis d=true
 oth: ∀e,e<2*D.n->e/2=x->D.nx e≠d->c≠D.nx e/\S'.vis (D.nx e)=S.vis (D.nx e)
theorem W_at {D:Sh} (hD:Ok D) {x:Nat} {S:WS} {d:Nat} {K K':WS->Nat->Int} (h: ∀S' c,Arr D x S d S' c->K S' c=K' S' c):W D (atx x) S d K=W D (atx x) S d K':=by
 refine yf9 (fun S' c=>(∀a,a/2=x->S'.vis a=S.vis a)/\S'.st x=S.st x/\(c=d\/S'.vis d=true)/\(∀e,e<2*D.n->e/2=x->D.nx e≠d->c≠D.nx e/\S'.vis (D.nx e)=S.vis (D.nx e))) ?_ ?_ ⟨fun _ _=>rfl,rfl, .inl rfl,fun e _ _ hn=>⟨Ne.symm hn,rfl⟩⟩
 ·intro S' c ⟨h1,h2,h3,h4⟩ hs hv y hy
  have hc:=y7u hs
  obtain ⟨hlt,v,e1,e2,_⟩:=yik hy
  rw [e1,e2]
  refine ⟨fun a ha=>?_,?_,?_,fun e he hex hn=>?_⟩
  ·rw [yag _ _ fun e=>hc (by rw [←e];exact ha)];exact h1 a ha
  ·rw [yag _ _ (Ne.symm hc)];exact h2
  ·by_cases hd:c=d
   ·right;rw [←hd,yae]
   ·right;rw [yag _ _ (Ne.symm hd)];exact h3.resolve_left hd
  ·obtain ⟨h5,h6⟩:=h4 e he hex hn
   refine ⟨fun e'=>?_,by rw [yag _ _ (Ne.symm h5)];exact h6⟩
   rcases yij hy with hh|hh<;>rw [hh] at e'
   ·have:=hD.inj _ _ hlt he e';rw [this] at hc;exact hc hex
   ·have:=hD.inj _ _ (ya2 hlt) he e';rw [←this,yam] at hex;exact hc hex
 ·intro S' c ⟨h1,h2,h3,h4⟩ hs
  exact h S' c ⟨y1s hs,h1,h2,h3,h4⟩
def stp (D:Sh) (S:WS) (c:Nat) (F:WS->Nat->Int):Int:=if S.vis c=true then 0 else sumB (br D S c) F
theorem yf4 {D:Sh} {S:WS} {c:Nat} {F:WS->Nat->Int} (h:S.vis c=true):stp D S c F=0:=if_pos h
theorem yej {D:Sh} {S:WS} {c p:Nat} {k:WS->Nat->Int} (h:c≠p):W D (eqE p) S c k=stp D S c fun S d=>W D (eqE p) S d k:=by
 rw [W_eq,if_neg (by simp [ycw h])];rfl
theorem yek {D:Sh} (hD:Ok D) {x p d:Nat} {S:WS} {k:WS->Nat->Int} (hp:p/2=x\/ ∃e,e<2*D.n/\e/2=x/\D.nx e=p) (hd:d≠p\/p/2=x):W D (eqE p) S d k=W D (atx x) S d fun S' c=>W D (eqE p) S' c k:=by
 rw [yqn (s1:=eqX p x) (fun b h=>by unfold eqE at h;simp [eqX,h])]
 refine Wsim (fun S c S' c'=>S=S'/\c=c'/\(c=p->c/2=x)) ?_ _ _ _ _ ⟨rfl,rfl,fun e=>?_⟩
 ·intro S c S' c' ⟨e1,e2,h3⟩
  subst e1 e2
  refine ⟨?_,fun _=>rfl,fun hs=>⟨rfl,fun hv=>BR.refl' fun y hy=>⟨rfl,rfl,fun e=>?_⟩⟩⟩
  ·unfold eqX atx
   by_cases h:c=p
   ·simp [h3 h]
   ·simp [h]
  ·have hc:c/2≠x:=fun e'=>by simp [eqX,e'] at hs
   have hl:=(ydg hy).1
   rcases hp with hp|⟨e0,h0,h1,h2⟩
   ·rw [e];exact hp
   ·exfalso
    rw [←h2] at e
    rcases yij hy with hh|hh<;>rw [hh] at e
    ·have:=hD.inj _ _ hl h0 e;rw [this] at hc;exact hc h1
    ·have:=hD.inj _ _ (ya2 hl) h0 e;rw [←this,yam] at h1;exact hc h1
 ·rcases hd with hd|hd
  ·exact absurd e hd
  ·rw [e];exact hd
theorem yjd {D:Sh} (hD:Ok D) {x b:Nat} {S:WS} {k:WS->Int} (hb: ∃e,e<2*D.n/\e/2=x/\D.nx e=b) (hv:S.vis b=false):wk1 D S b k=W D (atx x) S b fun S' c=>stp D S' c fun S'' d=>W D (eqE b) S'' d fun S _=>k S:=by
 by_cases hx:b/2=x
 ·rw [yat (y1r hx)]
  unfold stp wk1
  rw [if_neg (by simp [hv])]
 ·rw [W_go (y7t hx) hv]
  unfold wk1
  refine ybd fun y hy=>?_
  have hl:=(ydg hy).1
  have hd:y.2.2≠b:=fun e=>by
   obtain ⟨e0,h0,h1,h2⟩:=hb
   rw [←h2] at e
   rcases yij hy with hh|hh<;>rw [hh] at e
   ·have:=hD.inj _ _ hl h0 e;rw [this] at hx;exact hx h1
   ·have:=hD.inj _ _ (ya2 hl) h0 e;rw [←this,yam] at h1;exact hx h1
  rw [yek hD (.inr hb) (.inl hd)]
  refine yf9 (fun _ _=>True) (fun _ _ _ _ _ _ _=>trivial) (fun S c _ hs=>?_) trivial
  exact yej fun e=>hx (by rw [←e];exact y1s hs)
theorem yb4 {x:Nat} {f:WS->WS} (h:Loc x f) {D:Sh} {k:WS->Nat->Int} (S:WS) (a:Nat):W D (atx x) (f S) a k=W D (atx x) S a fun S b=>k (f S) b:=h.W (fun a h=>y1r h) S a
theorem yj2 (T:WS) {a b:Nat} (v w z:Nat) (h:a/2=b/2):(T.mk' a v).mk' b z=(T.mk' b w).mk' a z:=by
 unfold WS.mk'
 rw [h]
 simp only [ys6,WS.mk.injEq,and_true,true_and]
 by_cases e:a=b
 ·rw [e]
 ·exact yif _ _ _ e
theorem yd1 {T:WS} {a x v:Nat} (h:a/2=x):(T.mk' a v).st x=v:=by unfold WS.mk';rw [←h];exact yae _ _ _
theorem ybc (T:WS) (a v:Nat):(T.mk' a v).vis a=true:=yae _ _ _
theorem yaf (T:WS) {a b v:Nat} (h:b≠a):(T.mk' a v).vis b=T.vis b:=yag _ _ h
theorem br_3 {D:Sh} {S:WS} {c:Nat} (hl:c<2*D.n) (h:S.st (c/2)=3):br D S c=[(1,S.mk' c 4,D.nx c)]:=by
 unfold br;rw [if_neg (by omega),if_neg (by omega),if_pos h]
theorem br_2 {D:Sh} {S:WS} {c:Nat} (hl:c<2*D.n) (h:S.st (c/2)=2):br D S c=[(1,S.mk' c 4,D.nx (co c))]:=by
 unfold br;rw [if_neg (by omega),if_pos h]
theorem br_5 {D:Sh} {S:WS} {c:Nat} (hl:c<2*D.n) (h:S.st (c/2)=5):br D S c=[(1,S.mk' c 2,D.nx (co c))]:=by
 unfold br;rw [if_neg (by omega),if_neg (by omega),if_neg (by omega),if_pos h]
theorem br_o {D:Sh} {S:WS} {c:Nat} (hl:c<2*D.n) (h:S.st (c/2)=c % 2):br D S c=[(1,S.mk' c 3,D.nx c)]:=by
 unfold br;rw [if_neg (by omega),if_neg (by omega),if_neg (by omega),if_neg (by omega),if_pos h]
theorem br_u {D:Sh} {S:WS} {c:Nat} (hl:c<2*D.n) (h:S.st (c/2)=1-c % 2):br D S c=[(1,(S.mk' c 3).sc (2*sgn D (S.st (c/2)) (c/2)) 0,D.nx c),(sgn D (S.st (c/2)) (c/2),(S.mk' c 2).sc (sgn D (S.st (c/2)) (c/2)) 1,D.nx (co c))]:=by
 unfold br;rw [if_neg (by omega),if_neg (by omega),if_neg (by omega),if_neg (by omega),if_neg (by omega),if_pos h]
theorem ycf (S:WS) (a:Nat) (F:WS->Nat->Int):sumB [(1,S,a)] F=F S a:=by simp [sumB]
theorem yqp (S S':WS) (a a':Nat) (c:Int) (F:WS->Nat->Int):sumB [(1,S,a),(c,S',a')] F=F S a+c*F S' a':=by simp [sumB]
theorem yd2 {D:Sh} {S S':WS} {c d:Nat} {F:WS->Nat->Int} (h:S.vis c=false) (hb:br D S c=[(1,S',d)]):stp D S c F=F S' d:=by
 unfold stp;rw [if_neg (by simp [h]),hb,ycf]
section
variable {D:Sh} {x:Nat} {S:WS} {k:WS->Int}
theorem y1t (hD:Ok D) {a:Nat} (ha:a/2=x) (hl:a<2*D.n) (hst:S.st x=3) (h1:S.vis a=false) (h2:S.vis (co a)=true):wk1 D S a k=W D (atx x) S (D.nx a) fun S' c=>if c=a then k (S'.mk' a 4) else 0:=by
 unfold wk1
 rw [br_3 hl (by rw [ha];exact hst),ycf,yek hD (.inl ha) (.inr ha),yb4 (Loc.mkL 4 ha)]
 refine W_at hD fun S' c hA=>?_
 by_cases hc:c=a
 ·rw [if_pos hc,hc,yat (yay a)]
 ·rw [if_neg hc,yej hc]
  have e:c=co a:=(ybf (hA.at'.trans ha.symm)).resolve_left hc
  refine yf4 ?_
  rw [yaf _ hc,hA.v c hA.at',e];exact h2
theorem yx0 (hD:Ok D) {a:Nat} (ha:a/2=x) (hl:a<2*D.n) (hst:S.st x=3) (h1:S.vis a=false) (h2:S.vis (co a)=true) (h3:S.vis (D.nx a)=false):wk1 D S (D.nx a) k=W D (atx x) S (D.nx a) fun S' c=>if c=a then k (S'.mk' a 4) else 0:=by
 rw [yjd (x:=x) hD ⟨a,hl,ha,rfl⟩ h3]
 refine W_at hD fun S' c hA=>?_
 by_cases hc:c=a
 ·rw [if_pos hc,hc,yd2 (by rw [hA.v a ha];exact h1) (br_3 hl (by rw [ha,hA.st];exact hst)),yat (yay _)]
 ·rw [if_neg hc]
  have e:c=co a:=(ybf (hA.at'.trans ha.symm)).resolve_left hc
  refine yf4 ?_
  rw [hA.v c hA.at',e];exact h2
theorem y7v (hD:Ok D) {a:Nat} (ha:a/2=x) (hl:a<2*D.n) (hst:S.st x=2) (h1:S.vis a=false) (h2:S.vis (co a)=true):wk1 D S a k=W D (atx x) S (D.nx (co a)) fun S' c=>if c=a then k (S'.mk' a 4) else 0:=by
 unfold wk1
 rw [br_2 hl (by rw [ha];exact hst),ycf,yek hD (.inl ha) (.inr ha),yb4 (Loc.mkL 4 ha)]
 refine W_at hD fun S' c hA=>?_
 by_cases hc:c=a
 ·rw [if_pos hc,hc,yat (yay a)]
 ·rw [if_neg hc,yej hc]
  have e:c=co a:=(ybf (hA.at'.trans ha.symm)).resolve_left hc
  refine yf4 ?_
  rw [yaf _ hc,hA.v c hA.at',e];exact h2
theorem y6b (hD:Ok D) {a:Nat} (ha:a/2=x) (hl:a<2*D.n) (hst:S.st x=2) (h1:S.vis a=false) (h2:S.vis (co a)=true) (h3:S.vis (D.nx (co a))=false):wk1 D S (D.nx (co a)) k=W D (atx x) S (D.nx (co a)) fun S' c=>if c=a then k (S'.mk' a 4) else 0:=by
 rw [yjd (x:=x) hD ⟨co a,ya2 hl,(yam a).trans ha,rfl⟩ h3]
 refine W_at hD fun S' c hA=>?_
 by_cases hc:c=a
 ·rw [if_pos hc,hc,yd2 (by rw [hA.v a ha];exact h1) (br_2 hl (by rw [ha,hA.st];exact hst)),yat (yay _)]
 ·rw [if_neg hc]
  have e:c=co a:=(ybf (hA.at'.trans ha.symm)).resolve_left hc
  refine yf4 ?_
  rw [hA.v c hA.at',e];exact h2
theorem y7w (hD:Ok D) {a:Nat} (ha:a/2=x) (hl:a<2*D.n) (hst:S.st x=5) (h1:S.vis a=false) (h2:S.vis (co a)=false):wk1 D S a k=W D (atx x) S (D.nx (co a)) fun S' c=>if c=a then k (S'.mk' a 2) else W D (atx x) ((S'.mk' a 2).mk' (co a) 4) (D.nx a) fun S'' c'=>if c'=a then k S'' else 0:=by
 have hca:co a/2=x:=by rw [yam];exact ha
 have hcl:=ya2 hl
 unfold wk1
 rw [br_5 hl (by rw [ha];exact hst),ycf,yek hD (.inl ha) (.inr ha),yb4 (Loc.mkL 2 ha)]
 refine W_at hD fun S' c hA=>?_
 by_cases hc:c=a
 ·rw [if_pos hc,hc,yat (yay a)]
 ·rw [if_neg hc,yej hc]
  have e:c=co a:=(ybf (hA.at'.trans ha.symm)).resolve_left hc
  subst e
  rw [yd2 (by rw [yaf _ hc,hA.v _ hA.at'];exact h2) (br_2 hcl (by rw [hca,yd1 ha])),yaw,yek hD (.inl ha) (.inr ha)]
  refine W_at hD fun S'' c' hA'=>?_
  by_cases hc':c'=a
  ·rw [if_pos hc',hc',yat (yay a)]
  ·rw [if_neg hc',yej hc']
   have e:c'=co a:=(ybf (hA'.at'.trans ha.symm)).resolve_left hc'
   refine yf4 ?_
   rw [hA'.v c' hA'.at',e];exact ybc _ _ _
theorem y6c (hD:Ok D) {a:Nat} (ha:a/2=x) (hl:a<2*D.n) (hst:S.st x=5) (h1:S.vis a=false) (h2:S.vis (co a)=false) (h3:S.vis (D.nx (co a))=false):wk1 D S (D.nx (co a)) k=W D (atx x) S (D.nx (co a)) fun S' c=>if c=a then k (S'.mk' a 2) else W D (atx x) ((S'.mk' a 2).mk' (co a) 4) (D.nx a) fun S'' c'=>if c'=a then k S'' else 0:=by
 have hca:co a/2=x:=by rw [yam];exact ha
 have hcl:=ya2 hl
 have hne:D.nx a≠D.nx (co a):=fun e=>yd0 a (hD.inj _ _ hl hcl e).symm
 rw [yjd (x:=x) hD ⟨co a,hcl,hca,rfl⟩ h3]
 refine W_at hD fun S' c hA=>?_
 by_cases hc:c=a
 ·rw [if_pos hc,hc,yd2 (by rw [hA.v a ha];exact h1) (br_5 hl (by rw [ha,hA.st];exact hst)),yat (yay _)]
 ·rw [if_neg hc]
  have e:c=co a:=(ybf (hA.at'.trans ha.symm)).resolve_left hc
  subst e
  rw [yd2 (by rw [hA.v _ hA.at'];exact h2) (br_5 hcl (by rw [hca,hA.st];exact hst)),yaw,yek hD (.inr ⟨co a,hcl,hca,rfl⟩) (.inl hne)]
  rw [yb4 (Loc.mkL 2 hca),yb4 ((Loc.mkL 4 hca).comp (Loc.mkL 2 ha))]
  refine W_at hD fun S'' c' hA'=>?_
  have n1:=(hA'.oth (co a) hcl hca (Ne.symm hne)).1
  rw [yej n1]
  by_cases hc':c'=a
  ·rw [if_pos hc',hc',yd2 (by rw [yaf _ (Ne.symm (yd0 a)),hA'.v a ha,hA.v a ha];exact h1) (br_2 hl (by rw [ha,yd1 hca])),yat (yay _),yj2 _ 2 2 4 (by rw [hca,ha])]
  ·rw [if_neg hc']
   have e:c'=co a:=(ybf (hA'.at'.trans ha.symm)).resolve_left hc'
   rw [e]
   exact yf4 (ybc _ _ _)
end
theorem ym4 {D:Sh} (hD:Ok D) {a:Nat} {e:Int} {k:WS->Int} {S:WS} (hB:Bd D S) (hl:a<2*D.n) (h:S.st (a/2)=3\/S.st (a/2)=4):Lt D a e k S=Lt D (D.nx a) e k S:=by
 have f:=hB a hl
 unfold Fit at f
 cases hv:S.vis a with
 |true=>
  have:S.vis (D.nx a)=true:=by
   rcases h with h|h<;>rw [h] at f
   ·exact (FitP.i3.1 f).1.1 hv
   ·exact (FitP.i4.1 f).2
  rw [yce hv,yce this]
 |false=>
  rcases h with h|h<;>rw [h] at f
  ·obtain ⟨f1,f2⟩:=FitP.i3.1 f
   have h3:S.vis (D.nx a)=false:=by
    cases e:S.vis (D.nx a) with
    |false=>rfl
    |true=>rw [f1.2 e] at hv;cases hv
   have h2:S.vis (co a)=true:=by
    cases e:S.vis (co a) with
    |true=>rfl
    |false=>rw [hv,e] at f2;exact absurd f2 (by decide)
   rw [ycq hv,ycq h3,y1t (S:=S.sc e 1) hD rfl hl h hv h2,yx0 (S:=S.sc e 1) hD rfl hl h hv h2 h3]
  ·rw [(FitP.i4.1 f).1] at hv;cases hv
theorem yn4 {D:Sh} (hD:Ok D) {a:Nat} {e:Int} {k:WS->Int} {S:WS} (hB:Bd D S) (hl:a<2*D.n) (h:S.st (a/2)=2\/S.st (a/2)=4\/S.st (a/2)=5):Lt D a e k S=Lt D (D.nx (co a)) e k S:=by
 have f:=hB a hl
 have f':=hB (co a) (ya2 hl)
 unfold Fit at f f'
 rw [yam,yaw] at f'
 cases hv:S.vis a with
 |true=>
  have:S.vis (D.nx (co a))=true:=by
   rcases h with h|h|h<;>rw [h] at f f'
   ·exact (FitP.i2.1 f).1.1 hv
   ·exact (FitP.i4.1 f').2
   ·rw [((FitP.i0 (.inr rfl)).1 f).1] at hv;cases hv
  rw [yce hv,yce this]
 |false=>
  rcases h with h|h|h<;>rw [h] at f f'
  ·obtain ⟨f1,f2⟩:=FitP.i2.1 f
   have h3:S.vis (D.nx (co a))=false:=by
    cases e:S.vis (D.nx (co a)) with
    |false=>rfl
    |true=>rw [f1.2 e] at hv;cases hv
   have h2:S.vis (co a)=true:=by
    cases e:S.vis (co a) with
    |true=>rfl
    |false=>rw [hv,e] at f2;exact absurd f2 (by decide)
   rw [ycq hv,ycq h3,y7v (S:=S.sc e 1) hD rfl hl h hv h2,y6b (S:=S.sc e 1) hD rfl hl h hv h2 h3]
  ·rw [(FitP.i4.1 f).1] at hv;cases hv
  ·obtain ⟨g1,g2⟩:=(FitP.i0 (.inr rfl)).1 f'
   have h3:S.vis (D.nx (co a))=false:=by simpa using g2
   rw [ycq hv,ycq h3,y7w (S:=S.sc e 1) hD rfl hl h hv g1,y6c (S:=S.sc e 1) hD rfl hl h hv g1 h3]
end Hs
end Go.Proofs.YtjpnnnognoaaiaaGreatDoor
