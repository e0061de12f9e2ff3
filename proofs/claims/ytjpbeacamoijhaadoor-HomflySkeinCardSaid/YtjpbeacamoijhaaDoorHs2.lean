/- Plain: what holds along the walker's way; letters. -/
import Derived.Test.YtjpbeacamoijhaaDoorHs1
namespace Go.Proofs.YtjpbeacamoijhaaDoor
set_option linter.unusedSimpArgs false
set_option linter.unusedVariables false
namespace Hs
structure Ok (D:Sh):Prop where
 lt: ∀a,a<2*D.n->D.nx a<2*D.n
 inj: ∀a b,a<2*D.n->b<2*D.n->D.nx a=D.nx b->a=b
 sg: ∀c,c<D.n->D.sg c=1\/D.sg c= -1
def FitP (q:Nat) (va vc:Bool) (A C:Prop):Prop:=
 ((q<=1\/q=5)/\va=false/\ ¬A)\/(q=4/\va=true/\A)\/(q=3/\(va=true↔A)/\va= !vc)\/(q=2/\(va=true↔C)/\va= !vc)
theorem FitP.i0 {q:Nat} {va vc:Bool} {A C:Prop} (hq:q<=1\/q=5):FitP q va vc A C↔va=false/\ ¬A:=by
 unfold FitP
 constructor
 ·rintro (⟨_,h⟩|⟨h,_⟩|⟨h,_⟩|⟨h,_⟩)
  ·exact h
  all_goals omega
 ·exact fun h=> .inl ⟨hq,h⟩
theorem FitP.i4 {va vc:Bool} {A C:Prop}:FitP 4 va vc A C↔va=true/\A:=by
 unfold FitP
 constructor
 ·rintro (⟨h,_⟩|⟨_,h⟩|⟨h,_⟩|⟨h,_⟩)
  ·omega
  ·exact h
  all_goals omega
 ·exact fun h=> .inr (.inl ⟨rfl,h⟩)
theorem FitP.i3 {va vc:Bool} {A C:Prop}:FitP 3 va vc A C↔(va=true↔A)/\va= !vc:=by
 unfold FitP
 constructor
 ·rintro (⟨h,_⟩|⟨h,_⟩|⟨_,h⟩|⟨h,_⟩)
  ·omega
  ·omega
  ·exact h
  ·omega
 ·exact fun h=> .inr (.inr (.inl ⟨rfl,h⟩))
theorem FitP.i2 {va vc:Bool} {A C:Prop}:FitP 2 va vc A C↔(va=true↔C)/\va= !vc:=by
 unfold FitP
 constructor
 ·rintro (⟨h,_⟩|⟨h,_⟩|⟨h,_⟩|⟨_,h⟩)
  ·omega
  ·omega
  ·omega
  ·exact h
 ·exact fun h=> .inr (.inr (.inr ⟨rfl,h⟩))
def Fit (D:Sh) (S:WS) (arr:Nat->Prop) (a:Nat):Prop:=FitP (S.st (a/2)) (S.vis a) (S.vis (co a)) (arr (D.nx a)) (arr (D.nx (co a)))
def Inv (D:Sh) (S:WS) (arr:Nat->Prop):Prop:= ∀a,a<2*D.n->Fit D S arr a
theorem Inv.congr {D:Sh} {S:WS} {arr arr':Nat->Prop} (h:Inv D S arr) (he: ∀b,arr b↔arr' b):Inv D S arr':=fun a ha=>by
 have:arr=arr':=funext fun b=>propext (he b)
 rw [←this];exact h a ha
theorem yiw {D:Sh} {S:WS} {a:Nat} {x:Int×WS×Nat} (h:x∈br D S a):x.2.2=D.nx a\/x.2.2=D.nx (co a):=by
 unfold br at h
 split at h
 ·cases h
 split at h
 ·rw [List.mem_singleton] at h;subst h;exact .inr rfl
 split at h
 ·rw [List.mem_singleton] at h;subst h;exact .inl rfl
 split at h
 ·rw [List.mem_singleton] at h;subst h;exact .inr rfl
 split at h
 ·rw [List.mem_singleton] at h;subst h;exact .inl rfl
 split at h
 ·rcases List.mem_cons.1 h with h|h
  ·subst h;exact .inl rfl
  ·rw [List.mem_singleton] at h;subst h;exact .inr rfl
 ·cases h
theorem yix {D:Sh} {S:WS} {a:Nat} {x:Int×WS×Nat} (h:x∈br D S a):a<2*D.n/\ ∃v,x.2.1.st=upd S.st (a/2) v/\x.2.1.vis=upd S.vis a true/\
  ((S.st (a/2)=2/\v=4/\x.2.2=D.nx (co a))\/(S.st (a/2)=3/\v=4/\x.2.2=D.nx a)\/(S.st (a/2)=5/\v=2/\x.2.2=D.nx (co a))\/(S.st (a/2)<=1/\v=3/\x.2.2=D.nx a)\/(S.st (a/2)<=1/\S.st (a/2)≠a % 2/\v=2/\x.2.2=D.nx (co a))):=by
 unfold br at h
 split at h
 ·cases h
 refine ⟨by omega,?_⟩
 split at h
 ·rename_i h1;rw [List.mem_singleton] at h;subst h;exact ⟨4,rfl,rfl, .inl ⟨h1,rfl,rfl⟩⟩
 split at h
 ·rename_i h1;rw [List.mem_singleton] at h;subst h;exact ⟨4,rfl,rfl, .inr (.inl ⟨h1,rfl,rfl⟩)⟩
 split at h
 ·rename_i h1;rw [List.mem_singleton] at h;subst h;exact ⟨2,rfl,rfl, .inr (.inr (.inl ⟨h1,rfl,rfl⟩))⟩
 split at h
 ·rename_i h1;rw [List.mem_singleton] at h;subst h;exact ⟨3,rfl,rfl, .inr (.inr (.inr (.inl ⟨by omega,rfl,rfl⟩)))⟩
 split at h
 ·rename_i h0 h1
  rcases List.mem_cons.1 h with h|h
  ·subst h;exact ⟨3,rfl,rfl, .inr (.inr (.inr (.inl ⟨by omega,rfl,rfl⟩)))⟩
  ·rw [List.mem_singleton] at h;subst h;exact ⟨2,rfl,rfl, .inr (.inr (.inr (.inr ⟨by omega,h0,rfl,rfl⟩)))⟩
 ·cases h
theorem Inv.step {D:Sh} (hD:Ok D) {S:WS} {arr:Nat->Prop} (h:Inv D S arr) {a:Nat} (hv:S.vis a=false) {x:Int×WS×Nat} (hx:x∈br D S a):Inv D x.2.1 (fun b=>arr b\/b=x.2.2)/\ ¬arr x.2.2:=by
 obtain ⟨hlt,v,e1,e2,hc⟩:=yix hx
 have hca:=ya4 hlt
 have fa:=h a hlt
 have fc:=h (co a) hca
 unfold Fit at fa fc
 rw [yao,yax] at fc
 rw [hv] at fa fc
 have hne:=ycw a
 have i1:D.nx (co a)≠D.nx a:=fun e=>hne (hD.inj _ _ hca hlt e)
 have key: ¬arr x.2.2/\FitP v true (S.vis (co a)) (arr (D.nx a)\/D.nx a=x.2.2) (arr (D.nx (co a))\/D.nx (co a)=x.2.2)/\FitP v (S.vis (co a)) true (arr (D.nx (co a))\/D.nx (co a)=x.2.2) (arr (D.nx a)\/D.nx a=x.2.2):=by
  rcases hc with ⟨q,rfl,hn⟩|⟨q,rfl,hn⟩|⟨q,rfl,hn⟩|⟨q,rfl,hn⟩|⟨q,_,rfl,hn⟩<;>rw [hn]
  ·rw [q,FitP.i2] at fa fc
   have c1:S.vis (co a)=true:=by cases e:S.vis (co a) with
    |true=>rfl
    |false=>rw [e] at fa;exact absurd fa.2 (by decide)
   rw [c1,FitP.i4,FitP.i4]
   exact ⟨fun h=>absurd (fa.1.2 h) (by decide),⟨rfl, .inl (fc.1.1 c1)⟩,rfl, .inr rfl⟩
  ·rw [q,FitP.i3] at fa fc
   have c1:S.vis (co a)=true:=by cases e:S.vis (co a) with
    |true=>rfl
    |false=>rw [e] at fa;exact absurd fa.2 (by decide)
   rw [c1,FitP.i4,FitP.i4]
   exact ⟨fun h=>absurd (fa.1.2 h) (by decide),⟨rfl, .inr rfl⟩,rfl, .inl (fc.1.1 c1)⟩
  ·rw [q,FitP.i0 (.inr rfl)] at fa fc
   rw [fc.1,FitP.i2,FitP.i2]
   exact ⟨fc.2,⟨⟨fun _=> .inr rfl,fun _=>rfl⟩,rfl⟩,⟨fun h=>absurd h (by decide),fun h=>(h.elim fa.2 fun e=>i1 e.symm).elim⟩,rfl⟩
  ·rw [FitP.i0 (.inl q)] at fa fc
   rw [fc.1,FitP.i3,FitP.i3]
   exact ⟨fa.2,⟨⟨fun _=> .inr rfl,fun _=>rfl⟩,rfl⟩,⟨fun h=>absurd h (by decide),fun h=>(h.elim fc.2 fun e=>i1 e).elim⟩,rfl⟩
  ·rw [FitP.i0 (.inl q)] at fa fc
   rw [fc.1,FitP.i2,FitP.i2]
   exact ⟨fc.2,⟨⟨fun _=> .inr rfl,fun _=>rfl⟩,rfl⟩,⟨fun h=>absurd h (by decide),fun h=>(h.elim fa.2 fun e=>i1 e.symm).elim⟩,rfl⟩
 refine ⟨?_,key.1⟩
 ·intro e he
  unfold Fit
  rw [e1,e2]
  by_cases hea:e/2=a/2
  ·rw [hea,yac]
   rcases ybi hea with rfl|rfl
   ·rw [yac,yae _ _ hne];exact key.2.1
   ·rw [yae _ _ hne,yax,yac];exact key.2.2
  ·have n1:e≠a:=fun e'=>hea (by rw [e'])
   have n2:co e≠a:=fun e'=>hea (by rw [←yao e,e'])
   rw [yae _ _ hea,yae _ _ n1,yae _ _ n2]
   have k1:D.nx e≠x.2.2:=fun e'=>by
    rcases yiw hx with hh|hh<;>rw [hh] at e'
    ·exact n1 (hD.inj _ _ he hlt e')
    ·have:=hD.inj _ _ he hca e';rw [this,yao] at hea;exact hea rfl
   have k2:D.nx (co e)≠x.2.2:=fun e'=>by
    rcases yiw hx with hh|hh<;>rw [hh] at e'
    ·exact n2 (hD.inj _ _ (ya4 he) hlt e')
    ·have:=hD.inj _ _ (ya4 he) hca e'
     have:=congrArg co this
     rw [yax,yax] at this;exact n1 this
   have fe:=h e he
   unfold Fit at fe
   simp only [k1,k2,or_false]
   exact fe
structure Mid (D:Sh) (S:WS) (p q:Nat):Prop where
 inv:Inv D S fun b=>(S.vis b=true/\b≠p)\/b=q
 vp:S.vis p=true
 lq:q<2*D.n
 vq:q=p\/S.vis q=false
def Bd (D:Sh) (S:WS):Prop:=Inv D S fun b=>S.vis b=true
theorem ypy {D:Sh} (hD:Ok D) {S:WS} {a:Nat} {x:Int×WS×Nat} (h:x∈br D S a):x.2.2<2*D.n:=by
 have hl:=(ydj h).1
 rcases yiw h with e|e<;>rw [e]
 ·exact hD.lt _ hl
 ·exact hD.lt _ (ya4 hl)
theorem Mid.step {D:Sh} (hD:Ok D) {S:WS} {p q:Nat} (h:Mid D S p q) (hq:q≠p) {x:Int×WS×Nat} (hx:x∈br D S q):Mid D x.2.1 p x.2.2:=by
 have hv:S.vis q=false:=h.vq.resolve_left hq
 obtain ⟨h1,h2⟩:=h.inv.step hD hv hx
 have e2:=(ydj hx).2
 refine ⟨h1.congr fun b=>?_,?_,ypy hD hx,?_⟩
 ·rw [e2]
  by_cases hb:b=q
  ·subst hb;rw [yac];simp [hq]
  ·rw [yae _ _ hb];simp [hb]
 ·rw [e2,yae _ _ (Ne.symm hq)];exact h.vp
 ·by_cases e:x.2.2=p
  ·exact .inl e
  ·refine .inr ?_
   have hb:x.2.2≠q:=fun e'=>h2 (.inr e')
   rw [e2,yae _ _ hb]
   cases hh:S.vis x.2.2 with
   |false=>rfl
   |true=>exact absurd (.inl ⟨hh,e⟩) h2
theorem Bd.start {D:Sh} (hD:Ok D) {S:WS} (h:Bd D S) {p:Nat} (hv:S.vis p=false) {x:Int×WS×Nat} (hx:x∈br D S p):Mid D x.2.1 p x.2.2:=by
 obtain ⟨h1,h2⟩:=Inv.step hD h hv hx
 have e2:=(ydj hx).2
 refine ⟨h1.congr fun b=>?_,by rw [e2,yac],ypy hD hx,?_⟩
 ·rw [e2]
  by_cases hb:b=p
  ·subst hb;rw [yac,hv];simp
  ·rw [yae _ _ hb];simp [hb]
 ·by_cases e:x.2.2=p
  ·exact .inl e
  ·refine .inr ?_
   rw [e2,yae _ _ e]
   cases hh:S.vis x.2.2 with
   |false=>rfl
   |true=>exact absurd hh h2
theorem Mid.close {D:Sh} {S:WS} {p:Nat} (h:Mid D S p p):Bd D S:=h.inv.congr fun b=>by
 by_cases hb:b=p
 ·subst hb;simp [h.vp]
 ·simp [hb]
def ev (q q':Nat):Prop:=q'=q\/q'=4\/(q<=1/\(q'=2\/q'=3))\/(q=5/\q'=2)
structure Ext (S S':WS):Prop where
 vis: ∀a,S.vis a=true->S'.vis a=true
 st: ∀c,ev (S.st c) (S'.st c)
theorem Ext.rfl' (S:WS):Ext S S:=⟨fun _ h=>h,fun _=> .inl rfl⟩
theorem Ext.trans {S S' S'':WS} (h:Ext S S') (k:Ext S' S''):Ext S S'':=⟨fun a ha=>k.vis a (h.vis a ha),fun c=>by
 have h1:=h.st c
 have h2:=k.st c
 unfold ev at*
 omega⟩
theorem yyq {D:Sh} {S:WS} {a:Nat} {x:Int×WS×Nat} (hx:x∈br D S a):Ext S x.2.1:=by
 obtain ⟨hlt,v,e1,e2,hc⟩:=yix hx
 refine ⟨fun b hb=>?_,fun c=>?_⟩
 ·rw [e2];unfold upd;split
  ·rfl
  ·exact hb
 ·rw [e1];unfold upd;split
  ·rename_i h;subst h;unfold ev;omega
  ·exact .inl rfl
theorem ywi {D:Sh} (hD:Ok D) {S:WS} {p:Nat} {k k':WS->Int} (J:WS->Nat->Prop) (hB:Bd D S) (hv:S.vis p=false)
  (h0: ∀x∈br D S p,J x.2.1 x.2.2) (hJ: ∀S' b,Mid D S' p b->Ext S S'->J S' b->b≠p-> ∀x∈br D S' b,J x.2.1 x.2.2)
  (hk: ∀S',Bd D S'->Ext S S'->S'.vis p=true->J S' p->k S'=k' S'):wk1 D S p k=wk1 D S p k':=by
 unfold wk1
 refine ybm fun x hx=>yhv (fun S' b=>Mid D S' p b/\Ext S S'/\J S' b) ?_ ?_ ⟨hB.start hD hv hx,yyq hx,h0 x hx⟩
 ·intro S' b ⟨h1,h2,h3⟩ hs hv' y hy
  have hb:b≠p:=fun e=>by rw [e,ya3] at hs;cases hs
  exact ⟨h1.step hD hb hy,h2.trans (yyq hy),hJ S' b h1 h2 h3 hb y hy⟩
 ·intro S' b ⟨h1,h2,h3⟩ hs
  have hb:b=p:=by simpa [eqE] using hs
  subst hb
  exact hk S' h1.close h2 h1.vp h3
theorem yo4 {D:Sh} (hD:Ok D) {S:WS} {p:Nat} {k k':WS->Int} (hB:Bd D S) (hv:S.vis p=false) (hk: ∀S',Bd D S'->Ext S S'->S'.vis p=true->k S'=k' S'):wk1 D S p k=wk1 D S p k':=
 ywi hD (fun _ _=>True) hB hv (fun _ _=>trivial) (fun _ _ _ _ _ _ _ _=>trivial) fun S' h1 h2 h3 _=>hk S' h1 h2 h3
theorem Bd.sc {D:Sh} {S:WS} (h:Bd D S) (u v:Int):Bd D (S.sc u v):=h
theorem Bd.cr {D:Sh} {S:WS} (h:Bd D S):Bd D S.cr:=h
theorem yjq {D:Sh} {X:Int->Int->Nat->Int} (u v:Int): ∀(B:List Nat) (S:WS),run X D B (S.sc u v)=run (fun i j k=>X (i+u) (j+v) k) D B S
 |[],S=>rfl
 |a::r,S=>by
  simp only [run]
  show (if S.vis a=true then _ else _)=_
  split
  ·exact yjq u v r S
  ·rw [WS.sc_cr,ym3]
   congr 1
   exact funext fun S=>yjq u v r S
def Lt (D:Sh) (a:Nat) (e:Int) (k:WS->Int) (S:WS):Int:=if S.vis a=true then k S else k (S.sc (2*e) 0)+e*wk1 D (S.sc e 1) a k
theorem ych {D:Sh} {a:Nat} {e:Int} {k:WS->Int} {S:WS} (h:S.vis a=true):Lt D a e k S=k S:=if_pos h
theorem ycr {D:Sh} {a:Nat} {e:Int} {k:WS->Int} {S:WS} (h:S.vis a=false):Lt D a e k S=k (S.sc (2*e) 0)+e*wk1 D (S.sc e 1) a k:=if_neg (by simp [h])
theorem ydw {D:Sh} (hD:Ok D) {a:Nat} {e:Int} {k k':WS->Int} {S:WS} (hB:Bd D S) (hk: ∀S',Bd D S'->Ext S S'->k S'=k' S'):Lt D a e k S=Lt D a e k' S:=by
 unfold Lt
 split
 ·exact hk S hB (.rfl' S)
 ·rename_i h
  have h1:k (S.sc (2*e) 0)=k' (S.sc (2*e) 0):=hk _ (hB.sc _ _) ⟨fun _ h=>h,fun _=> .inl rfl⟩
  rw [h1,yo4 hD (S:=S.sc e 1) (hB.sc _ _) (show S.vis a=false by simpa using h) fun S' hB' hE _=>hk S' hB' ⟨hE.vis,hE.st⟩]
theorem y7q {D:Sh} (hD:Ok D) {a:Nat} {e:Int} (he:e=1\/e= -1) {k:WS->Int} {S:WS} (hB:Bd D S):Lt D a e (Lt D a (-e) k) S=k S:=by
 cases hv:S.vis a with
 |true=>rw [ych hv,ych hv]
 |false=>
  have hv': ∀u v,(S.sc u v).vis a=false:=fun _ _=>hv
  rw [ycr hv,ycr (hv' _ _),WS.sc_sc,WS.sc_sc]
  rw [yo4 hD (k':=k) (hB.sc _ _) (hv' _ _) fun S' _ _ h=>ych h]
  have e1:2*e+2* -e=0:=by omega
  have e2:2*e+ -e=e:=by omega
  rw [e1,e2,Int.add_zero,WS.sc_zero,Int.zero_add,Int.neg_mul]
  omega
end Hs
end Go.Proofs.YtjpbeacamoijhaaDoor
