/- Plain: what holds along the walker's way; letters. -/
import Derived.Test.YtjpbeacamoijhaaGreatDoorHs1
namespace Go.Proofs.YtjpbeacamoijhaaGreatDoor
set_option linter.unusedSimpArgs false
set_option linter.unusedVariables false
namespace Hs
structure Ok (D:Sh):Prop where
 lt: ∀a,a<2*D.n->D.nx a<2*D.n
 inj: ∀a b,a<2*D.n->b<2*D.n->D.nx a=D.nx b->a=b
 sg: ∀c,c<D.n->D.sg c=1\/D.sg c= -1
def aD (q:Nat) (va vc:Bool) (A C:Prop):Prop:=
 ((q<=1\/q=5)/\va=false/\ ¬A)\/(q=4/\va=true/\A)\/(q=3/\(va=true↔A)/\va= !vc)\/(q=2/\(va=true↔C)/\va= !vc)
theorem aD.i0 {q:Nat} {va vc:Bool} {A C:Prop} (hq:q<=1\/q=5):aD q va vc A C↔va=false/\ ¬A:=by
 unfold aD;constructor
 ·rintro (⟨_,h⟩|⟨h,_⟩|⟨h,_⟩|⟨h,_⟩)
  ·exact h
  all_goals omega
 ·exact fun h=> .inl ⟨hq,h⟩
theorem aD.i4 {va vc:Bool} {A C:Prop}:aD 4 va vc A C↔va=true/\A:=by
 unfold aD;constructor
 ·rintro (⟨h,_⟩|⟨_,h⟩|⟨h,_⟩|⟨h,_⟩)
  ·omega
  ·exact h
  all_goals omega
 ·exact fun h=> .inr (.inl ⟨rfl,h⟩)
theorem aD.i3 {va vc:Bool} {A C:Prop}:aD 3 va vc A C↔(va=true↔A)/\va= !vc:=by
 unfold aD;constructor
 ·rintro (⟨h,_⟩|⟨h,_⟩|⟨_,h⟩|⟨h,_⟩)
  ·omega
  ·omega
  ·exact h
  ·omega
 ·exact fun h=> .inr (.inr (.inl ⟨rfl,h⟩))
theorem aD.i2 {va vc:Bool} {A C:Prop}:aD 2 va vc A C↔(va=true↔C)/\va= !vc:=by
 unfold aD;constructor
 ·rintro (⟨h,_⟩|⟨h,_⟩|⟨h,_⟩|⟨_,h⟩)
  ·omega
  ·omega
  ·omega
  ·exact h
 ·exact fun h=> .inr (.inr (.inr ⟨rfl,h⟩))
def Fit (D:Sh) (S:WS) (arr:Nat->Prop) (a:Nat):Prop:=aD (S.st (a/2)) (S.ae a) (S.ae (co a)) (arr (D.nx a)) (arr (D.nx (co a)))
def Inv (D:Sh) (S:WS) (arr:Nat->Prop):Prop:= ∀a,a<2*D.n->Fit D S arr a
theorem Inv.congr {D:Sh} {S:WS} {arr aW:Nat->Prop} (h:Inv D S arr) (he: ∀b,arr b↔aW b):Inv D S aW:=fun a ha=>by
 have:arr=aW:=funext fun b=>propext (he b)
 rw [←this];exact h a ha
theorem AY {D:Sh} {S:WS} {a:Nat} {x:Int×WS×Nat} (h:x∈br D S a):x.2.2=D.nx a\/x.2.2=D.nx (co a):=by
 unfold br at h
 split at h
 ·cases h
 split at h
 ·rw [List.mem_singleton] at h;subst h;exact .inr rfl
 split at h
 ·rw [List.mem_singleton] at h;subst h;exact .inl rfl
 split at h
 ·rw [List.mem_singleton] at h;subst h;exact .inr rfl
 split at h
 ·rw [List.mem_singleton] at h;subst h;exact .inl rfl
 split at h
 ·rcases List.mem_cons.1 h with h|h
  ·subst h;exact .inl rfl
  ·rw [List.mem_singleton] at h;subst h;exact .inr rfl
 ·cases h
theorem IX {D:Sh} {S:WS} {a:Nat} {x:Int×WS×Nat} (h:x∈br D S a):a<2*D.n/\ ∃v,x.2.1.st=aM S.st (a/2) v/\x.2.1.ae=aM S.ae a true/\
  ((S.st (a/2)=2/\v=4/\x.2.2=D.nx (co a))\/(S.st (a/2)=3/\v=4/\x.2.2=D.nx a)\/(S.st (a/2)=5/\v=2/\x.2.2=D.nx (co a))\/(S.st (a/2)<=1/\v=3/\x.2.2=D.nx a)\/(S.st (a/2)<=1/\S.st (a/2)≠a % 2/\v=2/\x.2.2=D.nx (co a))):=by
 unfold br at h
 split at h
 ·cases h
 refine ⟨by omega,?_⟩
 split at h
 ·rename_i h1;rw [List.mem_singleton] at h;subst h;exact ⟨4,rfl,rfl, .inl ⟨h1,rfl,rfl⟩⟩
 split at h
 ·rename_i h1;rw [List.mem_singleton] at h;subst h;exact ⟨4,rfl,rfl, .inr (.inl ⟨h1,rfl,rfl⟩)⟩
 split at h
 ·rename_i h1;rw [List.mem_singleton] at h;subst h;exact ⟨2,rfl,rfl, .inr (.inr (.inl ⟨h1,rfl,rfl⟩))⟩
 split at h
 ·rename_i h1;rw [List.mem_singleton] at h;subst h;exact ⟨3,rfl,rfl, .inr (.inr (.inr (.inl ⟨by omega,rfl,rfl⟩)))⟩
 split at h
 ·rename_i h0 h1
  rcases List.mem_cons.1 h with h|h
  ·subst h;exact ⟨3,rfl,rfl, .inr (.inr (.inr (.inl ⟨by omega,rfl,rfl⟩)))⟩
  ·rw [List.mem_singleton] at h;subst h;exact ⟨2,rfl,rfl, .inr (.inr (.inr (.inr ⟨by omega,h0,rfl,rfl⟩)))⟩
 ·cases h
theorem Inv.step {D:Sh} (hD:Ok D) {S:WS} {arr:Nat->Prop} (h:Inv D S arr) {a:Nat} (hv:S.ae a=false) {x:Int×WS×Nat} (hx:x∈br D S a):Inv D x.2.1 (fun b=>arr b\/b=x.2.2)/\ ¬arr x.2.2:=by
 obtain ⟨ay,v,e1,e2,hc⟩:=IX hx;have s7:=ee ay;have fa:=h a ay;have fc:=h (co a) s7;unfold Fit at fa fc;rw [bV,di] at fc;rw [hv] at fa fc;have ax:=qU a;have i1:D.nx (co a)≠D.nx a:=fun e=>ax (hD.inj _ _ s7 ay e)
 have key: ¬arr x.2.2/\aD v true (S.ae (co a)) (arr (D.nx a)\/D.nx a=x.2.2) (arr (D.nx (co a))\/D.nx (co a)=x.2.2)/\aD v (S.ae (co a)) true (arr (D.nx (co a))\/D.nx (co a)=x.2.2) (arr (D.nx a)\/D.nx a=x.2.2):=by
  rcases hc with ⟨q,rfl,hn⟩|⟨q,rfl,hn⟩|⟨q,rfl,hn⟩|⟨q,rfl,hn⟩|⟨q,_,rfl,hn⟩<;>rw [hn]
  ·rw [q,aD.i2] at fa fc
   have c1:S.ae (co a)=true:=by cases e:S.ae (co a) with
    |true=>rfl
    |false=>rw [e] at fa;exact absurd fa.2 (by decide)
   rw [c1,aD.i4,aD.i4];exact ⟨fun h=>absurd (fa.1.2 h) (by decide),⟨rfl, .inl (fc.1.1 c1)⟩,rfl, .inr rfl⟩
  ·rw [q,aD.i3] at fa fc
   have c1:S.ae (co a)=true:=by cases e:S.ae (co a) with
    |true=>rfl
    |false=>rw [e] at fa;exact absurd fa.2 (by decide)
   rw [c1,aD.i4,aD.i4];exact ⟨fun h=>absurd (fa.1.2 h) (by decide),⟨rfl, .inr rfl⟩,rfl, .inl (fc.1.1 c1)⟩
  ·rw [q,aD.i0 (.inr rfl)] at fa fc;rw [fc.1,aD.i2,aD.i2];exact ⟨fc.2,⟨⟨fun _=> .inr rfl,fun _=>rfl⟩,rfl⟩,⟨fun h=>absurd h (by decide),fun h=>(h.elim fa.2 fun e=>i1 e.symm).elim⟩,rfl⟩
  ·rw [aD.i0 (.inl q)] at fa fc;rw [fc.1,aD.i3,aD.i3];exact ⟨fa.2,⟨⟨fun _=> .inr rfl,fun _=>rfl⟩,rfl⟩,⟨fun h=>absurd h (by decide),fun h=>(h.elim fc.2 fun e=>i1 e).elim⟩,rfl⟩
  ·rw [aD.i0 (.inl q)] at fa fc;rw [fc.1,aD.i2,aD.i2];exact ⟨fc.2,⟨⟨fun _=> .inr rfl,fun _=>rfl⟩,rfl⟩,⟨fun h=>absurd h (by decide),fun h=>(h.elim fa.2 fun e=>i1 e.symm).elim⟩,rfl⟩
 refine ⟨?_,key.1⟩
 ·intro e he;unfold Fit;rw [e1,e2];by_cases Cd:e/2=a/2
  ·rw [Cd,bG];rcases jV Cd with rfl|rfl
   ·rw [bG,bt _ _ ax];exact key.2.1
   ·rw [bt _ _ ax,di,bG];exact key.2.2
  ·have n1:e≠a:=fun e'=>Cd (by rw [e']);have n2:co e≠a:=fun e'=>Cd (by rw [←bV e,e']);rw [bt _ _ Cd,bt _ _ n1,bt _ _ n2];have k1:D.nx e≠x.2.2:=fun e'=>by
    rcases AY hx with hh|hh<;>rw [hh] at e'
    ·exact n1 (hD.inj _ _ he ay e')
    ·have:=hD.inj _ _ he s7 e';rw [this,bV] at Cd;exact Cd rfl
   have k2:D.nx (co e)≠x.2.2:=fun e'=>by
    rcases AY hx with hh|hh<;>rw [hh] at e'
    ·exact n2 (hD.inj _ _ (ee he) ay e')
    ·have:=hD.inj _ _ (ee he) s7 e'
     have:=congrArg co this
     rw [di,di] at this;exact n1 this
   have fe:=h e he;unfold Fit at fe;simp only [k1,k2,or_false];exact fe
structure qa (D:Sh) (S:WS) (p q:Nat):Prop where
 inv:Inv D S fun b=>(S.ae b=true/\b≠p)\/b=q
 vp:S.ae p=true
 lq:q<2*D.n
 vq:q=p\/S.ae q=false
def Bd (D:Sh) (S:WS):Prop:=Inv D S fun b=>S.ae b=true
theorem HL {D:Sh} (hD:Ok D) {S:WS} {a:Nat} {x:Int×WS×Nat} (h:x∈br D S a):x.2.2<2*D.n:=by
 have hl:=(vr h).1;rcases AY h with e|e<;>rw [e]
 ·exact hD.lt _ hl
 ·exact hD.lt _ (ee hl)
theorem qa.step {D:Sh} (hD:Ok D) {S:WS} {p q:Nat} (h:qa D S p q) (hq:q≠p) {x:Int×WS×Nat} (hx:x∈br D S q):qa D x.2.1 p x.2.2:=by
 have hv:S.ae q=false:=h.vq.resolve_left hq;obtain ⟨h1,h2⟩:=h.inv.step hD hv hx;have e2:=(vr hx).2;refine ⟨h1.congr fun b=>?_,?_,HL hD hx,?_⟩
 ·rw [e2];by_cases hb:b=q
  ·subst hb;rw [bG];simp [hq]
  ·rw [bt _ _ hb];simp [hb]
 ·rw [e2,bt _ _ (Ne.symm hq)];exact h.vp
 ·by_cases e:x.2.2=p
  ·exact .inl e
  ·refine .inr ?_;have hb:x.2.2≠q:=fun e'=>h2 (.inr e');rw [e2,bt _ _ hb];cases hh:S.ae x.2.2 with
   |false=>rfl
   |true=>exact absurd (.inl ⟨hh,e⟩) h2
theorem Bd.start {D:Sh} (hD:Ok D) {S:WS} (h:Bd D S) {p:Nat} (hv:S.ae p=false) {x:Int×WS×Nat} (hx:x∈br D S p):qa D x.2.1 p x.2.2:=by
 obtain ⟨h1,h2⟩:=Inv.step hD h hv hx;have e2:=(vr hx).2;refine ⟨h1.congr fun b=>?_,by rw [e2,bG],HL hD hx,?_⟩
 ·rw [e2];by_cases hb:b=p
  ·subst hb;rw [bG,hv];simp
  ·rw [bt _ _ hb];simp [hb]
 ·by_cases e:x.2.2=p
  ·exact .inl e
  ·refine .inr ?_;rw [e2,bt _ _ e];cases hh:S.ae x.2.2 with
   |false=>rfl
   |true=>exact absurd hh h2
theorem qa.close {D:Sh} {S:WS} {p:Nat} (h:qa D S p p):Bd D S:=h.inv.congr fun b=>by
 by_cases hb:b=p
 ·subst hb;simp [h.vp]
 ·simp [hb]
def ev (q q':Nat):Prop:=q'=q\/q'=4\/(q<=1/\(q'=2\/q'=3))\/(q=5/\q'=2)
structure Ext (S S':WS):Prop where
 ae: ∀a,S.ae a=true->S'.ae a=true
 st: ∀c,ev (S.st c) (S'.st c)
theorem Ext.cw (S:WS):Ext S S:=⟨fun _ h=>h,fun _=> .inl rfl⟩
theorem Ext.trans {S S' dm:WS} (h:Ext S S') (k:Ext S' dm):Ext S dm:=⟨fun a ha=>k.ae a (h.ae a ha),fun c=>by
 have h1:=h.st c;have h2:=k.st c;unfold ev at*;omega⟩
theorem PG {D:Sh} {S:WS} {a:Nat} {x:Int×WS×Nat} (hx:x∈br D S a):Ext S x.2.1:=by
 obtain ⟨ay,v,e1,e2,hc⟩:=IX hx;refine ⟨fun b hb=>?_,fun c=>?_⟩
 ·rw [e2];unfold aM;split
  ·rfl
  ·exact hb
 ·rw [e1];unfold aM;split
  ·rename_i h;subst h;unfold ev;omega
  ·exact .inl rfl
theorem XY {D:Sh} (hD:Ok D) {S:WS} {p:Nat} {k k':WS->Int} (J:WS->Nat->Prop) (hB:Bd D S) (hv:S.ae p=false)
  (h0: ∀x∈br D S p,J x.2.1 x.2.2) (hJ: ∀S' b,qa D S' p b->Ext S S'->J S' b->b≠p-> ∀x∈br D S' b,J x.2.1 x.2.2)
  (hk: ∀S',Bd D S'->Ext S S'->S'.ae p=true->J S' p->k S'=k' S'):bA D S p k=bA D S p k':=by
 unfold bA;refine qZ fun x hx=>Bb (fun S' b=>qa D S' p b/\Ext S S'/\J S' b) ?_ ?_ ⟨hB.start hD hv hx,PG hx,h0 x hx⟩
 ·intro S' b ⟨h1,h2,h3⟩ hs gN y hy;have hb:b≠p:=fun e=>by rw [e,js] at hs;cases hs
  exact ⟨h1.step hD hb hy,h2.trans (PG hy),hJ S' b h1 h2 h3 hb y hy⟩
 ·intro S' b ⟨h1,h2,h3⟩ hs;have hb:b=p:=by simpa [dT] using hs
  subst hb;exact hk S' h1.close h2 h1.vp h3
theorem SK {D:Sh} (hD:Ok D) {S:WS} {p:Nat} {k k':WS->Int} (hB:Bd D S) (hv:S.ae p=false) (hk: ∀S',Bd D S'->Ext S S'->S'.ae p=true->k S'=k' S'):bA D S p k=bA D S p k':=
 XY hD (fun _ _=>True) hB hv (fun _ _=>trivial) (fun _ _ _ _ _ _ _ _=>trivial) fun S' h1 h2 h3 _=>hk S' h1 h2 h3
theorem Bd.sc {D:Sh} {S:WS} (h:Bd D S) (u v:Int):Bd D (S.sc u v):=h
theorem Bd.cr {D:Sh} {S:WS} (h:Bd D S):Bd D S.cr:=h
theorem Ef {D:Sh} {X:Int->Int->Nat->Int} (u v:Int): ∀(B:List Nat) (S:WS),run X D B (S.sc u v)=run (fun i j k=>X (i+u) (j+v) k) D B S
 |[],S=>rfl
 |a::r,S=>by
  simp only [run];show (if S.ae a=true then _ else _)=_
  split
  ·exact Ef u v r S
  ·rw [WS.dV,H8];congr 1;exact funext fun S=>Ef u v r S
def Lt (D:Sh) (a:Nat) (e:Int) (k:WS->Int) (S:WS):Int:=if S.ae a=true then k S else k (S.sc (2*e) 0)+e*bA D (S.sc e 1) a k
theorem rW {D:Sh} {a:Nat} {e:Int} {k:WS->Int} {S:WS} (h:S.ae a=true):Lt D a e k S=k S:=if_pos h
theorem sG {D:Sh} {a:Nat} {e:Int} {k:WS->Int} {S:WS} (h:S.ae a=false):Lt D a e k S=k (S.sc (2*e) 0)+e*bA D (S.sc e 1) a k:=if_neg (by simp [h])
theorem Ah {D:Sh} (hD:Ok D) {a:Nat} {e:Int} {k k':WS->Int} {S:WS} (hB:Bd D S) (hk: ∀S',Bd D S'->Ext S S'->k S'=k' S'):Lt D a e k S=Lt D a e k' S:=by
 unfold Lt
 split
 ·exact hk S hB (.cw S)
 ·rename_i h
  have h1:k (S.sc (2*e) 0)=k' (S.sc (2*e) 0):=hk _ (hB.sc _ _) ⟨fun _ h=>h,fun _=> .inl rfl⟩;rw [h1,SK hD (S:=S.sc e 1) (hB.sc _ _) (show S.ae a=false by simpa using h) fun S' iZ hE _=>hk S' iZ ⟨hE.ae,hE.st⟩]
theorem Zj {D:Sh} (hD:Ok D) {a:Nat} {e:Int} (he:e=1\/e= -1) {k:WS->Int} {S:WS} (hB:Bd D S):Lt D a e (Lt D a (-e) k) S=k S:=by
 cases hv:S.ae a with
 |true=>rw [rW hv,rW hv]
 |false=>
  have gN: ∀u v,(S.sc u v).ae a=false:=fun _ _=>hv;rw [sG hv,sG (gN _ _),WS.bQ,WS.bQ];rw [SK hD (k':=k) (hB.sc _ _) (gN _ _) fun S' _ _ h=>rW h];have e1:2*e+2* -e=0:=by omega
  have e2:2*e+ -e=e:=by omega
  rw [e1,e2,Int.add_zero,WS.bK,Int.zero_add,Int.neg_mul];omega
end Hs
namespace Hs
def dU (x:Nat):Nat->Bool:=fun c=>decide (c/2=x)
theorem Ur {x c:Nat} (h:c/2=x):dU x c=true:=by unfold dU;exact decide_eq_true h
theorem Hi {x c:Nat} (h:c/2≠x):dU x c=false:=by unfold dU;exact decide_eq_false h
theorem Uq {x c:Nat} (h:dU x c=true):c/2=x:=by unfold dU at h;exact of_decide_eq_true h
theorem Hh {x c:Nat} (h:dU x c=false):c/2≠x:=by unfold dU at h;exact of_decide_eq_false h
structure Arr (D:Sh) (x:Nat) (S:WS) (d:Nat) (S':WS) (c:Nat):Prop where
 at':c/2=x
 v: ∀a,a/2=x->S'.ae a=S.ae a
 st:S'.st x=S.st x
 dd:c=d\/S'.ae d=true
 oth: ∀e,e<2*D.n->e/2=x->D.nx e≠d->c≠D.nx e/\S'.ae (D.nx e)=S.ae (D.nx e)
theorem dz {D:Sh} (hD:Ok D) {x:Nat} {S:WS} {d:Nat} {K K':WS->Nat->Int} (h: ∀S' c,Arr D x S d S' c->K S' c=K' S' c):W D (dU x) S d K=W D (dU x) S d K':=by
 refine Bb (fun S' c=>(∀a,a/2=x->S'.ae a=S.ae a)/\S'.st x=S.st x/\(c=d\/S'.ae d=true)/\(∀e,e<2*D.n->e/2=x->D.nx e≠d->c≠D.nx e/\S'.ae (D.nx e)=S.ae (D.nx e))) ?_ ?_ ⟨fun _ _=>rfl,rfl, .inl rfl,fun e _ _ hn=>⟨Ne.symm hn,rfl⟩⟩
 ·intro S' c ⟨h1,h2,h3,h4⟩ hs hv y hy;have hc:=Hh hs;obtain ⟨ay,v,e1,e2,_⟩:=IX hy;rw [e1,e2];refine ⟨fun a ha=>?_,?_,?_,fun e he hex hn=>?_⟩
  ·rw [bt _ _ fun e=>hc (by rw [←e];exact ha)];exact h1 a ha
  ·rw [bt _ _ (Ne.symm hc)];exact h2
  ·by_cases hd:c=d
   ·right;rw [←hd,bG]
   ·right;rw [bt _ _ (Ne.symm hd)];exact h3.resolve_left hd
  ·obtain ⟨h5,h6⟩:=h4 e he hex hn;refine ⟨fun e'=>?_,by rw [bt _ _ (Ne.symm h5)];exact h6⟩;rcases AY hy with hh|hh<;>rw [hh] at e'
   ·have:=hD.inj _ _ ay he e';rw [this] at hc;exact hc hex
   ·have:=hD.inj _ _ (ee ay) he e';rw [←this,bV] at hex;exact hc hex
 ·intro S' c ⟨h1,h2,h3,h4⟩ hs;exact h S' c ⟨Uq hs,h1,h2,h3,h4⟩
def rb (D:Sh) (S:WS) (c:Nat) (F:WS->Nat->Int):Int:=if S.ae c=true then 0 else sumB (br D S c) F
theorem yJ {D:Sh} {S:WS} {c:Nat} {F:WS->Nat->Int} (h:S.ae c=true):rb D S c F=0:=if_pos h
theorem vg {D:Sh} {S:WS} {c p:Nat} {k:WS->Nat->Int} (h:c≠p):W D (dT p) S c k=rb D S c fun S d=>W D (dT p) S d k:=by
 rw [zL,if_neg (by simp [tM h])];rfl
theorem vf {D:Sh} (hD:Ok D) {x p d:Nat} {S:WS} {k:WS->Nat->Int} (hp:p/2=x\/ ∃e,e<2*D.n/\e/2=x/\D.nx e=p) (hd:d≠p\/p/2=x):W D (dT p) S d k=W D (dU x) S d fun S' c=>W D (dT p) S' c k:=by
 rw [KY (s1:=yE p x) (fun b h=>by unfold dT at h;simp [yE,h])];refine xp (fun S c S' c'=>S=S'/\c=c'/\(c=p->c/2=x)) ?_ _ _ _ _ ⟨rfl,rfl,fun e=>?_⟩
 ·intro S c S' c' ⟨e1,e2,h3⟩;subst e1 e2;refine ⟨?_,fun _=>rfl,fun hs=>⟨rfl,fun hv=>BR.wb fun y hy=>⟨rfl,rfl,fun e=>?_⟩⟩⟩
  ·unfold yE dU;by_cases h:c=p
   ·simp [h3 h]
   ·simp [h]
  ·have hc:c/2≠x:=fun e'=>by simp [yE,e'] at hs
   have hl:=(vr hy).1;rcases hp with hp|⟨e0,h0,h1,h2⟩
   ·rw [e];exact hp
   ·exfalso;rw [←h2] at e;rcases AY hy with hh|hh<;>rw [hh] at e
    ·have:=hD.inj _ _ hl h0 e;rw [this] at hc;exact hc h1
    ·have:=hD.inj _ _ (ee hl) h0 e;rw [←this,bV] at h1;exact hc h1
 ·rcases hd with hd|hd
  ·exact absurd e hd
  ·rw [e];exact hd
theorem Ee {D:Sh} (hD:Ok D) {x b:Nat} {S:WS} {k:WS->Int} (hb: ∃e,e<2*D.n/\e/2=x/\D.nx e=b) (hv:S.ae b=false):bA D S b k=W D (dU x) S b fun S' c=>rb D S' c fun dm d=>W D (dT b) dm d fun S _=>k S:=by
 by_cases hx:b/2=x
 ·rw [iG (Ur hx)];unfold rb bA;rw [if_neg (by simp [hv])]
 ·rw [gQ (Hi hx) hv];unfold bA;refine qZ fun y hy=>?_;have hl:=(vr hy).1;have hd:y.2.2≠b:=fun e=>by
   obtain ⟨e0,h0,h1,h2⟩:=hb;rw [←h2] at e;rcases AY hy with hh|hh<;>rw [hh] at e
   ·have:=hD.inj _ _ hl h0 e;rw [this] at hx;exact hx h1
   ·have:=hD.inj _ _ (ee hl) h0 e;rw [←this,bV] at h1;exact hx h1
  rw [vf hD (.inr hb) (.inl hd)];refine Bb (fun _ _=>True) (fun _ _ _ _ _ _ _=>trivial) (fun S c _ hs=>?_) trivial;exact vg fun e=>hx (by rw [←e];exact Uq hs)
theorem qJ {x:Nat} {f:WS->WS} (h:Loc x f) {D:Sh} {k:WS->Nat->Int} (S:WS) (a:Nat):W D (dU x) (f S) a k=W D (dU x) S a fun S b=>k (f S) b:=h.W (fun a h=>Ur h) S a
theorem CW (T:WS) {a b:Nat} (v w z:Nat) (h:a/2=b/2):(T.mk' a v).mk' b z=(T.mk' b w).mk' a z:=by
 unfold WS.mk';rw [h];simp only [QQ,WS.mk.injEq,and_true,true_and];by_cases e:a=b
 ·rw [e]
 ·exact I2 _ _ _ e
theorem uz {T:WS} {a x v:Nat} (h:a/2=x):(T.mk' a v).st x=v:=by unfold WS.mk';rw [←h];exact bG _ _ _
theorem lk (T:WS) (a v:Nat):(T.mk' a v).ae a=true:=bG _ _ _
theorem dM (T:WS) {a b v:Nat} (h:b≠a):(T.mk' a v).ae b=T.ae b:=bt _ _ h
theorem pI {D:Sh} {S:WS} {c:Nat} (hl:c<2*D.n) (h:S.st (c/2)=3):br D S c=[(1,S.mk' c 4,D.nx c)]:=by
 unfold br;rw [if_neg (by omega),if_neg (by omega),if_pos h]
theorem l5 {D:Sh} {S:WS} {c:Nat} (hl:c<2*D.n) (h:S.st (c/2)=2):br D S c=[(1,S.mk' c 4,D.nx (co c))]:=by
 unfold br;rw [if_neg (by omega),if_pos h]
theorem tl {D:Sh} {S:WS} {c:Nat} (hl:c<2*D.n) (h:S.st (c/2)=5):br D S c=[(1,S.mk' c 2,D.nx (co c))]:=by
 unfold br;rw [if_neg (by omega),if_neg (by omega),if_neg (by omega),if_pos h]
theorem zK {D:Sh} {S:WS} {c:Nat} (hl:c<2*D.n) (h:S.st (c/2)=c % 2):br D S c=[(1,S.mk' c 3,D.nx c)]:=by
 unfold br;rw [if_neg (by omega),if_neg (by omega),if_neg (by omega),if_neg (by omega),if_pos h]
theorem Hc {D:Sh} {S:WS} {c:Nat} (hl:c<2*D.n) (h:S.st (c/2)=1-c % 2):br D S c=[(1,(S.mk' c 3).sc (2*dO D (S.st (c/2)) (c/2)) 0,D.nx c),(dO D (S.st (c/2)) (c/2),(S.mk' c 2).sc (dO D (S.st (c/2)) (c/2)) 1,D.nx (co c))]:=by
 unfold br;rw [if_neg (by omega),if_neg (by omega),if_neg (by omega),if_neg (by omega),if_neg (by omega),if_pos h]
theorem rV (S:WS) (a:Nat) (F:WS->Nat->Int):sumB [(1,S,a)] F=F S a:=by simp [sumB]
theorem KX (S S':WS) (a a':Nat) (c:Int) (F:WS->Nat->Int):sumB [(1,S,a),(c,S',a')] F=F S a+c*F S' a':=by simp [sumB]
theorem uy {D:Sh} {S S':WS} {c d:Nat} {F:WS->Nat->Int} (h:S.ae c=false) (hb:br D S c=[(1,S',d)]):rb D S c F=F S' d:=by
 unfold rb;rw [if_neg (by simp [h]),hb,rV]
section
variable {D:Sh} {x:Nat} {S:WS} {k:WS->Int}
theorem Up (hD:Ok D) {a:Nat} (ha:a/2=x) (hl:a<2*D.n) (aR:S.st x=3) (h1:S.ae a=false) (h2:S.ae (co a)=true):bA D S a k=W D (dU x) S (D.nx a) fun S' c=>if c=a then k (S'.mk' a 4) else 0:=by
 unfold bA;rw [pI hl (by rw [ha];exact aR),rV,vf hD (.inl ha) (.inr ha),qJ (Loc.pn 4 ha)];refine dz hD fun S' c hA=>?_;by_cases hc:c=a
 ·rw [if_pos hc,hc,iG (js a)]
 ·rw [if_neg hc,vg hc];have e:c=co a:=(jV (hA.at'.trans ha.symm)).resolve_left hc;refine yJ ?_;rw [dM _ hc,hA.v c hA.at',e];exact h2
theorem PF (hD:Ok D) {a:Nat} (ha:a/2=x) (hl:a<2*D.n) (aR:S.st x=3) (h1:S.ae a=false) (h2:S.ae (co a)=true) (h3:S.ae (D.nx a)=false):bA D S (D.nx a) k=W D (dU x) S (D.nx a) fun S' c=>if c=a then k (S'.mk' a 4) else 0:=by
 rw [Ee (x:=x) hD ⟨a,hl,ha,rfl⟩ h3];refine dz hD fun S' c hA=>?_;by_cases hc:c=a
 ·rw [if_pos hc,hc,uy (by rw [hA.v a ha];exact h1) (pI hl (by rw [ha,hA.st];exact aR)),iG (js _)]
 ·rw [if_neg hc];have e:c=co a:=(jV (hA.at'.trans ha.symm)).resolve_left hc;refine yJ ?_;rw [hA.v c hA.at',e];exact h2
theorem ET (hD:Ok D) {a:Nat} (ha:a/2=x) (hl:a<2*D.n) (aR:S.st x=2) (h1:S.ae a=false) (h2:S.ae (co a)=true):bA D S a k=W D (dU x) S (D.nx (co a)) fun S' c=>if c=a then k (S'.mk' a 4) else 0:=by
 unfold bA;rw [l5 hl (by rw [ha];exact aR),rV,vf hD (.inl ha) (.inr ha),qJ (Loc.pn 4 ha)];refine dz hD fun S' c hA=>?_;by_cases hc:c=a
 ·rw [if_pos hc,hc,iG (js a)]
 ·rw [if_neg hc,vg hc];have e:c=co a:=(jV (hA.at'.trans ha.symm)).resolve_left hc;refine yJ ?_;rw [dM _ hc,hA.v c hA.at',e];exact h2
theorem Zi (hD:Ok D) {a:Nat} (ha:a/2=x) (hl:a<2*D.n) (aR:S.st x=2) (h1:S.ae a=false) (h2:S.ae (co a)=true) (h3:S.ae (D.nx (co a))=false):bA D S (D.nx (co a)) k=W D (dU x) S (D.nx (co a)) fun S' c=>if c=a then k (S'.mk' a 4) else 0:=by
 rw [Ee (x:=x) hD ⟨co a,ee hl,(bV a).trans ha,rfl⟩ h3];refine dz hD fun S' c hA=>?_;by_cases hc:c=a
 ·rw [if_pos hc,hc,uy (by rw [hA.v a ha];exact h1) (l5 hl (by rw [ha,hA.st];exact aR)),iG (js _)]
 ·rw [if_neg hc];have e:c=co a:=(jV (hA.at'.trans ha.symm)).resolve_left hc;refine yJ ?_;rw [hA.v c hA.at',e];exact h2
theorem ES (hD:Ok D) {a:Nat} (ha:a/2=x) (hl:a<2*D.n) (aR:S.st x=5) (h1:S.ae a=false) (h2:S.ae (co a)=false):bA D S a k=W D (dU x) S (D.nx (co a)) fun S' c=>if c=a then k (S'.mk' a 2) else W D (dU x) ((S'.mk' a 2).mk' (co a) 4) (D.nx a) fun dm c'=>if c'=a then k dm else 0:=by
 have s7:co a/2=x:=by rw [bV];exact ha
 have aY:=ee hl;unfold bA;rw [tl hl (by rw [ha];exact aR),rV,vf hD (.inl ha) (.inr ha),qJ (Loc.pn 2 ha)];refine dz hD fun S' c hA=>?_;by_cases hc:c=a
 ·rw [if_pos hc,hc,iG (js a)]
 ·rw [if_neg hc,vg hc];have e:c=co a:=(jV (hA.at'.trans ha.symm)).resolve_left hc;subst e;rw [uy (by rw [dM _ hc,hA.v _ hA.at'];exact h2) (l5 aY (by rw [s7,uz ha])),di,vf hD (.inl ha) (.inr ha)];refine dz hD fun dm c' uk=>?_;by_cases dh:c'=a
  ·rw [if_pos dh,dh,iG (js a)]
  ·rw [if_neg dh,vg dh];have e:c'=co a:=(jV (uk.at'.trans ha.symm)).resolve_left dh;refine yJ ?_;rw [uk.v c' uk.at',e];exact lk _ _ _
theorem Zh (hD:Ok D) {a:Nat} (ha:a/2=x) (hl:a<2*D.n) (aR:S.st x=5) (h1:S.ae a=false) (h2:S.ae (co a)=false) (h3:S.ae (D.nx (co a))=false):bA D S (D.nx (co a)) k=W D (dU x) S (D.nx (co a)) fun S' c=>if c=a then k (S'.mk' a 2) else W D (dU x) ((S'.mk' a 2).mk' (co a) 4) (D.nx a) fun dm c'=>if c'=a then k dm else 0:=by
 have s7:co a/2=x:=by rw [bV];exact ha
 have aY:=ee hl;have ax:D.nx a≠D.nx (co a):=fun e=>qU a (hD.inj _ _ hl aY e).symm;rw [Ee (x:=x) hD ⟨co a,aY,s7,rfl⟩ h3];refine dz hD fun S' c hA=>?_;by_cases hc:c=a
 ·rw [if_pos hc,hc,uy (by rw [hA.v a ha];exact h1) (tl hl (by rw [ha,hA.st];exact aR)),iG (js _)]
 ·rw [if_neg hc];have e:c=co a:=(jV (hA.at'.trans ha.symm)).resolve_left hc;subst e;rw [uy (by rw [hA.v _ hA.at'];exact h2) (tl aY (by rw [s7,hA.st];exact aR)),di,vf hD (.inr ⟨co a,aY,s7,rfl⟩) (.inl ax)];rw [qJ (Loc.pn 2 s7),qJ ((Loc.pn 4 s7).comp (Loc.pn 2 ha))];refine dz hD fun dm c' uk=>?_;have n1:=(uk.oth (co a) aY s7 (Ne.symm ax)).1;rw [vg n1];by_cases dh:c'=a
  ·rw [if_pos dh,dh,uy (by rw [dM _ (Ne.symm (qU a)),uk.v a ha,hA.v a ha];exact h1) (l5 hl (by rw [ha,uz s7])),iG (js _),CW _ 2 2 4 (by rw [s7,ha])]
  ·rw [if_neg dh];have e:c'=co a:=(jV (uk.at'.trans ha.symm)).resolve_left dh;rw [e];exact yJ (lk _ _ _)
end
theorem Lm {D:Sh} (hD:Ok D) {a:Nat} {e:Int} {k:WS->Int} {S:WS} (hB:Bd D S) (hl:a<2*D.n) (h:S.st (a/2)=3\/S.st (a/2)=4):Lt D a e k S=Lt D (D.nx a) e k S:=by
 have f:=hB a hl;unfold Fit at f;cases hv:S.ae a with
 |true=>
  have:S.ae (D.nx a)=true:=by
   rcases h with h|h<;>rw [h] at f
   ·exact (aD.i3.1 f).1.1 hv
   ·exact (aD.i4.1 f).2
  rw [rW hv,rW this]
 |false=>
  rcases h with h|h<;>rw [h] at f
  ·obtain ⟨f1,f2⟩:=aD.i3.1 f;have h3:S.ae (D.nx a)=false:=by
    cases e:S.ae (D.nx a) with
    |false=>rfl
    |true=>rw [f1.2 e] at hv;cases hv
   have h2:S.ae (co a)=true:=by
    cases e:S.ae (co a) with
    |true=>rfl
    |false=>rw [hv,e] at f2;exact absurd f2 (by decide)
   rw [sG hv,sG h3,Up (S:=S.sc e 1) hD rfl hl h hv h2,PF (S:=S.sc e 1) hD rfl hl h hv h2 h3]
  ·rw [(aD.i4.1 f).1] at hv;cases hv
theorem SJ {D:Sh} (hD:Ok D) {a:Nat} {e:Int} {k:WS->Int} {S:WS} (hB:Bd D S) (hl:a<2*D.n) (h:S.st (a/2)=2\/S.st (a/2)=4\/S.st (a/2)=5):Lt D a e k S=Lt D (D.nx (co a)) e k S:=by
 have f:=hB a hl;have f':=hB (co a) (ee hl);unfold Fit at f f';rw [bV,di] at f';cases hv:S.ae a with
 |true=>
  have:S.ae (D.nx (co a))=true:=by
   rcases h with h|h|h<;>rw [h] at f f'
   ·exact (aD.i2.1 f).1.1 hv
   ·exact (aD.i4.1 f').2
   ·rw [((aD.i0 (.inr rfl)).1 f).1] at hv;cases hv
  rw [rW hv,rW this]
 |false=>
  rcases h with h|h|h<;>rw [h] at f f'
  ·obtain ⟨f1,f2⟩:=aD.i2.1 f;have h3:S.ae (D.nx (co a))=false:=by
    cases e:S.ae (D.nx (co a)) with
    |false=>rfl
    |true=>rw [f1.2 e] at hv;cases hv
   have h2:S.ae (co a)=true:=by
    cases e:S.ae (co a) with
    |true=>rfl
    |false=>rw [hv,e] at f2;exact absurd f2 (by decide)
   rw [sG hv,sG h3,ET (S:=S.sc e 1) hD rfl hl h hv h2,Zi (S:=S.sc e 1) hD rfl hl h hv h2 h3]
  ·rw [(aD.i4.1 f).1] at hv;cases hv
  ·obtain ⟨g1,g2⟩:=(aD.i0 (.inr rfl)).1 f';have h3:S.ae (D.nx (co a))=false:=by simpa using g2
   rw [sG hv,sG h3,ES (S:=S.sc e 1) hD rfl hl h hv g1,Zh (S:=S.sc e 1) hD rfl hl h hv g1 h3]
end Hs
end Go.Proofs.YtjpbeacamoijhaaGreatDoor
