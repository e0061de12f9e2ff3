/- Plain: THE ORDER OF THE CIRCLES does not matter on the sphere. -/
import Derived.Test.YtjpbeacamoijhaaGreatDoorZk
namespace Go.Proofs.YtjpbeacamoijhaaGreatDoor
set_option linter.unusedSimpArgs false
set_option linter.unusedVariables false
namespace Hs
open Sp (eY aV aw itn)
section
variable {D:Sh}
def rl (S:WS):Nat->Nat
 |0=>0
 |m+1=>rl S m+if S.st m<=1 then 1 else 0
theorem sI {S S':WS} (h: ∀c,S'.st c<=1->S.st c<=1): ∀m,rl S' m<=rl S m
 |0=>Nat.le_refl _
 |m+1=>by
  have:=sI h m
  simp only [rl];by_cases h1:S'.st m<=1
  ·rw [if_pos h1,if_pos (h m h1)];omega
  ·rw [if_neg h1];omega
theorem AX {S S':WS} (h: ∀c,S'.st c<=1->S.st c<=1) {x:Nat} (h1:S.st x<=1) (h2: ¬S'.st x<=1): ∀m,x<m->rl S' m<rl S m
 |0,hx=>by omega
 |m+1,hx=>by
  simp only [rl];by_cases e:x=m
  ·subst e
   have:=sI h x
   rw [if_pos h1,if_neg h2];omega
  ·have:=AX h h1 h2 m (by omega)
   by_cases h3:S'.st m<=1
   ·rw [if_pos h3,if_pos (h m h3)];omega
   ·rw [if_neg h3];omega
theorem z7 {X:Int->Int->Nat->Int}: ∀(B:List Nat) (S:WS),(∀a∈B,S.ae a=true)->run X D B S=X S.i S.j S.k
 |[],S,_=>rfl
 |a::B,S,h=>by
  unfold run;rw [if_pos (h a (.head _))];exact z7 B S fun b hb=>h b (.tail _ hb)
theorem rQ {S:WS} {a:Nat} {x:Int×WS×Nat} (h:x∈br D S a):x.2.1.k=S.k:=by
 unfold br at h
 split at h
 ·cases h
 split at h
 ·rw [List.mem_singleton] at h;subst h;rfl
 split at h
 ·rw [List.mem_singleton] at h;subst h;rfl
 split at h
 ·rw [List.mem_singleton] at h;subst h;rfl
 split at h
 ·rw [List.mem_singleton] at h;subst h;rfl
 split at h
 ·rcases List.mem_cons.1 h with h|h
  ·subst h;rfl
  ·rw [List.mem_singleton] at h;subst h;rfl
 ·cases h
theorem ER {S:WS} {a:Nat} {k k':WS->Int} (h: ∀S',S'.k=S.k->k S'=k' S'):bA D S a k=bA D S a k':=by
 unfold bA;refine qZ fun x hx=>Bb (fun S' _=>S'.k=S.k) (fun S' b h1 _ _ y hy=>(rQ hy).trans h1) (fun S' b h1 _=>h S' h1) (rQ hx)
def Good (X:Int->Int->Nat->Int):Prop:= ∀i j k,1<=k->X (i-1) j k=X (i+1) j k+X i (j+1) (k+1)
theorem HJ {X:Int->Int->Nat->Int} (hX:Good X): ∀(B:List Nat) (T:WS),1<=T.k->run X D B (T.sc (-1) 0)=run X D B (T.sc 1 0)+run X D B (T.cr.sc 0 1)
 |[],T,hk=>by
  show X (T.i+ -1) (T.j+0) T.k=X (T.i+1) (T.j+0) T.k+X (T.i+0) (T.j+1) (T.k+1);rw [Int.add_zero,Int.add_zero];exact hX T.i T.j T.k hk
 |a::B,T,hk=>by
  unfold run;show (if T.ae a=true then _ else _)=(if T.ae a=true then _ else _)+(if T.ae a=true then _ else _);cases hv:T.ae a with
  |true=>exact HJ hX B T hk
  |false=>
   simp only [Bool.false_eq_true,if_false];rw [WS.dV,WS.dV,WS.dV,H8,H8,H8,PH T.cr,←Rr];refine ER fun S' h'=>?_;rw [HJ hX B S' (by rw [h'];show 1<=T.k+1;omega)]
def WS.jq (S:WS) (g:Nat->Nat) (m:Nat):WS:={S with st:=fun c=>if c<m/\S.st c<=1 then g c else S.st c}
theorem KV {S:WS} (hB:Bd D S) {g:Nat->Nat} (hg: ∀c,g c<=1) (m:Nat):Bd D (S.jq g m):=hB.G9 rfl fun c=>by
 show (_/\((if _ then _ else _)<=1\/_))\/(if _ then _ else _)=_;by_cases h:c<m/\S.st c<=1
 ·rw [if_pos h];exact .inl ⟨h.2, .inl (hg c)⟩
 ·rw [if_neg h];exact .inr rfl
structure eI (D:Sh) (B:List Nat) (S:WS):Prop where
 lt: ∀a∈B,a<2*D.n
 all: ∀a,a<2*D.n->S.ae a=false->a∈B
theorem CV {S:WS} (hB:Bd D S) {x v:Nat} (h:S.st x<=1) (hv:v<=1\/v=5):Bd D (S.sx x v):=hB.G9 rfl fun c=>by
 by_cases e:c=x
 ·subst e;left;refine ⟨h,?_⟩;show aM S.st c v c<=1\/aM S.st c v c=5;rw [bG];exact hv
 ·exact .inr (bt _ _ e)
theorem uD {S:WS} (hB:Bd D S) {x:Nat} (hx:x<D.n) (h:S.st x<=1):S.ae (2*x)=false/\S.ae (2*x+1)=false:=by
 have f:=hB (2*x) (by omega);have f':=hB (2*x+1) (by omega);unfold Fit at f f';rw [show 2*x/2=x by omega,aD.i0 (.inl h)] at f;rw [show (2*x+1)/2=x by omega,aD.i0 (.inl h)] at f';exact ⟨f.1,f'.1⟩
theorem Hj {X:Int->Int->Nat->Int} (hD:Ok D) {B B':List Nat} {S:WS} (hB:Bd D S) (h1:eI D B S) (h2:eI D B' S) (IH: ∀S',Bd D S'->S'.ae=S.ae->rl S' D.n<rl S D.n->run X D B S'=run X D B' S') {g:Nat->Nat} (hg: ∀c,g c<=1)
  (h: ∀u v,run X D B ((S.jq g D.n).sc u v)=run X D B' ((S.jq g D.n).sc u v)):run X D B S=run X D B' S:=by
 have key: ∀d,d<=D.n-> ∀u v,run X D B ((S.jq g (D.n-d)).sc u v)=run X D B' ((S.jq g (D.n-d)).sc u v):=fun d=>by
  induction d with
  |zero=>exact fun _=>h
  |succ d ih=>
   intro hd;have ih:=ih (by omega);obtain ⟨m,hm⟩: ∃m,m=D.n-(d+1):=⟨_,rfl⟩;rw [show D.n-d=m+1 by omega] at ih;rw [←hm];have AF:m<D.n:=by omega
   by_cases hs:S.st m<=1
   ·have e1:(S.jq g (m+1))=(S.jq g m).sx m (g m):=by
     unfold WS.jq WS.sx;congr 1;funext c;show (if c<m+1/\S.st c<=1 then g c else S.st c)=if c=m then g m else if c<m/\S.st c<=1 then g c else S.st c;by_cases hc:c=m
     ·subst hc;rw [if_pos rfl,if_pos ⟨by omega,hs⟩]
     ·rw [if_neg hc];by_cases h3:c<m/\S.st c<=1
      ·rw [if_pos ⟨by omega,h3.2⟩,if_pos h3]
      ·rw [if_neg h3,if_neg (by omega)]
    have e2:(S.jq g m)=(S.jq g m).sx m (S.st m):=by
     unfold WS.jq WS.sx;congr 1;funext c;unfold aM;by_cases hc:c=m
     ·subst hc;rw [if_pos rfl,if_neg (by omega)]
     ·rw [if_neg hc]
    have hT:Bd D (S.jq g m):=KV hB hg m;have aR:(S.jq g m).st m=S.st m:=if_neg (by omega);rw [e1] at ih;generalize GL:S.jq g m=T at*;have wx:T.ae=S.ae:=by rw [←GL];rfl
    obtain ⟨v0,v1⟩:=uD hT AF (by rw [aR];exact hs);have m1:2*m∈B:=h1.all _ (by omega) (by rw [←wx];exact v0);have m2:2*m∈B':=h2.all _ (by omega) (by rw [←wx];exact v0);have h5: ∀u v,run X D B ((T.sx m 5).sc u v)=run X D B' ((T.sx m 5).sc u v):=fun u v=>by
     refine IH _ ((CV hT (by rw [aR];exact hs) (.inr rfl)).sc u v) wx ?_;refine AX (x:=m) (fun c hc=>?_) hs (by show¬aM T.st m 5 m<=1;rw [bG];omega) D.n AF;have dh:aM T.st m 5 c<=1:=hc;by_cases e:c=m
     ·rw [e];exact hs
     ·rw [bt _ _ e,←GL] at dh;have Cm:(if c<m/\S.st c<=1 then g c else S.st c)<=1:=dh;by_cases h3:c<m/\S.st c<=1
      ·exact h3.2
      ·rwa [if_neg h3] at Cm
    have sk: ∀(B:List Nat),2*m∈B-> ∀u v,run X D B ((T.sx m (pq D m)).sc (u-1) v)=run X D B ((T.sx m (nq D m)).sc (u+1) v)+run X D B ((T.sx m 5).sc u (v+1)):=fun B hm u v=>by
     have:=A1 (X:=X) AF (hD.sg m AF) B (T.sc u v) v0 v1 hm
     simp only [WS.tT,WS.bQ,Int.add_zero] at this;exact this
    have BV:(g m=pq D m/\S.st m=nq D m)\/(g m=nq D m/\S.st m=pq D m)\/g m=S.st m:=by
     have:=hg m
     unfold pq nq
     split<;>omega
    intro u v;rw [e2];rcases BV with ⟨a1,a2⟩|⟨a1,a2⟩|a1
    ·rw [a2];rw [a1] at ih;have s1:=sk B m1 (u-1) v;have s2:=sk B' m2 (u-1) v;rw [ih,h5,s2] at s1;rw [show u-1+1=u by omega] at s1;omega
    ·rw [a2];rw [a1] at ih;have s1:=sk B m1 (u+1) v;have s2:=sk B' m2 (u+1) v;rw [ih,h5,←s2] at s1;rw [show u+1-1=u by omega] at s1;exact s1
    ·rw [←a1];exact ih u v
   ·have e1:S.jq g (m+1)=S.jq g m:=by
     unfold WS.jq;congr 1;funext c;by_cases hc:c=m
     ·subst hc;rw [if_neg (by omega),if_neg (by omega)]
     ·by_cases h3:c<m/\S.st c<=1
      ·rw [if_pos h3,if_pos ⟨by omega,h3.2⟩]
      ·rw [if_neg h3,if_neg (by omega)]
    rw [e1] at ih;exact ih
 have:=key D.n (Nat.le_refl _) 0 0
 rw [Nat.sub_self,WS.bK] at this;have e:S.jq g 0=S:=WS.ext' (fun a=>by
  show (if a/2<0/\S.st (a/2)<=1 then g (a/2) else S.st (a/2))=_;exact if_neg fun h=>by omega) rfl rfl rfl rfl
 rwa [e] at this
noncomputable def gC (S:WS) (l:List (Nat×Bool)) (t c:Nat):Nat:=by
 classical
 exact if aj l (2*c)&&aj l (2*c+1) then (if [2*c,2*c+1].Sublist (l.map Prod.fst) then 0 else 1) else if aj l (2*c) then t else if aj l (2*c+1) then 1-t else 0
theorem CU (S:WS) (l:List (Nat×Bool)) {t:Nat} (ht:t<=1) (c:Nat):gC S l t c<=1:=by
 unfold gC
 split
 ·split<;>omega
 split
 ·exact ht
 split<;>omega
theorem O7 {S:WS} {l:List (Nat×Bool)} {t b:Nat} (ht:t<=1) (h1:aj l b=false) (h2:aj l (co b)=true):gC S l t (b/2)=if t=0 then co b % 2 else b % 2:=by
 unfold gC;rcases ends b with ⟨k1,k2⟩|⟨k1,k2⟩
 ·rw [←k2,←k1,h1,h2];simp only [Bool.false_and,Bool.false_eq_true,if_false,if_true]
  split<;>omega
 ·rw [←k1,←k2,h1,h2];simp only [Bool.and_false,Bool.false_eq_true,if_false,if_true]
  split<;>omega
theorem O6 {S:WS} {l:List (Nat×Bool)} {t a:Nat} (hn:(l.map Prod.fst).Nodup) (h:[a,co a].Sublist (l.map Prod.fst)):gC S l t (a/2)=a % 2:=by
 have h1:aj l a=true:=my.2 (h.subset (by simp));have h2:aj l (co a)=true:=my.2 (h.subset (by simp));unfold gC;rcases ends a with ⟨k1,k2⟩|⟨k1,k2⟩
 ·rw [←k2,←k1,h1,h2];simp only [Bool.and_self,if_true];rw [if_pos h];omega
 ·rw [←k1,←k2,h1,h2];simp only [Bool.and_self,if_true];rw [if_neg (IV (Ne.symm (qU a)) hn h)];omega
end
end Hs
namespace Hs
open Sp (eY aV aw itn)
section
variable {D:Sh} {X:Int->Int->Nat->Int}
theorem KU {K sm:Nat->Bool} {S:WS} {b:Nat} {L:List Nat} (h:eI D (b::L) S) (hk:K b=true):eI D L (TK K sm S).cr:=⟨fun a ha=>h.lt a (.tail _ ha),fun a ha hv=>by
 have h1:(S.ae a||K a)=false:=hv;cases e:S.ae a with
 |true=>rw [e] at h1;cases h1
 |false=>
  rcases List.mem_cons.1 (h.all a ha e) with rfl|h2
  ·rw [hk,Bool.or_true] at h1;cases h1
  ·exact h2⟩
theorem Kp {K sm:Nat->Bool} {S:WS} {b:Nat} (hb:b<2*D.n) (hk:K b=true) (hv:S.ae b=false):fu D (TK K sm S)<fu D S:=by
 have mono: ∀m,unv (TK K sm S).ae m<=unv S.ae m:=fun m=>by
  induction m with
  |zero=>exact Nat.le_refl _
  |succ m ih=>
   simp only [unv]
   have:(TK K sm S).ae m=(S.ae m||K m):=rfl
   rw [this];cases S.ae m<;>cases K m<;>simp<;>omega
 have key: ∀m,b<m->unv (TK K sm S).ae m<unv S.ae m:=fun m=>by
  induction m with
  |zero=>intro h;omega
  |succ m ih=>
   intro h;simp only [unv];have e1:(TK K sm S).ae m=(S.ae m||K m):=rfl;rw [e1];by_cases e:b=m
   ·subst e
    have:=mono b
    rw [hv,hk];simp;omega
   ·have:=ih (by omega)
    cases S.ae m<;>cases K m<;>simp<;>omega
 exact key _ hb
theorem HI {K sm:Nat->Bool} {S:WS} {c:Nat} (h:(TK K sm S).st c<=1):S.st c<=1:=by
 have e:(if K (2*c)&&K (2*c+1) then 4 else if K (2*c) then (if S.ae (2*c+1) then 4 else if sm c then 2 else 3) else if K (2*c+1) then (if S.ae (2*c) then 4 else if sm c then 2 else 3) else S.st c)<=1:=h;revert e
 split
 ·omega
 split
 ·split
  ·omega
  split<;>omega
 split
 ·split
  ·omega
  split<;>omega
 ·exact id
def xu (D:Sh) (X:Int->Int->Nat->Int) (S:WS):Prop:= ∀S' B B',Bd D S'->(rl S' D.n<rl S D.n\/(rl S' D.n<=rl S D.n/\fu D S'<fu D S))->eI D B S'->eI D B' S'->run X D B S'=run X D B' S'
theorem xu.tk (hD:Ok D) {S:WS} (IH:xu D X S) {K sm:Nat->Bool} {b:Nat} {L L':List Nat} (hb:b<2*D.n) (hk:K b=true) (hv:S.ae b=false) (hB:Bd D (TK K sm S)) (h1:eI D (b::L) S) (h2:eI D (b::L') S):run X D L (TK K sm S).cr=run X D L' (TK K sm S).cr:=
 IH _ _ _ hB.cr (.inr ⟨sI (S:=S) (S':=(Hs.TK K sm S).cr) (fun c h=>HI (K:=K) (sm:=sm) h) D.n,Kp (sm:=sm) hb hk hv⟩) (KU h1 hk) (KU h2 hk)
noncomputable def put (D:Sh) (S:WS) (l:List (Nat×Bool)) (t:Nat):WS:=S.jq (gC S l t) D.n
theorem Ea {S:WS} {l:List (Nat×Bool)} {t:Nat} (ht:t<=1):aq (put D S l t)=aq S:=funext fun c=>by
 have e:(put D S l t).st c=if c<D.n/\S.st c<=1 then gC S l t c else S.st c:=rfl
 have:=CU S l ht c
 cases h:aq S c with
 |true=>
  refine sF.2 ?_;rw [e,if_neg (by have:=sF.1 h;omega)];exact sF.1 h
 |false=>
  refine rZ.2 ?_
  have:=rZ.1 h
  rw [e]
  split<;>omega
theorem C8 {S:WS} {l:List (Nat×Bool)} {b t:Nat} (ht:t<=1) (hB:Bd D S) (C:im D (aj l) (aq S) l b) (cS: ∀a,aj l a=true->S.ae a=false):
  Bd D (put D S l t)/\QK D (aj l) (aq S) (fun b=>if t=0 then co b % 2 else b % 2) (put D S l t).st l (put D S l t) D.n/\oT (aq S) (put D S l t).st l:=by
 have iZ:Bd D (put D S l t):=KV hB (CU S l ht) _;have e: ∀c,(put D S l t).st c=if c<D.n/\S.st c<=1 then gC S l t c else S.st c:=fun _=>rfl;refine ⟨iZ,?_,?_⟩
 ·have C':im D (aj l) (aq (put D S l t)) l b:=by rw [Ea ht];exact C
  have:=QK.of (r:=fun b=>if t=0 then co b % 2 else b % 2) iZ C' cS fun c hc h1 h2 h3=>by
   rw [e] at h3⊢;by_cases h4:c/2<D.n/\S.st (c/2)<=1
   ·rw [if_pos h4];exact O7 ht h1 h2
   ·rw [if_neg h4] at h3;omega
  rwa [Ea ht] at this
 ·intro a hs h;have ha:aj l a=true:=my.2 (h.subset (by simp));have hc:aj l (co a)=true:=my.2 (h.subset (by simp));have bZ:=C.vE ha;have f:=hB a bZ;unfold Fit aD at f;rw [cS a ha,cS _ hc] at f;have n:=rZ.1 hs;have h1:S.st (a/2)<=1:=by
   rcases f with ⟨h,_⟩|⟨_,h,_⟩|⟨_,_,h⟩|⟨_,_,h⟩
   ·omega
   ·cases h
   ·cases h
   ·cases h
  rw [e,if_pos ⟨by omega,h1⟩];exact O6 C.nd h
theorem KT {S:WS} {l:List (Nat×Bool)} {t:Nat} (S':WS):rl (put D S l t) D.n<=rl S D.n:=sI (fun c hc=>by
 have e:(put D S l t).st c=if c<D.n/\S.st c<=1 then gC S l t c else S.st c:=rfl;rw [e] at hc;by_cases h:c<D.n/\S.st c<=1
 ·exact h.2
 ·rwa [if_neg h] at hc) _
theorem xu.put {S:WS} (IH:xu D X S) (l:List (Nat×Bool)) (t:Nat) (u v:Int):xu D X ((put D S l t).sc u v):=fun S' B B' iZ h h1 h2=>by
 have e1:rl ((Hs.put D S l t).sc u v) D.n=rl (Hs.put D S l t) D.n:=by
  refine Nat.le_antisymm (sI (S:=Hs.put D S l t) (S':=(Hs.put D S l t).sc u v) (fun c h=>h) _) (sI (S':=Hs.put D S l t) (S:=(Hs.put D S l t).sc u v) (fun c h=>h) _)
 have e2:=KT (D:=D) (S:=S) (l:=l) (t:=t) S;have e3:fu D ((Hs.put D S l t).sc u v)=fu D S:=rfl;rw [e1,e3] at h;exact IH S' B B' iZ (by omega) h1 h2
theorem KS (hD:Ok D) {S:WS} (IH:xu D X S) {B B':List Nat} (hB:Bd D S) (h1:eI D B S) (h2:eI D B' S) {l:List (Nat×Bool)} {t:Nat} (ht:t<=1) (h: ∀u v,run X D B ((put D S l t).sc u v)=run X D B' ((put D S l t).sc u v)):run X D B S=run X D B' S:=
 Hj hD hB h1 h2 (fun S' iZ hv hr=>IH S' B B' iZ (.inl hr) ⟨h1.lt,by rw [hv];exact h1.all⟩ ⟨h2.lt,by rw [hv];exact h2.all⟩) (CU S l ht) h
theorem vw (hD:Ok D) {S:WS} {K sm:Nat->Bool} {dF:Nat->Nat} {l:List (Nat×Bool)} {b:Nat} {r:Nat->Nat} (hB:Bd D S) (C:im D K sm l b) (h:QK D K sm r dF l S D.n) (hO:zO K dF l) (hr: ∀a,r (co a)=a % 2) (L:List Nat):run X D (b::L) S=run X D L (TK K sm S).cr/\Bd D (TK K sm S):=by
 have hv0:S.ae b=false:=(h.ae b C.hd).2 ((C.mem b).1 C.hd);obtain ⟨t1,t2⟩:=top hD C hO hr hB.cr h.cr (run X D L);refine ⟨?_,t2⟩;show (if S.ae b=true then _ else bA D S.cr b (run X D L))=_;rw [if_neg (by simp [hv0]),t1,D4]
theorem E0 (hD:Ok D) {S:WS} (IH:xu D X S) (hB:Bd D S) {b:Nat} (hb:b<2*D.n) (hv:S.ae b=false) {L L':List Nat} (h1:eI D (b::L) S) (h2:eI D (b::L') S):run X D (b::L) S=run X D (b::L') S:=by
 obtain ⟨l,C,cS,_,_⟩:=u9 hD hB hb hv;refine KS hD IH hB h1 h2 (l:=l) (t:=0) (by omega) fun u v=>?_;obtain ⟨p1,p2,p3⟩:=C8 (t:=0) (by omega) hB C cS;obtain ⟨t1,t2⟩:=vw (X:=X) hD (p1.sc u v) C (p2.sc u v) (p3.ord C.ty) (fun a=>by rw [if_pos rfl,di]) L;obtain ⟨t3,_⟩:=vw (X:=X) hD (p1.sc u v) C (p2.sc u v) (p3.ord C.ty) (fun a=>by rw [if_pos rfl,di]) L';rw [t1,t3]
 exact (IH.put l 0 u v).tk hD hb C.hd hv t2 ⟨h1.lt,h1.all⟩ ⟨h2.lt,h2.all⟩
theorem EX (hD:Ok D) {al:Nat->Nat} (hP:qT D al) {S:WS} (IH:xu D X S) (hB:Bd D S) {b b':Nat} (hb:b<2*D.n) (hv:S.ae b=false) (lT:b'<2*D.n) (gN:S.ae b'=false) {l:List (Nat×Bool)} (C:im D (aj l) (aq S) l b') (cS: ∀a,aj l a=true->S.ae a=false) (hn:aj l b=false) {L L':List Nat} (h1:eI D (b::L) S) (h2:eI D (b'::L') S):run X D (b::L) S=run X D (b'::L') S:=by
 obtain ⟨lA,Of⟩: ∃lA,lA=b::(List.range (2*D.n)).filter fun a=> !aj l a:=⟨_,rfl⟩;have hA: ∀a∈lA,a<2*D.n/\aj l a=false:=fun a ha=>by
  rw [Of] at ha;rcases List.mem_cons.1 ha with rfl|ha
  ·exact ⟨hb,hn⟩
  ·rw [List.mem_filter] at ha;exact ⟨List.mem_range.1 ha.1,by simpa using ha.2⟩
 have cA:eI D (lA++b'::List.range (2*D.n)) S:=⟨fun a ha=>by
  rcases List.mem_append.1 ha with h|h
  ·exact (hA a h).1
  rcases List.mem_cons.1 h with rfl|h
  ·exact lT
  ·exact List.mem_range.1 h,fun a ha _=>by simp [ha]⟩
 have e1:run X D (b::L) S=run X D (lA++b'::List.range (2*D.n)) S:=by
  rw [Of];exact E0 hD IH hB hb hv h1 (by rw [Of] at cA;exact cA)
 rw [e1];refine KS hD IH hB cA h2 (l:=l) (t:=1) (by omega) fun u v=>?_;obtain ⟨p1,p2,p3⟩:=C8 (t:=1) (by omega) hB C cS;have hr: ∀a,(fun b=>if (1:Nat)=0 then co b % 2 else b % 2) a=a % 2:=fun a=>if_neg (by omega);rw [back hD hP C (p3.ord C.ty) hr X _ lA hA (p1.sc u v) (p2.sc u v),Kq hD hP C (p3.ord C.ty) hr (p1.sc u v) (p2.sc u v)]
 have yA:=Kr hD C (p3.ord C.ty) (fun a=>by show (if (1:Nat)=0 then co a % 2 else a % 2)<=1;split<;>omega) (p1.sc u v) (p2.sc u v);exact (IH.put l 1 u v).tk hD lT C.hd gN yA ⟨fun a ha=>by
  rcases List.mem_cons.1 ha with rfl|h
  ·exact lT
  rcases List.mem_append.1 h with h|h
  ·exact (hA a h).1
  ·exact List.mem_range.1 h,fun a ha _=>by simp [ha]⟩ ⟨h2.lt,h2.all⟩
end
end Hs
end Go.Proofs.YtjpbeacamoijhaaGreatDoor
