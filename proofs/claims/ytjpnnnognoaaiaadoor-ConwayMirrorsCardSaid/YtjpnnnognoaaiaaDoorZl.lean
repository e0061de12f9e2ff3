/- Plain: THE ORDER OF THE CIRCLES does not matter on the sphere. -/
import Derived.Test.YtjpnnnognoaaiaaDoorHs9
namespace Go.Proofs.YtjpnnnognoaaiaaDoor
set_option linter.unusedSimpArgs false
set_option linter.unusedVariables false
namespace Hs
open Sp (Sph siD PermN itn)
section
variable {D:Sh}
def sm0 (S:WS) (c:Nat):Bool:=decide (S.st c=5\/S.st c=2)
theorem ydg {S:WS} {c:Nat}:sm0 S c=true↔S.st c=5\/S.st c=2:=by unfold sm0;exact decide_eq_true_iff
theorem yc5 {S:WS} {c:Nat}:sm0 S c=false↔S.st c≠5/\S.st c≠2:=by
 unfold sm0;rw [decide_eq_false_iff_not];omega
def nxB (D:Sh) (sm:Nat->Bool) (a:Nat):Nat:=nof D a (!sm (a/2))
theorem yev (hD:Ok D) (sm:Nat->Bool):PermN (2*D.n) (nxB D sm):=by
 refine ⟨fun a ha=>?_,fun a b ha hb e=>?_⟩
 ·unfold nxB nof;split
  ·exact hD.lt _ ha
  ·exact hD.lt _ (yav ha)
 ·unfold nxB nof at e
  cases h1:sm (a/2)<;>cases h2:sm (b/2)<;>rw [h1,h2] at e
  ·exact hD.inj _ _ ha hb e
  ·have e':a=co b:=hD.inj _ _ ha (yav hb) e
   rw [e',yai,h2] at h1;cases h1
  ·have e':co a=b:=hD.inj _ _ (yav ha) hb e
   rw [←e',yai,h1] at h2;cases h2
  ·have e':co a=co b:=hD.inj _ _ (yav ha) (yav hb) e
   rw [←yap a,e',yap]
theorem ytx: ∀(l:List (Nat×Bool)) (s e:Nat),chn D s l e-> ∀a∈l.map Prod.fst,a=s\/ ∃x∈l,nof D x.1 x.2=a
 |[],s,e,_,a,ha=>by cases ha
 |(c,p)::l,s,e,h,a,ha=>by
  obtain ⟨h1,h2⟩:=h
  rcases List.mem_cons.1 ha with rfl|ha
  ·exact .inl h1.symm
  ·rcases ytx l _ e h2 a ha with h|⟨x,hx,h⟩
   ·exact .inr ⟨(c,p), .head _,h.symm⟩
   ·exact .inr ⟨x, .tail _ hx,h⟩
theorem yty: ∀(l:List (Nat×Bool)) (s e:Nat),chn D s l e->l≠[]-> ∃x∈l,nof D x.1 x.2=e
 |[],s,e,_,h=>absurd rfl h
 |(c,p)::l,s,e,h,_=>by
  obtain ⟨h1,h2⟩:=h
  cases l with
  |nil=>exact ⟨(c,p), .head _,h2⟩
  |cons y l=>
   obtain ⟨x,hx,e'⟩:=yty (y::l) _ e h2 (by simp)
   exact ⟨x, .tail _ hx,e'⟩
def kOf (l:List (Nat×Bool)) (a:Nat):Bool:=decide (a∈l.map Prod.fst)
theorem ybq {l:List (Nat×Bool)} {a:Nat}:kOf l a=true↔a∈l.map Prod.fst:=by unfold kOf;exact decide_eq_true_iff
theorem Crc.make (hD:Ok D) {sm:Nat->Bool} {l:List (Nat×Bool)} {b:Nat} (ch:chn D b l b) (ne:l≠[]) (lt: ∀x∈l,x.1<2*D.n) (nd:(l.map Prod.fst).Nodup) (ty: ∀x∈l,x.2= !sm (x.1/2)):Crc D (kOf l) sm l b:=by
 have hp:=yev hD sm
 have pre: ∀c,c<2*D.n->kOf l (nxB D sm c)=true->kOf l c=true:=fun c hc hk=>by
  have: ∃x∈l,nof D x.1 x.2=nxB D sm c:=by
   rcases ytx l b b ch _ (ybq.1 hk) with h|h
   ·rw [h];exact yty l b b ch ne
   ·exact h
  obtain ⟨x,hx,e⟩:=this
  rw [ty x hx] at e
  have:=hp.inj _ _ (lt x hx) hc e
  rw [←this];exact ybq.2 (List.mem_map.2 ⟨x,hx,rfl⟩)
 have pre': ∀c,c<2*D.n->kOf l c=false->kOf l (nxB D sm c)=false:=fun c hc hk=>by
  cases e:kOf l (nxB D sm c) with
  |false=>rfl
  |true=>rw [pre c hc e] at hk;cases hk
 refine ⟨ch,ne,lt,nd,fun a=>ybq,ty,fun c hc hk=>?_⟩
 have h1:=pre' c hc hk
 unfold nxB nof at h1
 refine ⟨fun _=>⟨fun hs=>?_,fun hs=>?_⟩,fun hk'=>?_⟩
 ·rw [hs] at h1;exact h1
 ·rw [hs] at h1;exact h1
 ·have h2:=pre' (co c) (yav hc) hk'
  unfold nxB nof at h2
  rw [yai,yap] at h2
  cases hs:sm (c/2) with
  |true=>rw [hs] at h1 h2;exact ⟨h2,h1⟩
  |false=>rw [hs] at h1 h2;exact ⟨h1,h2⟩
def pl (D:Sh) (sm:Nat->Bool) (b:Nat):Nat->Nat->List (Nat×Bool)
 |0,_=>[]
 |m+1,i=>(itn (nxB D sm) i b,!sm (itn (nxB D sm) i b/2))::pl D sm b m (i+1)
theorem y2x (sm:Nat->Bool) (b:Nat): ∀m i,chn D (itn (nxB D sm) i b) (pl D sm b m i) (itn (nxB D sm) (i+m) b)
 |0,i=>rfl
 |m+1,i=>by
  refine ⟨rfl,?_⟩
  have:=y2x sm b m (i+1)
  rw [show i+1+m=i+(m+1) by omega] at this
  exact this
theorem yh1 {sm:Nat->Bool} {b:Nat}: ∀{m i:Nat} {x:Nat×Bool},x∈pl D sm b m i-> ∃j,i<=j/\j<i+m/\x=(itn (nxB D sm) j b,!sm (itn (nxB D sm) j b/2))
 |0,i,x,h=>by cases h
 |m+1,i,x,h=>by
  rcases List.mem_cons.1 h with rfl|h
  ·exact ⟨i,by omega,by omega,rfl⟩
  ·obtain ⟨j,h1,h2,h3⟩:=yh1 h
   exact ⟨j,by omega,by omega,h3⟩
theorem y2y {sm:Nat->Bool} {b:Nat}: ∀{m i j:Nat},i<=j->j<i+m->itn (nxB D sm) j b∈(pl D sm b m i).map Prod.fst
 |0,i,j,h1,h2=>by omega
 |m+1,i,j,h1,h2=>by
  by_cases e:j=i
  ·subst e;exact .head _
  ·exact .tail _ (y2y (by omega) (by omega))
theorem y2z {sm:Nat->Bool} {b k:Nat} (h: ∀i j,i<j->j<k->itn (nxB D sm) i b≠itn (nxB D sm) j b): ∀m i,i+m<=k->((pl D sm b m i).map Prod.fst).Nodup
 |0,i,_=> .nil
 |m+1,i,hm=>by
  show (itn (nxB D sm) i b::(pl D sm b m (i+1)).map Prod.fst).Nodup
  refine List.nodup_cons.2 ⟨fun hin=>?_,y2z h m (i+1) (by omega)⟩
  obtain ⟨x,hx,e⟩:=List.mem_map.1 hin
  obtain ⟨j,h1,h2,rfl⟩:=yh1 hx
  exact h i j (by omega) (by omega) e.symm
theorem circ (hD:Ok D) {S:WS} (hB:Bd D S) {b:Nat} (hb:b<2*D.n) (hv:S.vis b=false): ∃l,Crc D (kOf l) (sm0 S) l b/\(∀a,kOf l a=true->S.vis a=false)/\(∀i,kOf l (itn (nxB D (sm0 S)) i b)=true)/\(∀a,kOf l a=true-> ∃i,a=itn (nxB D (sm0 S)) i b):=by
 have hp:=yev hD (sm0 S)
 obtain ⟨k,h0,hk,hmin⟩:=Sp.first_back hp hb
 have hne: ∀i j,i<j->j<k->itn (nxB D (sm0 S)) i b≠itn (nxB D (sm0 S)) j b:=fun i j hij hj e=>by
  refine hmin (j-i) (by omega) (by omega) ?_
  have e2:itn (nxB D (sm0 S)) i (itn (nxB D (sm0 S)) (j-i) b)=itn (nxB D (sm0 S)) i b:=by rw [←Sp.itn_add,show i+(j-i)=j by omega];exact e.symm
  exact hp.itn_inj (hp.itn_lt hb _) hb i e2
 have hun: ∀i,S.vis (itn (nxB D (sm0 S)) i b)=false:=fun i=>by
  induction i with
  |zero=>exact hv
  |succ i ih=>
   have hl:=hp.itn_lt hb i
   simp only [itn]
   generalize itn (nxB D (sm0 S)) i b=a at*
   have f:=hB a hl
   have f':=hB (co a) (yav hl)
   unfold Fit at f f'
   rw [yai,yap] at f'
   unfold nxB nof
   cases hs:sm0 S (a/2) with
   |true=>
    rcases ydg.1 hs with h|h
    ·rw [h,FitP.i0 (.inr rfl)] at f'
     simpa using f'.2
    ·rw [h,FitP.i2] at f
     cases e:S.vis (D.nx (co a)) with
     |false=>exact e
     |true=>rw [f.1.2 e] at ih;cases ih
   |false=>
    obtain ⟨n5,n2⟩:=yc5.1 hs
    unfold FitP at f
    rcases f with ⟨_,_,h⟩|⟨_,h,_⟩|⟨_,h,_⟩|⟨h,_⟩
    ·simpa using h
    ·rw [h] at ih;cases ih
    ·cases e:S.vis (D.nx a) with
     |false=>exact e
     |true=>rw [h.2 e] at ih;cases ih
    ·exact absurd h n2
 refine ⟨pl D (sm0 S) b k 0,Crc.make hD ?_ ?_ ?_ (y2z hne k 0 (by omega)) ?_,?_,?_,?_⟩
 ·have:=y2x (D:=D) (sm0 S) b k 0
  rw [Nat.zero_add,hk] at this
  exact this
 ·obtain ⟨m,rfl⟩: ∃m,k=m+1:=⟨k-1,by omega⟩
  intro e;cases e
 ·intro x hx
  obtain ⟨j,_,_,rfl⟩:=yh1 hx
  exact hp.itn_lt hb j
 ·intro x hx
  obtain ⟨j,_,_,rfl⟩:=yh1 hx
  rfl
 ·intro a ha
  obtain ⟨x,hx,rfl⟩:=List.mem_map.1 (ybq.1 ha)
  obtain ⟨j,_,_,rfl⟩:=yh1 hx
  exact hun j
 ·intro i
  have: ∀i,∃j,j<k/\itn (nxB D (sm0 S)) i b=itn (nxB D (sm0 S)) j b:=fun i=>by
   induction i with
   |zero=>exact ⟨0,h0,rfl⟩
   |succ i ih=>
    obtain ⟨j,hj,e⟩:=ih
    by_cases h:j+1<k
    ·exact ⟨j+1,h,by simp only [itn];rw [e]⟩
    ·refine ⟨0,h0,?_⟩
     have:j+1=k:=by omega
     simp only [itn]
     rw [e]
     have e2:nxB D (sm0 S) (itn (nxB D (sm0 S)) j b)=itn (nxB D (sm0 S)) (j+1) b:=rfl
     rw [e2,this,hk]
  obtain ⟨j,hj,e⟩:=this i
  rw [e]
  exact ybq.2 (y2y (Nat.zero_le _) (by omega))
 ·intro a ha
  obtain ⟨x,hx,rfl⟩:=List.mem_map.1 (ybq.1 ha)
  obtain ⟨j,_,_,rfl⟩:=yh1 hx
  exact ⟨j,rfl⟩
theorem QK.of {S:WS} {K:Nat->Bool} {l:List (Nat×Bool)} {b:Nat} {r:Nat->Nat} (hB:Bd D S) (C:Crc D K (sm0 S) l b) (hun: ∀a,K a=true->S.vis a=false) (hr: ∀b,b<2*D.n->K b=false->K (co b)=true->S.st (b/2)<=1->S.st (b/2)=r b):QK D K (sm0 S) r S.st l S D.n:=by
 refine ⟨fun a ha=>⟨fun _=>(C.mem a).1 ha,fun _=>hun a ha⟩,fun b hb hk hc _=>?_,fun a ha hk hc=>?_⟩
 ·have f:=hB b hb
  unfold Fit at f
  have hv:=hun _ hc
  rw [hv]
  unfold FitP at f
  rcases f with ⟨h,h1,_⟩|⟨h,_,h2⟩|⟨h,_,h1⟩|⟨h,_,h1⟩
  ·rw [h1]
   rcases h with h|h
   ·have:sm0 S (b/2)=false:=yc5.2 (by omega)
    rw [this];exact hr b hb hk hc h
   ·have:sm0 S (b/2)=true:=ydg.2 (.inl h)
    rw [this,h];rfl
  ·have f':=hB (co b) (yav hb)
   unfold Fit at f'
   rw [yai,h,FitP.i4,hv] at f'
   cases f'.1
  ·rw [hv] at h1
   have:sm0 S (b/2)=false:=yc5.2 (by omega)
   rw [h1,this,h];rfl
  ·rw [hv] at h1
   have:sm0 S (b/2)=true:=ydg.2 (.inr h)
   rw [h1,this,h];rfl
 ·have f:=hB a ha
  unfold Fit at f
  rw [hun _ hk,hun _ hc] at f⊢
  unfold FitP at f
  rcases f with ⟨h,h1,_⟩|⟨h,h1,h2⟩|⟨h,_,h1⟩|⟨h,_,h1⟩
  ·rcases h with h|h
   ·have:sm0 S (a/2)=false:=yc5.2 (by omega)
    rw [this];rfl
   ·have:sm0 S (a/2)=true:=ydg.2 (.inl h)
    rw [this,h];rfl
  ·cases h1
  ·cases h1
  ·cases h1
def Orc' (sm:Nat->Bool) (st0:Nat->Nat) (l0:List (Nat×Bool)):Prop:= ∀a,sm (a/2)=false->[a,co a].Sublist (l0.map Prod.fst)->st0 (a/2)=a % 2
theorem Orc'.ord {K sm:Nat->Bool} {st0:Nat->Nat} {l:List (Nat×Bool)} (ty: ∀x∈l,x.2= !sm (x.1/2)) (h:Orc' sm st0 l):Orc K st0 l:=fun l1 a l2 e _ hin=>by
 have:=ty (a,true) (by rw [e];simp)
 refine h a ?_ ?_
 ·cases e:sm (a/2) with
  |false=>rfl
  |true=>rw [e] at this;cases this
 ·rw [e,List.map_append,List.map_cons]
  exact ((List.singleton_sublist.2 hin).cons_cons a).trans (List.sublist_append_right _ _)
theorem yi7 {a b:Nat} (hab:a≠b): ∀{L:List Nat},L.Nodup->[a,b].Sublist L-> ¬[b,a].Sublist L
 |[],_,h=>by cases h
 |c::L,hn,h=>fun h'=>by
  obtain ⟨h1,h2⟩:=List.nodup_cons.1 hn
  cases h with
  |cons _ h=>
   cases h' with
   |cons _ h'=>exact yi7 hab h2 h h'
   |cons_cons _ h'=>exact h1 (h.subset (by simp))
  |cons_cons _ h=>
   cases h' with
   |cons _ h'=>exact h1 (h'.subset (by simp))
   |cons_cons _ h'=>exact hab rfl
end
end Hs
end Go.Proofs.YtjpnnnognoaaiaaDoor
namespace Go.Proofs.YtjpnnnognoaaiaaDoor
set_option linter.unusedSimpArgs false
set_option linter.unusedVariables false
namespace Hs
open Sp (Sph siD PermN itn)
section
variable {D:Sh}
def rl (S:WS):Nat->Nat
 |0=>0
 |m+1=>rl S m+if S.st m<=1 then 1 else 0
theorem ycv {S S':WS} (h: ∀c,S'.st c<=1->S.st c<=1): ∀m,rl S' m<=rl S m
 |0=>Nat.le_refl _
 |m+1=>by
  have:=ycv h m
  simp only [rl]
  by_cases h1:S'.st m<=1
  ·rw [if_pos h1,if_pos (h m h1)];omega
  ·rw [if_neg h1];omega
theorem ynd {S S':WS} (h: ∀c,S'.st c<=1->S.st c<=1) {x:Nat} (h1:S.st x<=1) (h2: ¬S'.st x<=1): ∀m,x<m->rl S' m<rl S m
 |0,hx=>by omega
 |m+1,hx=>by
  simp only [rl]
  by_cases e:x=m
  ·subst e
   have:=ycv h x
   rw [if_pos h1,if_neg h2];omega
  ·have:=ynd h h1 h2 m (by omega)
   by_cases h3:S'.st m<=1
   ·rw [if_pos h3,if_pos (h m h3)];omega
   ·rw [if_neg h3];omega
theorem ye4 {X:Int->Int->Nat->Int}: ∀(B:List Nat) (S:WS),(∀a∈B,S.vis a=true)->run X D B S=X S.i S.j S.k
 |[],S,_=>rfl
 |a::B,S,h=>by
  unfold run
  rw [if_pos (h a (.head _))]
  exact ye4 B S fun b hb=>h b (.tail _ hb)
theorem br_k {S:WS} {a:Nat} {x:Int×WS×Nat} (h:x∈br D S a):x.2.1.k=S.k:=by
 unfold br at h
 split at h
 ·cases h
 split at h
 ·rw [List.mem_singleton] at h;subst h;rfl
 split at h
 ·rw [List.mem_singleton] at h;subst h;rfl
 split at h
 ·rw [List.mem_singleton] at h;subst h;rfl
 split at h
 ·rw [List.mem_singleton] at h;subst h;rfl
 split at h
 ·rcases List.mem_cons.1 h with h|h
  ·subst h;rfl
  ·rw [List.mem_singleton] at h;subst h;rfl
 ·cases h
theorem y85 {S:WS} {a:Nat} {k k':WS->Int} (h: ∀S',S'.k=S.k->k S'=k' S'):wk1 D S a k=wk1 D S a k':=by
 unfold wk1
 refine ybe fun x hx=>ygj (fun S' _=>S'.k=S.k) (fun S' b h1 _ _ y hy=>(br_k hy).trans h1) (fun S' b h1 _=>h S' h1) (br_k hx)
def Good (X:Int->Int->Nat->Int):Prop:= ∀i j k,1<=k->X (i-1) j k=X (i+1) j k+X i (j+1) (k+1)
theorem ypo {X:Int->Int->Nat->Int} (hX:Good X): ∀(B:List Nat) (T:WS),1<=T.k->run X D B (T.sc (-1) 0)=run X D B (T.sc 1 0)+run X D B (T.cr.sc 0 1)
 |[],T,hk=>by
  show X (T.i+ -1) (T.j+0) T.k=X (T.i+1) (T.j+0) T.k+X (T.i+0) (T.j+1) (T.k+1)
  rw [Int.add_zero,Int.add_zero]
  exact hX T.i T.j T.k hk
 |a::B,T,hk=>by
  unfold run
  show (if T.vis a=true then _ else _)=(if T.vis a=true then _ else _)+(if T.vis a=true then _ else _)
  cases hv:T.vis a with
  |true=>exact ypo hX B T hk
  |false=>
   simp only [Bool.false_eq_true,if_false]
   rw [WS.sc_cr,WS.sc_cr,WS.sc_cr,ym5,ym5,ym5,yyi T.cr,←yts]
   refine y85 fun S' h'=>?_
   rw [ypo hX B S' (by rw [h'];show 1<=T.k+1;omega)]
def WS.asN (S:WS) (g:Nat->Nat) (m:Nat):WS:={S with st:=fun c=>if c<m/\S.st c<=1 then g c else S.st c}
theorem yrc {S:WS} (hB:Bd D S) {g:Nat->Nat} (hg: ∀c,g c<=1) (m:Nat):Bd D (S.asN g m):=hB.chg rfl fun c=>by
 show (_/\((if _ then _ else _)<=1\/_))\/(if _ then _ else _)=_
 by_cases h:c<m/\S.st c<=1
 ·rw [if_pos h];exact .inl ⟨h.2, .inl (hg c)⟩
 ·rw [if_neg h];exact .inr rfl
structure Cov (D:Sh) (B:List Nat) (S:WS):Prop where
 lt: ∀a∈B,a<2*D.n
 all: ∀a,a<2*D.n->S.vis a=false->a∈B
theorem ykt {S:WS} (hB:Bd D S) {x v:Nat} (h:S.st x<=1) (hv:v<=1\/v=5):Bd D (S.sx x v):=hB.chg rfl fun c=>by
 by_cases e:c=x
 ·subst e
  left
  refine ⟨h,?_⟩
  show upd S.st c v c<=1\/upd S.st c v c=5
  rw [yad];exact hv
 ·exact .inr (yaf _ _ e)
theorem unm {S:WS} (hB:Bd D S) {x:Nat} (hx:x<D.n) (h:S.st x<=1):S.vis (2*x)=false/\S.vis (2*x+1)=false:=by
 have f:=hB (2*x) (by omega)
 have f':=hB (2*x+1) (by omega)
 unfold Fit at f f'
 rw [show 2*x/2=x by omega,FitP.i0 (.inl h)] at f
 rw [show (2*x+1)/2=x by omega,FitP.i0 (.inl h)] at f'
 exact ⟨f.1,f'.1⟩
theorem y86 {X:Int->Int->Nat->Int} (hD:Ok D) {B B':List Nat} {S:WS} (hB:Bd D S) (h1:Cov D B S) (h2:Cov D B' S) (IH: ∀S',Bd D S'->S'.vis=S.vis->rl S' D.n<rl S D.n->run X D B S'=run X D B' S') {g:Nat->Nat} (hg: ∀c,g c<=1)
  (h: ∀u v,run X D B ((S.asN g D.n).sc u v)=run X D B' ((S.asN g D.n).sc u v)):run X D B S=run X D B' S:=by
 have key: ∀d,d<=D.n-> ∀u v,run X D B ((S.asN g (D.n-d)).sc u v)=run X D B' ((S.asN g (D.n-d)).sc u v):=fun d=>by
  induction d with
  |zero=>exact fun _=>h
  |succ d ih=>
   intro hd
   have ih:=ih (by omega)
   obtain ⟨m,hm⟩: ∃m,m=D.n-(d+1):=⟨_,rfl⟩
   rw [show D.n-d=m+1 by omega] at ih
   rw [←hm]
   have hmn:m<D.n:=by omega
   by_cases hs:S.st m<=1
   ·have e1:(S.asN g (m+1))=(S.asN g m).sx m (g m):=by
     unfold WS.asN WS.sx
     congr 1
     funext c
     show (if c<m+1/\S.st c<=1 then g c else S.st c)=if c=m then g m else if c<m/\S.st c<=1 then g c else S.st c
     by_cases hc:c=m
     ·subst hc;rw [if_pos rfl,if_pos ⟨by omega,hs⟩]
     ·rw [if_neg hc]
      by_cases h3:c<m/\S.st c<=1
      ·rw [if_pos ⟨by omega,h3.2⟩,if_pos h3]
      ·rw [if_neg h3,if_neg (by omega)]
    have e2:(S.asN g m)=(S.asN g m).sx m (S.st m):=by
     unfold WS.asN WS.sx
     congr 1
     funext c
     unfold upd
     by_cases hc:c=m
     ·subst hc;rw [if_pos rfl,if_neg (by omega)]
     ·rw [if_neg hc]
    have hT:Bd D (S.asN g m):=yrc hB hg m
    have hst:(S.asN g m).st m=S.st m:=if_neg (by omega)
    rw [e1] at ih
    generalize hTe:S.asN g m=T at*
    have hvis:T.vis=S.vis:=by rw [←hTe];rfl
    obtain ⟨v0,v1⟩:=unm hT hmn (by rw [hst];exact hs)
    have m1:2*m∈B:=h1.all _ (by omega) (by rw [←hvis];exact v0)
    have m2:2*m∈B':=h2.all _ (by omega) (by rw [←hvis];exact v0)
    have h5: ∀u v,run X D B ((T.sx m 5).sc u v)=run X D B' ((T.sx m 5).sc u v):=fun u v=>by
     refine IH _ ((ykt hT (by rw [hst];exact hs) (.inr rfl)).sc u v) hvis ?_
     refine ynd (x:=m) (fun c hc=>?_) hs (by show¬upd T.st m 5 m<=1;rw [yad];omega) D.n hmn
     have hc':upd T.st m 5 c<=1:=hc
     by_cases e:c=m
     ·rw [e];exact hs
     ·rw [yaf _ _ e,←hTe] at hc'
      have hc'':(if c<m/\S.st c<=1 then g c else S.st c)<=1:=hc'
      by_cases h3:c<m/\S.st c<=1
      ·exact h3.2
      ·rwa [if_neg h3] at hc''
    have sk: ∀(B:List Nat),2*m∈B-> ∀u v,run X D B ((T.sx m (pq D m)).sc (u-1) v)=run X D B ((T.sx m (nq D m)).sc (u+1) v)+run X D B ((T.sx m 5).sc u (v+1)):=fun B hm u v=>by
     have:=yhh (X:=X) hmn (hD.sg m hmn) B (T.sc u v) v0 v1 hm
     simp only [WS.sc_sx,WS.sc_sc,Int.add_zero] at this
     exact this
    have hpn:(g m=pq D m/\S.st m=nq D m)\/(g m=nq D m/\S.st m=pq D m)\/g m=S.st m:=by
     have:=hg m
     unfold pq nq
     split<;>omega
    intro u v
    rw [e2]
    rcases hpn with ⟨a1,a2⟩|⟨a1,a2⟩|a1
    ·rw [a2]
     rw [a1] at ih
     have s1:=sk B m1 (u-1) v
     have s2:=sk B' m2 (u-1) v
     rw [ih,h5,s2] at s1
     rw [show u-1+1=u by omega] at s1
     omega
    ·rw [a2]
     rw [a1] at ih
     have s1:=sk B m1 (u+1) v
     have s2:=sk B' m2 (u+1) v
     rw [ih,h5,←s2] at s1
     rw [show u+1-1=u by omega] at s1
     exact s1
    ·rw [←a1];exact ih u v
   ·have e1:S.asN g (m+1)=S.asN g m:=by
     unfold WS.asN
     congr 1
     funext c
     by_cases hc:c=m
     ·subst hc;rw [if_neg (by omega),if_neg (by omega)]
     ·by_cases h3:c<m/\S.st c<=1
      ·rw [if_pos h3,if_pos ⟨by omega,h3.2⟩]
      ·rw [if_neg h3,if_neg (by omega)]
    rw [e1] at ih;exact ih
 have:=key D.n (Nat.le_refl _) 0 0
 rw [Nat.sub_self,WS.sc_zero] at this
 have e:S.asN g 0=S:=WS.ext' (fun a=>by
  show (if a/2<0/\S.st (a/2)<=1 then g (a/2) else S.st (a/2))=_
  exact if_neg fun h=>by omega) rfl rfl rfl rfl
 rwa [e] at this
noncomputable def gC (S:WS) (l:List (Nat×Bool)) (t c:Nat):Nat:=by
 classical
 exact if kOf l (2*c)&&kOf l (2*c+1) then (if [2*c,2*c+1].Sublist (l.map Prod.fst) then 0 else 1) else if kOf l (2*c) then t else if kOf l (2*c+1) then 1-t else 0
theorem yku (S:WS) (l:List (Nat×Bool)) {t:Nat} (ht:t<=1) (c:Nat):gC S l t c<=1:=by
 unfold gC
 split
 ·split<;>omega
 split
 ·exact ht
 split<;>omega
theorem gC_A {S:WS} {l:List (Nat×Bool)} {t b:Nat} (ht:t<=1) (h1:kOf l b=false) (h2:kOf l (co b)=true):gC S l t (b/2)=if t=0 then co b % 2 else b % 2:=by
 unfold gC
 rcases ends b with ⟨k1,k2⟩|⟨k1,k2⟩
 ·rw [←k2,←k1,h1,h2]
  simp only [Bool.false_and,Bool.false_eq_true,if_false,if_true]
  split<;>omega
 ·rw [←k1,←k2,h1,h2]
  simp only [Bool.and_false,Bool.false_eq_true,if_false,if_true]
  split<;>omega
theorem gC_K {S:WS} {l:List (Nat×Bool)} {t a:Nat} (hn:(l.map Prod.fst).Nodup) (h:[a,co a].Sublist (l.map Prod.fst)):gC S l t (a/2)=a % 2:=by
 have h1:kOf l a=true:=ybq.2 (h.subset (by simp))
 have h2:kOf l (co a)=true:=ybq.2 (h.subset (by simp))
 unfold gC
 rcases ends a with ⟨k1,k2⟩|⟨k1,k2⟩
 ·rw [←k2,←k1,h1,h2]
  simp only [Bool.and_self,if_true]
  rw [if_pos h];omega
 ·rw [←k1,←k2,h1,h2]
  simp only [Bool.and_self,if_true]
  rw [if_neg (yi7 (Ne.symm (ycy a)) hn h)];omega
end
end Hs
end Go.Proofs.YtjpnnnognoaaiaaDoor
