/- Maps on the sphere; a smoothed diagram stays on it. -/
import Derived.Test.YtphjphpmfflfpaaGreatDoorPl
set_option linter.unusedSimpArgs false
set_option linter.unusedVariables false
namespace Go.Proofs.YtphjphpmfflfpaaGreatDoor
namespace Sp
def itn (f:Nat->Nat):Nat->Nat->Nat
 |0,x=>x
 |k+1,x=>f (itn f k x)
theorem tG (f:Nat->Nat) (i:Nat): ∀j x,itn f (i+j) x=itn f i (itn f j x):=by
 induction i with
 |zero=>intro j x;simp [itn]
 |succ i ih=>intro j x;rw [Nat.succ_add];simp only [itn];rw [ih]
theorem wH (f:Nat->Nat) (k x:Nat):itn f k (f x)=f (itn f k x):=by
 have h:=tG f k 1 x;rw [Nat.add_comm k 1,tG f 1 k x] at h;exact h.symm
structure di (N:Nat) (f:Nat->Nat):Prop where
 lt: ∀x,x<N->f x<N
 inj: ∀x y,x<N->y<N->f x=f y->x=y
section
variable {N:Nat} {f:Nat->Nat}
theorem di.cn (h:di N f) {x:Nat} (hx:x<N): ∀k,itn f k x<N
 |0=>hx
 |k+1=>h.lt _ (h.cn hx k)
theorem di.oP (h:di N f) {x y:Nat} (hx:x<N) (hy:y<N): ∀k,itn f k x=itn f k y->x=y
 |0,e=>e
 |k+1,e=>h.oP hx hy k (h.inj _ _ (h.cn hx k) (h.cn hy k) e)
theorem Wu {l:List Nat} (hn:l.Nodup) (hl: ∀x∈l,x<N):l.length<=N:=by
 have: ∀(N:Nat) (l:List Nat),l.Nodup->(∀x∈l,x<N)->l.length<=N:=by
  intro N
  induction N with
  |zero=>intro l _ h;cases l with
   |nil=>simp
   |cons a l=>exact absurd (h a (by simp)) (by omega)
  |succ N ih=>
   intro l hn h;have h1:=ih (l.erase N) (hn.erase N) (fun x hx=>by
    have h2:=h x (List.mem_of_mem_erase hx);have h3:x≠N:=fun e=>by subst e;exact (List.Nodup.not_mem_erase hn) hx
    omega)
   have h4:=List.length_erase_le (a:=N) (l:=l);by_cases hm:N∈l
   ·have:=List.length_erase_of_mem hm;omega
   ·rw [List.erase_of_not_mem hm] at h1;omega
 exact this N l hn hl
theorem di.back (h:di N f) {x:Nat} (hx:x<N): ∃k,0<k/\itn f k x=x:=by
 apply Classical.byContradiction;intro cH;have aw: ∀i j,i<j->itn f i x≠itn f j x:=fun i j fC e=>by
  refine cH ⟨j-i,by omega,?_⟩;have e2:itn f i (itn f (j-i) x)=itn f i x:=by rw [←tG,show i+(j-i)=j by omega];exact e.symm
  exact h.oP (h.cn hx _) hx i e2
 have hnd:((List.range (N+1)).map fun i=>itn f i x).Nodup:=by
  rw [List.Nodup,List.pairwise_map];refine List.Pairwise.imp_of_mem ?_ (List.pairwise_lt_range);intro i j _ _ fC;exact aw i j fC
 have:=Wu (N:=N) hnd (fun y hy=>by
  obtain ⟨i,_,rfl⟩:=List.mem_map.1 hy;exact h.cn hx i)
 simp at this;omega
def SC (f:Nat->Nat) (x y:Nat):Prop:= ∃k,itn f k x=y
theorem SC.refl (f:Nat->Nat) (x:Nat):SC f x x:=⟨0,rfl⟩
theorem SC.step (f:Nat->Nat) (x:Nat):SC f x (f x):=⟨1,rfl⟩
theorem SC.trans {x y z:Nat} (h:SC f x y) (k:SC f y z):SC f x z:=by
 obtain ⟨i,rfl⟩:=h;obtain ⟨j,rfl⟩:=k;exact ⟨j+i,tG f j i x⟩
theorem SC.symm (hp:di N f) {x y:Nat} (hx:x<N) (h:SC f x y):SC f y x:=by
 obtain ⟨i,rfl⟩:=h;obtain ⟨p,jq,tj⟩:=hp.back hx;have hmul: ∀n,itn f (n*p) x=x:=fun n=>by
  induction n with
  |zero=>simp [itn]
  |succ n ih=>rw [Nat.succ_mul,tG,tj];exact ih
 refine ⟨(i+1)*p-i,?_⟩;rw [←tG]
 have:i<=(i+1)*p:=by
  have:=Nat.mul_le_mul_left (i+1) jq;omega
 rw [show (i+1)*p-i+i=(i+1)*p by omega];exact hmul _
structure fX (N:Nat) (E:Nat->Nat->Prop):Prop where
 rfl': ∀x,x<N->E x x
 symm: ∀x y,x<N->y<N->E x y->E y x
 trans: ∀x y z,x<N->y<N->z<N->E x y->E y z->E x z
theorem SC.eqv (hp:di N f):fX N (SC f):=⟨fun x _=> .refl f x,fun _ _ hx _ h=>h.symm hp hx,fun _ _ _ _ _ _ h k=>h.trans k⟩
def fH (E:Nat->Nat->Prop) (a b x y:Nat):Prop:=E x y\/(E x a/\E b y)\/(E x b/\E a y)
theorem fH.eqv {E:Nat->Nat->Prop} (h:fX N E) {a b:Nat} (ha:a<N) (hb:b<N):fX N (fH E a b):=by
 refine ⟨fun x hx=> .inl (h.rfl' x hx),fun x y hx hy e=>?_,fun x y z hx hy hz e e'=>?_⟩
 ·rcases e with e|⟨e1,e2⟩|⟨e1,e2⟩
  ·exact .inl (h.symm _ _ hx hy e)
  ·exact .inr (.inr ⟨h.symm _ _ hb hy e2,h.symm _ _ hx ha e1⟩)
  ·exact .inr (.inl ⟨h.symm _ _ ha hy e2,h.symm _ _ hx hb e1⟩)
 ·rcases e with e|⟨e1,e2⟩|⟨e1,e2⟩<;>rcases e' with e'|⟨e3,e4⟩|⟨e3,e4⟩
  ·exact .inl (h.trans _ _ _ hx hy hz e e')
  ·exact .inr (.inl ⟨h.trans _ _ _ hx hy ha e e3,e4⟩)
  ·exact .inr (.inr ⟨h.trans _ _ _ hx hy hb e e3,e4⟩)
  ·exact .inr (.inl ⟨e1,h.trans _ _ _ hb hy hz e2 e'⟩)
  ·exact .inr (.inl ⟨e1,e4⟩)
  ·exact .inl (h.trans _ _ _ hx ha hz e1 e4)
  ·exact .inr (.inr ⟨e1,h.trans _ _ _ ha hy hz e2 e'⟩)
  ·exact .inl (h.trans _ _ _ hx hb hz e1 e4)
  ·exact .inr (.inr ⟨e1,e4⟩)
def swp (f:Nat->Nat) (a b x:Nat):Nat:=if x=a then f b else if x=b then f a else f x
theorem yy (f:Nat->Nat) (a b:Nat):swp (swp f a b) a b=f:=by
 funext x;unfold swp;by_cases h1:x=a
 ·subst h1;rw [if_pos rfl];by_cases h2:b=x
  ·subst h2;simp
  ·rw [if_neg h2,if_pos rfl]
 ·rw [if_neg h1];by_cases h2:x=b
  ·subst h2;rw [if_pos rfl,if_pos rfl]
  ·rw [if_neg h2,if_neg h1,if_neg h2]
theorem vj (hp:di N f) {a b:Nat} (ha:a<N) (hb:b<N):di N (swp f a b):=by
 refine ⟨fun x hx=>?_,fun x y hx hy e=>?_⟩
 ·unfold swp;split
  ·exact hp.lt _ hb
  ·split
   ·exact hp.lt _ ha
   ·exact hp.lt _ hx
 ·unfold swp at e
  split at e<;>split at e<;>(try split at e)<;>(try split at e)<;>(have:=hp.inj _ _ (by assumption) (by assumption) e;omega)
theorem Il {a b x:Nat} (n:Nat) (h: ∀j,j<n->itn f j x≠a/\itn f j x≠b): ∀j,j<=n->itn (swp f a b) j x=itn f j x
 |0,_=>rfl
 |j+1,hj=>by
  simp only [itn];rw [Il n h j (by omega)]
  have:=h j (by omega)
  unfold swp;rw [if_neg this.1,if_neg this.2]
theorem Wt {x y:Nat} (h:SC f x y): ∃k,itn f k x=y/\ ∀j,j<k->itn f j x≠y:=by
 obtain ⟨k,hk⟩:=h
 induction k using Nat.strongRecOn with
 |ind k ih=>
  by_cases hj: ∃j,j<k/\itn f j x=y
  ·obtain ⟨j,h1,h2⟩:=hj;exact ih j h1 h2
  ·exact ⟨k,hk,fun j h1 h2=>hj ⟨j,h1,h2⟩⟩
theorem Tk (hp:di N f) {x:Nat} (hx:x<N): ∃k,0<k/\itn f k x=x/\ ∀j,0<j->j<k->itn f j x≠x:=by
 obtain ⟨k,h0,hk⟩:=hp.back hx
 induction k using Nat.strongRecOn with
 |ind k ih=>
  by_cases hj: ∃j,0<j/\j<k/\itn f j x=x
  ·obtain ⟨j,h1,h2,h3⟩:=hj;exact ih j h2 h1 h3
  ·exact ⟨k,h0,hk,fun j h1 h2 h3=>hj ⟨j,h1,h2,h3⟩⟩
theorem Ws (hp:di N f) {a b:Nat} (hb:b<N) (cH: ¬SC f a b):SC (swp f a b) a b:=by
 obtain ⟨k,h0,hk,hf⟩:=Tk hp hb;obtain ⟨n,rfl⟩: ∃n,k=n+1:=⟨k-1,by omega⟩;have hs: ∀j,j<n->itn f j (f b)≠a/\itn f j (f b)≠b:=fun j hj=>by
  rw [wH];refine ⟨fun e=>cH ?_,hf (j+1) (by omega) (by omega)⟩;exact (show SC f b a from ⟨j+1,e⟩).symm hp hb
 have h1:=Il (f:=f) (a:=a) (b:=b) n hs n (Nat.le_refl _);refine ⟨n+1,?_⟩;have e:itn (swp f a b) (n+1) a=itn (swp f a b) n (swp f a b a):=by simp only [itn];rw [wH]
 rw [e,show swp f a b a=f b by unfold swp;rw [if_pos rfl],h1,wH];exact hk
theorem tM (hp:di N f) {a b:Nat} (ha:a<N) (hb:b<N) (cH: ¬SC f a b): ∀x y,x<N->y<N->(SC (swp f a b) x y↔fH (SC f) a b x y):=by
 have df:=vj hp ha hb;have fh:=Ws hp hb cH;have Sn:SC (swp f a b) b a:=fh.symm df ha;have hE:=SC.eqv hp;have hJ:=fH.eqv hE ha hb;have oS: ∀x,SC (swp f a b) x (f x):=fun x=>by
  by_cases h1:x=a
  ·subst h1;refine fh.trans ⟨1,?_⟩;show swp f x b b=f x;unfold swp;by_cases h2:b=x
   ·rw [if_pos h2,h2]
   ·rw [if_neg h2,if_pos rfl]
  ·by_cases h2:x=b
   ·subst h2;refine Sn.trans ⟨1,?_⟩;show swp f a x a=f x;unfold swp;rw [if_pos rfl]
   ·refine ⟨1,?_⟩;show swp f a b x=f x;unfold swp;rw [if_neg h1,if_neg h2]
 have BS: ∀k x,SC (swp f a b) x (itn f k x):=fun k x=>by
  induction k with
  |zero=>exact .refl _ _
  |succ k ih=>exact ih.trans (oS _)
 have rG: ∀x y,SC f x y->SC (swp f a b) x y:=fun x y ⟨k,hk⟩=>hk▸BS k x;intro x y hx hy;constructor
 ·rintro ⟨k,rfl⟩;clear hy
  induction k with
  |zero=>exact .inl (.refl _ _)
  |succ k ih=>
   have aA:=df.cn hx k;refine hJ.trans _ _ _ hx aA (df.lt _ aA) ih ?_;simp only [itn];generalize itn (swp f a b) k x=z;unfold swp
   split
   ·subst z;exact .inr (.inl ⟨.refl _ _, .step _ _⟩)
   ·split
    ·subst z;exact .inr (.inr ⟨.refl _ _, .step _ _⟩)
    ·exact .inl (.step _ _)
 ·rintro (h|⟨h1,h2⟩|⟨h1,h2⟩)
  ·exact rG _ _ h
  ·exact (rG _ _ h1).trans (fh.trans (rG _ _ h2))
  ·exact (rG _ _ h1).trans (Sn.trans (rG _ _ h2))
theorem Av (hp:di N f) {a b:Nat} (ha:a<N) (fh:a≠b) (hs:SC f a b): ¬SC (swp f a b) a b:=by
 obtain ⟨k,hk,hf⟩:=Wt (hs.symm hp ha);have pT:0<k:=by
  rcases Nat.eq_zero_or_pos k with h|h
  ·subst h;exact absurd hk.symm fh
  ·exact h
 have qG: ∀j,0<j->j<=k->itn f j b≠b:=fun j h1 h2 e=>by
  have e2:itn f (k-j) b=a:=by
   have:itn f (k-j) (itn f j b)=a:=by rw [←tG,show k-j+j=k by omega];exact hk
   rwa [e] at this
  exact hf (k-j) (by omega) e2
 obtain ⟨n,rfl⟩: ∃n,k=n+1:=⟨k-1,by omega⟩;have nY: ∀j,j<n->itn f j (f b)≠a/\itn f j (f b)≠b:=fun j hj=>by
  rw [wH];exact ⟨hf (j+1) (by omega),qG (j+1) (by omega) (by omega)⟩
 have h1:=Il (f:=f) (a:=a) (b:=b) n nY;have XL:swp f a b a=f b:=by unfold swp;rw [if_pos rfl]
 have CG: ∀j,j<=n->itn (swp f a b) (j+1) a=itn f (j+1) b:=fun j hj=>by
  have e:itn (swp f a b) (j+1) a=itn (swp f a b) j (swp f a b a):=by simp only [itn];rw [wH]
  rw [e,XL,h1 j hj,wH];rfl
 have sw:itn (swp f a b) (n+1) a=a:=by rw [CG n (Nat.le_refl _)];exact hk
 have hmul: ∀q,itn (swp f a b) (q*(n+1)) a=a:=fun q=>by
  induction q with
  |zero=>simp [itn]
  |succ q ih=>rw [Nat.succ_mul,tG,sw];exact ih
 rintro ⟨i,hi⟩;have e:itn (swp f a b) (i %(n+1)) a=b:=by
  have:itn (swp f a b) (i %(n+1)+(i/(n+1))*(n+1)) a=b:=by
   rw [show i %(n+1)+i/(n+1)*(n+1)=i by rw [Nat.mul_comm];exact Nat.mod_add_div i (n+1)];exact hi
  rwa [tG,hmul] at this
 have aA:=Nat.mod_lt i (show n+1>0 by omega);rcases Nat.eq_zero_or_pos (i %(n+1)) with h|h
 ·rw [h] at e;exact fh e
 ·obtain ⟨j,hj⟩: ∃j,i %(n+1)=j+1:=⟨i %(n+1)-1,by omega⟩;rw [hj,CG j (by omega)] at e;exact qG (j+1) (by omega) (by omega) e
structure Tr (N:Nat) (U:Nat->Prop) (E:Nat->Nat->Prop) (l:List Nat):Prop where
 mem: ∀x∈l,x<N/\U x
 nodup:l.Nodup
 apart: ∀x∈l,∀y∈l,E x y->x=y
 all: ∀x,x<N->U x-> ∃y∈l,E x y
variable {U:Nat->Prop} {E E':Nat->Nat->Prop} {l l':List Nat}
theorem yw {α β:Type} [DecidableEq β]: ∀(l:List α) (k:List β) (g:α->β),l.Nodup->(∀x∈l,g x∈k)->(∀x∈l,∀y∈l,g x=g y->x=y)->l.length<=k.length
 |[],k,g,_,_,_=>by simp
 |a::l,k,g,hn,hm,hi=>by
  have h1:=yw l (k.erase (g a)) g (List.nodup_cons.1 hn).2 (fun x hx=>by
   have aw:g x≠g a:=fun e=>by
    have:=hi x (by simp [hx]) a (by simp) e
    subst this;exact (List.nodup_cons.1 hn).1 hx
   exact (List.mem_erase_of_ne aw).2 (hm x (by simp [hx]))) (fun x hx y hy=>hi x (by simp [hx]) y (by simp [hy]))
  have h2:=List.length_erase_of_mem (hm a (by simp));have h3:0<k.length:=List.length_pos_of_mem (hm a (by simp));simp only [List.length_cons];omega
theorem Tr.le (hE:fX N E) (h:Tr N U E l) (h':Tr N U E l'):l.length<=l'.length:=by
 have hc: ∀x,∃y,x∈l->(y∈l'/\E x y):=fun x=>by
  by_cases hx:x∈l
  ·obtain ⟨y,h1,h2⟩:=h'.all x (h.mem x hx).1 (h.mem x hx).2;exact ⟨y,fun _=>⟨h1,h2⟩⟩
  ·exact ⟨0,fun h=>absurd h hx⟩
 obtain ⟨g,hg⟩:=Classical.axiomOfChoice hc;refine yw l l' g h.nodup (fun x hx=>(hg x hx).1) fun x hx y hy e=>?_;have h1:=hg x hx;have h2:=hg y hy;rw [e] at h1;exact h.apart x hx y hy (hE.trans _ _ _ (h.mem x hx).1 (h'.mem _ h2.1).1 (h.mem y hy).1 h1.2 (hE.symm _ _ (h.mem y hy).1 (h'.mem _ h2.1).1 h2.2))
theorem Tr.bf (hE:fX N E) (h:Tr N U E l) (h':Tr N U E l'):l.length=l'.length:=Nat.le_antisymm (h.le hE h') (h'.le hE h)
theorem Tr.congr (h:Tr N U E l) (he: ∀x y,x<N->y<N->(E x y↔E' x y)):Tr N U E' l:=
 ⟨h.mem,h.nodup,fun x hx y hy e=>h.apart x hx y hy ((he x y (h.mem x hx).1 (h.mem y hy).1).2 e),fun x hx hU=>let ⟨y,h1,h2⟩:=h.all x hx hU;⟨y,h1,(he x y hx (h.mem y h1).1).1 h2⟩⟩
theorem Tr.exists (hE:fX N E) (U:Nat->Prop): ∃l,Tr N U E l:=by
 classical
 refine ⟨(List.range N).filter fun x=>decide (U x/\ ∀y,y<x->U y-> ¬E x y),?_,?_,?_,?_⟩
 ·intro x hx;have h:=List.mem_filter.1 hx;exact ⟨List.mem_range.1 h.1,(of_decide_eq_true h.2).1⟩
 ·exact List.nodup_range.filter _
 ·intro x hx y hy e;have h1:=List.mem_filter.1 hx;have h2:=List.mem_filter.1 hy;have k1:=of_decide_eq_true h1.2;have k2:=of_decide_eq_true h2.2;have l1:=List.mem_range.1 h1.1;have l2:=List.mem_range.1 h2.1;rcases Nat.lt_trichotomy x y with g|g|g
  ·exact absurd (hE.symm _ _ l1 l2 e) (k2.2 x g k1.1)
  ·exact g
  ·exact absurd e (k1.2 y g k2.1)
 ·intro x hx hU
  have: ∀n x,x<n->x<N->U x-> ∃y,y∈((List.range N).filter fun x=>decide (U x/\ ∀y,y<x->U y-> ¬E x y))/\E x y:=by
   intro n
   induction n with
   |zero=>intro x h;omega
   |succ n ih=>
    intro x hn hx hU;by_cases hl: ∃y,y<x/\U y/\E x y
    ·obtain ⟨y,h1,h2,h3⟩:=hl;obtain ⟨z,h4,h5⟩:=ih y (by omega) (by omega) h2;have hz:=List.mem_range.1 (List.mem_filter.1 h4).1;exact ⟨z,h4,hE.trans _ _ _ hx (by omega) hz h3 h5⟩
    ·exact ⟨x,List.mem_filter.2 ⟨List.mem_range.2 hx,decide_eq_true ⟨hU,fun y h1 h2 h3=>hl ⟨y,h1,h2,h3⟩⟩⟩,hE.rfl' x hx⟩
  exact this (x+1) x (by omega) hx hU
theorem Tr.join (hE:fX N E) (h:Tr N U E l) {a b:Nat} (ha:a<N) (hb:b<N) (sB:U a) (LL:U b) (cH: ¬E a b) (h':Tr N U (fH E a b) l'):l.length=l'.length+1:=by
 obtain ⟨x,hx,uJ⟩:=h.all a ha sB;obtain ⟨y,hy,xF⟩:=h.all b hb LL;have lx:=(h.mem x hx).1;have ly:=(h.mem y hy).1;have oQ:x≠y:=fun e=>by subst e;exact cH (hE.trans _ _ _ ha lx hb uJ (hE.symm _ _ hb lx xF))
 have key:Tr N U (fH E a b) (l.erase y):=by
  refine ⟨fun z hz=>h.mem z (List.mem_of_mem_erase hz),h.nodup.erase y,fun z hz w hw e=>?_,fun z hz hU=>?_⟩
  ·have mz:=List.mem_of_mem_erase hz;have mw:=List.mem_of_mem_erase hw;have lz:=(h.mem z mz).1;have lw:=(h.mem w mw).1;have nz:z≠y:=fun e=>by subst e;exact List.Nodup.not_mem_erase h.nodup hz
   have nw:w≠y:=fun e=>by subst e;exact List.Nodup.not_mem_erase h.nodup hw
   rcases e with e|⟨e1,e2⟩|⟨e1,e2⟩
   ·exact h.apart z mz w mw e
   ·exact absurd (h.apart w mw y hy (hE.trans _ _ _ lw hb ly (hE.symm _ _ hb lw e2) xF)) nw
   ·exact absurd (h.apart z mz y hy (hE.trans _ _ _ lz hb ly e1 xF)) nz
  ·obtain ⟨w,hw,e⟩:=h.all z hz hU;by_cases BQ:w=y
   ·subst BQ;refine ⟨x,(List.mem_erase_of_ne oQ).2 hx, .inr (.inr ⟨hE.trans _ _ _ hz ly hb e (hE.symm _ _ hb ly xF),uJ⟩)⟩
   ·exact ⟨w,(List.mem_erase_of_ne BQ).2 hw, .inl e⟩
 have e1:=key.bf (fH.eqv hE ha hb) h';have e2:=List.length_erase_of_mem hy;have e3:0<l.length:=List.length_pos_of_mem hy;omega
theorem Tr.jI (hE:fX N E) (h:Tr N U E l) {a b:Nat} (hc: ∀x y,x<N->y<N->E x y->(U x↔U y)) (ha:a<N) (hb:b<N) (sB: ¬U a) (LL: ¬U b) (h':Tr N U (fH E a b) l'):l.length=l'.length:=by
 have key:Tr N U (fH E a b) l:=by
  refine ⟨h.mem,h.nodup,fun z hz w hw e=>?_,fun z hz hU=>?_⟩
  ·rcases e with e|⟨e1,e2⟩|⟨e1,e2⟩
   ·exact h.apart z hz w hw e
   ·exact absurd ((hc _ _ (h.mem z hz).1 ha e1).1 (h.mem z hz).2) sB
   ·exact absurd ((hc _ _ (h.mem z hz).1 hb e1).1 (h.mem z hz).2) LL
  ·obtain ⟨w,hw,e⟩:=h.all z hz hU;exact ⟨w,hw, .inl e⟩
 exact key.bf (fH.eqv hE ha hb) h'
theorem OV (hE:fX N E) {a b:Nat} (ha:a<N) (hb:b<N) (fh:E a b): ∀x y,x<N->y<N->(fH E a b x y↔E x y):=fun x y hx hy=>by
 constructor
 ·rintro (e|⟨e1,e2⟩|⟨e1,e2⟩)
  ·exact e
  ·exact hE.trans _ _ _ hx ha hy e1 (hE.trans _ _ _ ha hb hy fh e2)
  ·exact hE.trans _ _ _ hx hb hy e1 (hE.trans _ _ _ hb ha hy (hE.symm _ _ ha hb fh) e2)
 ·exact .inl
end
end Sp
namespace Sp
open Classical
theorem wN {N:Nat} {f g:Nat->Nat} (hf:di N f) (h: ∀x,x<N->f x=g x) {x y:Nat} (hx:x<N):SC f x y↔SC g x y:=by
 have: ∀k,itn f k x=itn g k x:=fun k=>by
  induction k with
  |zero=>rfl
  |succ k ih=>simp only [itn];rw [←ih];exact h _ (hf.cn hx k)
 constructor
 ·rintro ⟨k,rfl⟩;exact ⟨k,(this k).symm⟩
 ·rintro ⟨k,rfl⟩;exact ⟨k,this k⟩
theorem di.congr {N:Nat} {f g:Nat->Nat} (hf:di N f) (h: ∀x,x<N->f x=g x):di N g:=
 ⟨fun x hx=>by rw [←h x hx];exact hf.lt x hx,fun x y hx hy e=>hf.inj x y hx hy (by rw [h x hx,h y hy];exact e)⟩
structure iG (N:Nat) (al:Nat->Nat):Prop where
 lt: ∀x,x<N->al x<N
 inv: ∀x,x<N->al (al x)=x
 ne: ∀x,x<N->al x≠x
def x8 (al:Nat->Nat) (k x:Nat):Nat:=if min x (al x)<k then al x else x
def bR (si al:Nat->Nat) (k x:Nat):Nat:=si (x8 al k x)
def KK (si al:Nat->Nat):Nat->Nat->Nat->Prop
 |0=>SC si
 |k+1=>if k<al k then fH (KK si al k) k (al k) else KK si al k
section
variable {N:Nat} {si al:Nat->Nat} {U:Nat->Prop}
theorem NR (ha:iG N al) {k:Nat} (hk:k<N) (h:k<al k): ∀x,x<N->swp (bR si al k) k (al k) x=bR si al (k+1) x:=fun x hx=>by
 have hi:=ha.inv k hk;unfold swp bR x8;by_cases h1:x=k
 ·subst h1;rw [if_pos rfl,hi];rw [if_neg (by omega),if_pos (by omega)]
 ·rw [if_neg h1];by_cases h2:x=al k
  ·subst h2;rw [if_pos rfl,hi,if_neg (by omega),if_pos (by omega)]
  ·rw [if_neg h2];have h3:al x≠k:=fun e=>h2 (by rw [←e];exact (ha.inv x hx).symm);by_cases h4:min x (al x)<k
   ·rw [if_pos h4,if_pos (by omega)]
   ·rw [if_neg h4,if_neg (by omega)]
theorem NQ (ha:iG N al) {k:Nat} (hk:k<N) (h: ¬k<al k): ∀x,x<N->bR si al k x=bR si al (k+1) x:=fun x hx=>by
 unfold bR x8;have aw:=ha.ne k hk;by_cases h4:min x (al x)<k
 ·rw [if_pos h4,if_pos (by omega)]
 ·rw [if_neg h4];have h5: ¬min x (al x)<k+1:=fun h6=>by
   have h7:min x (al x)=k:=by omega
   by_cases h8:x<=al x
   ·have:x=k:=by omega
    subst this;omega
   ·have h9:al x=k:=by omega
    have:x=al k:=by rw [←h9];exact (ha.inv x hx).symm
    omega
  rw [if_neg h5]
theorem qv (hs:di N si) (ha:iG N al): ∀k,k<=N->di N (bR si al k)
 |0,_=>hs.congr fun x _=>by unfold bR x8;rw [if_neg (by omega)]
 |k+1,hk=>by
  have ih:=qv hs ha k (by omega);by_cases h:k<al k
  ·exact (vj ih (show k<N by omega) (ha.lt k (by omega))).congr (NR ha (by omega) h)
  ·exact ih.congr (NQ ha (by omega) h)
theorem Ad (hs:di N si) (ha:iG N al): ∀k,k<=N->fX N (KK si al k)
 |0,_=>SC.eqv hs
 |k+1,hk=>by
  have ih:=Ad hs ha k (by omega);unfold KK
  split
  ·exact fH.eqv ih (by omega) (ha.lt k (by omega))
  ·exact ih
theorem F7 {f:Nat->Nat} {E:Nat->Nat->Prop} (hf:di N f) (hE:fX N E) (h: ∀x,x<N->E x (f x)) {x y:Nat} (hx:x<N) (hs:SC f x y):E x y:=by
 obtain ⟨k,rfl⟩:=hs
 induction k with
 |zero=>exact hE.rfl' x hx
 |succ k ih=>exact hE.trans _ _ _ hx (hf.cn hx k) (hf.lt _ (hf.cn hx k)) ih (h _ (hf.cn hx k))
theorem Dm (hs:di N si) (ha:iG N al): ∀k,k<=N-> ∀x,x<N->KK si al k x (si x)
 |0,_,x,_=>SC.step _ _
 |k+1,hk,x,hx=>by
  have ih:=Dm hs ha k (by omega) x hx;unfold KK;split
  ·exact .inl ih
  ·exact ih
theorem F2 (hs:di N si) (ha:iG N al): ∀k,k<=N-> ∀x,x<N->min x (al x)<k->KK si al k x (al x)
 |0,_,x,_,h=>by omega
 |k+1,hk,x,hx,h=>by
  by_cases h1:min x (al x)<k
  ·have ih:=F2 hs ha k (by omega) x hx h1;unfold KK;split
   ·exact .inl ih
   ·exact ih
  ·have hE:=Ad hs ha k (by omega);have eo:=ha.lt x hx;have hi:=ha.inv x hx;have aw:=ha.ne x hx;have h2:min x (al x)=k:=by omega
   unfold KK;by_cases h3:x<al x
   ·have:x=k:=by omega
    subst this;rw [if_pos h3];exact .inr (.inl ⟨hE.rfl' _ hx,hE.rfl' _ eo⟩)
   ·have h4:al x=k:=by omega
    have h5:al k=x:=by rw [←h4];exact hi
    rw [if_pos (by omega)];refine .inr (.inr ⟨?_,?_⟩)
    ·rw [h5];exact hE.rfl' _ hx
    ·rw [h4];exact hE.rfl' _ (by omega)
theorem Hg (hs:di N si) (ha:iG N al) {R:Nat->Nat->Prop} (hR:fX N R) (h1: ∀x,x<N->R x (si x)) (h2: ∀x,x<N->R x (al x)): ∀k,k<=N-> ∀x y,x<N->y<N->KK si al k x y->R x y
 |0,_,x,y,hx,_,h=>F7 hs hR h1 hx h
 |k+1,hk,x,y,hx,hy,h=>by
  have ih:=Hg hs ha hR h1 h2 k (by omega);have fO:k<N:=by omega
  have eo:=ha.lt k fO;unfold KK at h
  split at h
  ·rcases h with h|⟨e1,e2⟩|⟨e1,e2⟩
   ·exact ih x y hx hy h
   ·exact hR.trans _ _ _ hx fO hy (ih _ _ hx fO e1) (hR.trans _ _ _ fO eo hy (h2 k fO) (ih _ _ eo hy e2))
   ·exact hR.trans _ _ _ hx eo hy (ih _ _ hx eo e1) (hR.trans _ _ _ eo fO hy (hR.symm _ _ fO eo (h2 k fO)) (ih _ _ fO hy e2))
  ·exact ih x y hx hy h
theorem Dt (hs:di N si) (ha:iG N al) {k:Nat} (hk:k<=N) {x y:Nat} (hx:x<N) (h:SC (bR si al k) x y):KK si al k x y:=by
 have hE:=Ad hs ha k hk;refine F7 (qv hs ha k hk) hE (fun x hx=>?_) hx h;have eo:=ha.lt x hx;unfold bR x8
 split
 ·exact hE.trans _ _ _ hx eo (hs.lt _ eo) (F2 hs ha k hk x hx (by assumption)) (Dm hs ha k hk _ eo)
 ·exact Dm hs ha k hk x hx
noncomputable def eU (al:Nat->Nat) (U:Nat->Prop) (k:Nat):Nat:=(List.range k).countP fun h=>decide (U h/\h<al h)
theorem Eg (al:Nat->Nat) (U:Nat->Prop) (k:Nat):eU al U (k+1)=eU al U k+if U k/\k<al k then 1 else 0:=by
 unfold eU;rw [List.range_succ,List.countP_append];by_cases h:U k/\k<al k
 ·simp [h]
 ·simp [h]
theorem ya (hs:di N si) (ha:iG N al) (h1: ∀x,x<N->(U x↔U (si x))) (h2: ∀x,x<N->(U x↔U (al x))) {k:Nat} (hk:k<=N) {x y:Nat} (hx:x<N) (hy:y<N) (h:KK si al k x y):U x↔U y:=
 Hg (R:=fun x y=>U x↔U y) hs ha ⟨fun _ _=>Iff.rfl,fun _ _ _ _ h=>h.symm,fun _ _ _ _ _ _ h k=>h.trans k⟩ h1 h2 k hk x y hx hy h
theorem Qy (hs:di N si) (ha:iG N al) (h1: ∀x,x<N->(U x↔U (si x))) (h2: ∀x,x<N->(U x↔U (al x))): ∀k,k<=N-> ∀lV lF lK,Tr N U (SC si) lV->Tr N U (SC (bR si al k)) lF->Tr N U (KK si al k) lK->
  lV.length+lF.length<=2*lK.length+eU al U k
 |0,_,lV,lF,lK,hV,hF,hK=>by
  have e1:=hV.bf (SC.eqv hs) hK;have e2:=hV.bf (SC.eqv hs) (hF.congr (E':=SC si) (fun x y hx _=>(wN hs (g:=bR si al 0) (fun x _=>by unfold bR x8;rw [if_neg (by omega)]) hx).symm));omega
 |k+1,hk,lV,lF,lK,hV,hF,hK=>by
  have fO:k<N:=by omega
  have eo:=ha.lt k fO;have hE:=Ad hs ha k (by omega);have hP:=qv hs ha k (by omega);have FF:=SC.eqv hP;obtain ⟨E6,sC⟩:=Tr.exists FF U;obtain ⟨XD,CX⟩:=Tr.exists hE U;have ih:=Qy hs ha h1 h2 k (by omega) lV E6 XD hV sC CX;rw [Eg];by_cases aA:k<al k
  ·have bo:=NR (si:=si) ha fO aA;have fN:=vj hP fO eo;have vT:Tr N U (SC (swp (bR si al k) k (al k))) lF:=hF.congr fun x y hx _=>(wN fN bo hx).symm;have CW:Tr N U (fH (KK si al k) k (al k)) lK:=by unfold KK at hK;rw [if_pos aA] at hK;exact hK
   by_cases hU:U k
   ·have sB:=(h2 k fO).1 hU;rw [if_pos ⟨hU,aA⟩];have LW:lF.length<=E6.length+1/\(¬SC (bR si al k) k (al k)->E6.length=lF.length+1):=by
     by_cases ke:SC (bR si al k) k (al k)
     ·refine ⟨?_,fun h=>absurd ke h⟩;have cH:=Av hP fO (by omega) ke;have hj:=tM fN fO eo cH;rw [yy] at hj
      have:=vT.join (SC.eqv fN) fO eo hU sB cH (sC.congr hj)
      omega
     ·have:=sC.join FF fO eo hU sB ke (vT.congr (tM hP fO eo ke))
      exact ⟨by omega,fun _=>this⟩
    by_cases hke:KK si al k k (al k)
    ·have:=CX.bf hE (CW.congr (OV hE fO eo hke))
     omega
    ·have e1:=CX.join hE fO eo hU sB hke CW;have e2:=LW.2 (fun ke=>hke (Dt hs ha (by omega) fO ke));omega
   ·have sB: ¬U (al k):=fun h=>hU ((h2 k fO).2 h);rw [if_neg (fun h=>hU h.1)];have Yy: ∀x y,x<N->y<N->KK si al k x y->(U x↔U y):=fun x y hx hy h=>ya hs ha h1 h2 (by omega) hx hy h;have e1:=CX.jI hE Yy fO eo hU sB CW;have e2:E6.length=lF.length:=by
     by_cases ke:SC (bR si al k) k (al k)
     ·have cH:=Av hP fO (by omega) ke;have hj:=tM fN fO eo cH;rw [yy] at hj;refine (vT.jI (SC.eqv fN) (fun x y hx hy h=>?_) fO eo hU sB (sC.congr hj)).symm;have h3:SC (bR si al (k+1)) x y:=(wN fN bo hx).1 h;exact ya hs ha h1 h2 hk hx hy (Dt hs ha hk hx h3)
     ·exact sC.jI FF (fun x y hx hy h=>ya hs ha h1 h2 (by omega) hx hy (Dt hs ha (by omega) hx h)) fO eo hU sB (vT.congr (tM hP fO eo ke))
    omega
  ·rw [if_neg (fun h=>aA h.2)];have CW:Tr N U (KK si al k) lK:=by unfold KK at hK;rw [if_neg aA] at hK;exact hK
   have e1:=CX.bf hE CW;have e2:=sC.bf FF (hF.congr fun x y hx _=>(wN hP (NQ ha fO aA) hx).symm);omega
end
end Sp
namespace Sp
open Classical
section
variable {N:Nat} {si al:Nat->Nat} {U W:Nat->Prop} {E E':Nat->Nat->Prop} {l l':List Nat}
theorem Tr.cD (h:Tr N U E l) (hU: ∀x,x<N->(U x↔W x)) (he: ∀x y,x<N->y<N->U x->U y->(E x y↔E' x y)):Tr N W E' l:=
 ⟨fun x hx=>⟨(h.mem x hx).1,(hU x (h.mem x hx).1).1 (h.mem x hx).2⟩,h.nodup,fun x hx y hy e=>h.apart x hx y hy ((he x y (h.mem x hx).1 (h.mem y hy).1 (h.mem x hx).2 (h.mem y hy).2).2 e),fun x hx hW=>by
  have Sv:=(hU x hx).2 hW;obtain ⟨y,h1,h2⟩:=h.all x hx Sv;exact ⟨y,h1,(he x y hx (h.mem y h1).1 Sv (h.mem y h1).2).1 h2⟩⟩
theorem Tr.append (h:Tr N U E l) (h':Tr N W E l') (cH: ∀x y,x<N->y<N->U x->W y-> ¬E x y/\ ¬E y x) (aw: ∀x,x<N->U x-> ¬W x):Tr N (fun x=>U x\/W x) E (l++l'):=by
 refine ⟨fun x hx=>?_,?_,fun x hx y hy e=>?_,fun x hx hU=>?_⟩
 ·rcases List.mem_append.1 hx with g|g
  ·exact ⟨(h.mem x g).1, .inl (h.mem x g).2⟩
  ·exact ⟨(h'.mem x g).1, .inr (h'.mem x g).2⟩
 ·refine List.nodup_append.2 ⟨h.nodup,h'.nodup,fun x hx y hy e=>?_⟩;subst e;exact aw x (h.mem x hx).1 (h.mem x hx).2 (h'.mem x hy).2
 ·rcases List.mem_append.1 hx with g|g<;>rcases List.mem_append.1 hy with k|k
  ·exact h.apart x g y k e
  ·exact absurd e (cH x y (h.mem x g).1 (h'.mem y k).1 (h.mem x g).2 (h'.mem y k).2).1
  ·exact absurd e (cH y x (h.mem y k).1 (h'.mem x g).1 (h.mem y k).2 (h'.mem x g).2).2
  ·exact h'.apart x g y k e
 ·rcases hU with g|g
  ·obtain ⟨y,h1,h2⟩:=h.all x hx g;exact ⟨y,List.mem_append_left _ h1,h2⟩
  ·obtain ⟨y,h1,h2⟩:=h'.all x hx g;exact ⟨y,List.mem_append_right _ h1,h2⟩
theorem yL {jB:Nat->Nat} {k:Nat} (h: ∀x,x<k->((U x/\x<al x)↔(W x/\x<jB x))):eU al U k=eU jB W k:=by
 unfold eU;refine List.countP_congr fun x hx=>?_;simp only [decide_eq_true_eq];exact h x (List.mem_range.1 hx)
theorem C8 {k:Nat} (h: ∀x,x<k->U x-> ¬W x):eU al (fun x=>U x\/W x) k=eU al U k+eU al W k:=by
 induction k with
 |zero=>simp [eU]
 |succ k ih=>
  rw [Eg,Eg,Eg,ih (fun x hx=>h x (by omega))]
  have:=h k (by omega)
  by_cases h1:U k<;>by_cases h2:W k<;>by_cases h3:k<al k<;>simp [h1,h2,h3]<;>first|omega|exact absurd h2 (this h1)
end
structure ow (N:Nat) (si al:Nat->Nat):Prop where
 perm:di N si
 jo:iG N al
 eq: ∀r,r<N-> ∀lV lF,Tr N (KK si al N r) (SC si) lV->Tr N (KK si al N r) (SC (bR si al N)) lF->lV.length+lF.length=2+eU al (KK si al N r) N
section
variable {N:Nat} {si al:Nat->Nat}
theorem eJ (ha:iG N al) {x:Nat} (hx:x<N):bR si al N x=si (al x):=by
 unfold bR x8;rw [if_pos (by omega)]
theorem qS (hs:di N si) (ha:iG N al):fX N (KK si al N):=Ad hs ha N (Nat.le_refl _)
theorem gU (hs:di N si) (ha:iG N al) {x:Nat} (hx:x<N):KK si al N x (si x):=Dm hs ha N (Nat.le_refl _) x hx
theorem fW (hs:di N si) (ha:iG N al) {x:Nat} (hx:x<N):KK si al N x (al x):=F2 hs ha N (Nat.le_refl _) x hx (by omega)
theorem sI (hs:di N si) (ha:iG N al) {x y:Nat} (hx:x<N) (h:SC si x y):KK si al N x y:=F7 hs (qS hs ha) (fun _ hx=>gU hs ha hx) hx h
theorem uT (hs:di N si) (ha:iG N al) {x y:Nat} (hx:x<N) (h:SC (bR si al N) x y):KK si al N x y:=Dt hs ha (Nat.le_refl _) hx h
theorem tE (hs:di N si) (ha:iG N al) {R:Nat->Nat->Prop} (hR:fX N R) (h1: ∀x,x<N->R x (si x)) (h2: ∀x,x<N->R x (al x)) {x y:Nat} (hx:x<N) (hy:y<N) (h:KK si al N x y):R x y:=Hg hs ha hR h1 h2 N (Nat.le_refl _) x y hx hy h
theorem iZ (hs:di N si) (ha:iG N al) {r:Nat} (hr:r<N):(∀x,x<N->(KK si al N r x↔KK si al N r (si x)))/\(∀x,x<N->(KK si al N r x↔KK si al N r (al x))):=by
 have hE:=qS hs ha;refine ⟨fun x hx=>?_,fun x hx=>?_⟩
 ·have h1:=gU hs ha hx;have h2:=hs.lt x hx;exact ⟨fun h=>hE.trans _ _ _ hr hx h2 h h1,fun h=>hE.trans _ _ _ hr h2 hx h (hE.symm _ _ hx h2 h1)⟩
 ·have h1:=fW hs ha hx;have h2:=ha.lt x hx;exact ⟨fun h=>hE.trans _ _ _ hr hx h2 h h1,fun h=>hE.trans _ _ _ hr h2 hx h (hE.symm _ _ hx h2 h1)⟩
theorem F6 (hs:di N si) (ha:iG N al) {r:Nat} (hr:r<N) {lV lF:List Nat} (hV:Tr N (KK si al N r) (SC si) lV) (hF:Tr N (KK si al N r) (SC (bR si al N)) lF):lV.length+lF.length<=2+eU al (KK si al N r) N:=by
 have hE:=qS hs ha;have hK:Tr N (KK si al N r) (KK si al N) [r]:=by
  refine ⟨fun x hx=>?_,by simp,fun x hx y hy _=>?_,fun x hx h=>⟨r,by simp,hE.symm _ _ hr hx h⟩⟩
  ·simp at hx;subst hx;exact ⟨hr,hE.rfl' _ hr⟩
  ·simp at hx hy;rw [hx,hy]
 have:=Qy hs ha (iZ hs ha hr).1 (iZ hs ha hr).2 N (Nat.le_refl _) lV lF [r] hV hF hK
 simpa using this
theorem ow.split (h:ow N si al) {p q:Nat} (hp:p<N) (hq:q<N) (oX:p≠q) (ke:SC si p q):ow N (swp si p q) al:=by
 have hs:=h.perm;have ha:=h.jo;have bD:=vj hs hp hq;have hE:=qS hs ha;have e8:=qS bD ha;have Fc:=Av hs hp oX ke;have RK:=tM bD hp hq Fc;rw [yy] at RK;have k7:=ha.lt p hp;have sz:=ha.lt q hq;have kg:=qv hs ha N (Nat.le_refl _);have iA:=qv bD ha N (Nat.le_refl _);have xi: ∀x,x<N->swp (bR si al N) (al p) (al q) x=bR (swp si p q) al N x:=fun x hx=>by
  rw [eJ ha hx];unfold swp;have i1:=ha.inv x hx;by_cases h1:x=al p
  ·subst h1;rw [if_pos rfl,ha.inv p hp,if_pos rfl,eJ ha sz,ha.inv q hq]
  ·rw [if_neg h1];have n1:al x≠p:=fun e=>h1 (by rw [←e,i1]);by_cases h2:x=al q
   ·subst h2;rw [if_pos rfl,ha.inv q hq,if_neg (Ne.symm oX),if_pos rfl,eJ ha k7,ha.inv p hp]
   ·rw [if_neg h2];have n2:al x≠q:=fun e=>h2 (by rw [←e,i1]);rw [if_neg n1,if_neg n2,eJ ha hx]
 have YE:al p≠al q:=fun e=>oX (by rw [←ha.inv p hp,←ha.inv q hq,e]);have oj:KK si al N p q:=sI hs ha hp ke;have uk: ∀x,x<N->(x≠p/\x≠q/\swp si p q x=si x)\/(x=p/\swp si p q x=si q)\/(x=q/\swp si p q x=si p):=fun x _=>by
  unfold swp;by_cases h1:x=p
  ·exact .inr (.inl ⟨h1,by rw [if_pos h1]⟩)
  ·by_cases h2:x=q
   ·exact .inr (.inr ⟨h2,by rw [if_neg h1,if_pos h2]⟩)
   ·exact .inl ⟨h1,h2,by rw [if_neg h1,if_neg h2]⟩
 have db: ∀x y,x<N->y<N->KK (swp si p q) al N x y->KK si al N x y:=fun x y hx hy hk=>by
  refine tE bD ha hE (fun x hx=>?_) (fun x hx=>fW hs ha hx) hx hy hk;rcases uk x hx with ⟨_,_,e⟩|⟨rfl,e⟩|⟨rfl,e⟩
  ·rw [e];exact gU hs ha hx
  ·rw [e];exact hE.trans _ _ _ hx hq (hs.lt _ hq) oj (gU hs ha hq)
  ·rw [e];exact hE.trans _ _ _ hx hp (hs.lt _ hp) (hE.symm _ _ hp hx oj) (gU hs ha hp)
 have LP: ∀x y,x<N->y<N->(KK si al N x y↔fH (KK (swp si p q) al N) p q x y):=fun x y hx hy=>by
  constructor
  ·intro hk;refine tE hs ha (fH.eqv e8 hp hq) (fun x hx=>?_) (fun x hx=> .inl (fW bD ha hx)) hx hy hk;rcases uk x hx with ⟨_,_,e⟩|⟨rfl,_⟩|⟨rfl,_⟩
   ·rw [←e];exact .inl (gU bD ha hx)
   ·refine .inr (.inl ⟨e8.rfl' _ hx,?_⟩)
    have:=gU bD ha hq
    rwa [show swp si x q q=si x by unfold swp;rw [if_neg (Ne.symm oX),if_pos rfl]] at this
   ·refine .inr (.inr ⟨e8.rfl' _ hx,?_⟩)
    have:=gU bD ha hp
    rwa [show swp si p x p=si x by unfold swp;rw [if_pos rfl]] at this
  ·rintro (e|⟨e1,e2⟩|⟨e1,e2⟩)
   ·exact db x y hx hy e
   ·exact hE.trans _ _ _ hx hp hy (db _ _ hx hp e1) (hE.trans _ _ _ hp hq hy oj (db _ _ hq hy e2))
   ·exact hE.trans _ _ _ hx hq hy (db _ _ hx hq e1) (hE.trans _ _ _ hq hp hy (hE.symm _ _ hp hq oj) (db _ _ hp hy e2))
 obtain ⟨lV,hV⟩:=Tr.exists (SC.eqv hs) (KK si al N p);obtain ⟨lF,hF⟩:=Tr.exists (SC.eqv kg) (KK si al N p);have heq:=h.eq p hp lV lF hV hF;obtain ⟨Kh,zE⟩:=Tr.exists (SC.eqv bD) (KK si al N p);obtain ⟨Bz,zG⟩:=Tr.exists (SC.eqv iA) (KK si al N p);have YI:KK si al N p p:=hE.rfl' _ hp;have hv1:Kh.length=lV.length+1:=zE.join (SC.eqv bD) hp hq YI oj Fc (hV.congr RK)
 have xL:KK si al N p (al p):=fW hs ha hp;have xK:KK si al N p (al q):=hE.trans _ _ _ hp hq sz oj (fW hs ha hq);have pN:=vj kg k7 sz;have vT:Tr N (KK si al N p) (SC (swp (bR si al N) (al p) (al q))) Bz:=zG.congr fun x y hx _=>(wN pN xi hx).symm;have Lp: ¬SC (bR (swp si p q) al N) (al p) (al q)->Bz.length=lF.length+1:=fun cH=>by
  have Cb: ¬SC (swp (bR si al N) (al p) (al q)) (al p) (al q):=fun e=>cH ((wN pN xi k7).1 e);have hj:=tM pN k7 sz Cb;rw [yy] at hj;exact vT.join (SC.eqv pN) k7 sz xL xK Cb (hF.congr hj)
 have Yp:lF.length<=Bz.length+1:=by
  by_cases rN:SC (bR si al N) (al p) (al q)
  ·have cH:=Av kg k7 YE rN;have hj:=tM pN k7 sz cH;rw [yy] at hj
   have:=vT.join (SC.eqv pN) k7 sz xL xK cH (hF.congr hj)
   omega
  ·have:=hF.join (SC.eqv kg) k7 sz xL xK rN (vT.congr (tM kg k7 sz rN))
   omega
 refine ⟨bD,ha,fun r hr kV kF kY jO=>?_⟩;by_cases hrp:KK si al N p r
 ·by_cases de:KK (swp si p q) al N p q
  ·--nothing is parted
   have YU: ∀x y,x<N->y<N->(KK si al N x y↔KK (swp si p q) al N x y):=fun x y hx hy=>(LP x y hx hy).trans (OV e8 hp hq de x y hx hy);have bC: ∀x,x<N->(KK si al N p x↔KK (swp si p q) al N r x):=fun x hx=>by
    rw [←YU r x hr hx];exact ⟨fun e=>hE.trans _ _ _ hr hp hx (hE.symm _ _ hp hr hrp) e,fun e=>hE.trans _ _ _ hp hr hx hrp e⟩
   have e1:=(zE.cD bC (E':=SC (swp si p q)) (fun _ _ _ _ _ _=>Iff.rfl)).bf (SC.eqv bD) kY;have e2:=(zG.cD bC (E':=SC (bR (swp si p q) al N)) (fun _ _ _ _ _ _=>Iff.rfl)).bf (SC.eqv iA) jO;have e3:eU al (KK si al N p) N=eU al (KK (swp si p q) al N r) N:=yL fun x hx=>by rw [bC x hx]
   have e4:=F6 bD ha hr kY jO;omega
  ·--the class is parted
   have K3: ¬SC (bR (swp si p q) al N) (al p) (al q):=fun e=>de (by
    have h1:=uT bD ha k7 e;exact e8.trans _ _ _ hp k7 hq (fW bD ha hp) (e8.trans _ _ _ k7 sz hq h1 (e8.symm _ _ hq sz (fW bD ha hq))))
   have Yr:=Lp K3;obtain ⟨pV,KX⟩:=Tr.exists (SC.eqv bD) (KK (swp si p q) al N p);obtain ⟨pF,KY⟩:=Tr.exists (SC.eqv iA) (KK (swp si p q) al N p);obtain ⟨qV,KT⟩:=Tr.exists (SC.eqv bD) (KK (swp si p q) al N q);obtain ⟨qF,KU⟩:=Tr.exists (SC.eqv iA) (KK (swp si p q) al N q)
   have od: ∀x,x<N->KK (swp si p q) al N p x-> ¬KK (swp si p q) al N q x:=fun x hx e1 e2=>de (e8.trans _ _ _ hp hx hq e1 (e8.symm _ _ hq hx e2));have og: ∀x,x<N->((KK (swp si p q) al N p x\/KK (swp si p q) al N q x)↔KK si al N p x):=fun x hx=>by
    rw [LP p x hp hx];constructor
    ·rintro (e|e)
     ·exact .inl e
     ·exact .inr (.inl ⟨e8.rfl' _ hp,e⟩)
    ·rintro (e|⟨_,e⟩|⟨e,_⟩)
     ·exact .inl e
     ·exact .inr e
     ·exact absurd e de
   have K0: ∀x y,x<N->y<N->KK (swp si p q) al N p x->KK (swp si p q) al N q y-> ¬SC (swp si p q) x y/\ ¬SC (swp si p q) y x:=fun x y hx hy e1 e2=>
    ⟨fun e=>od y hy (e8.trans _ _ _ hp hx hy e1 (sI bD ha hx e)) e2,fun e=>od x hx e1 (e8.trans _ _ _ hq hy hx e2 (sI bD ha hy e))⟩
   have K1: ∀x y,x<N->y<N->KK (swp si p q) al N p x->KK (swp si p q) al N q y-> ¬SC (bR (swp si p q) al N) x y/\ ¬SC (bR (swp si p q) al N) y x:=fun x y hx hy e1 e2=>
    ⟨fun e=>od y hy (e8.trans _ _ _ hp hx hy e1 (uT bD ha hx e)) e2,fun e=>od x hx e1 (e8.trans _ _ _ hq hy hx e2 (uT bD ha hy e))⟩
   have eV:=((KX.append KT K0 od).cD og (E':=SC (swp si p q)) (fun _ _ _ _ _ _=>Iff.rfl)).bf (SC.eqv bD) zE;have eF:=((KY.append KU K1 od).cD og (E':=SC (bR (swp si p q) al N)) (fun _ _ _ _ _ _=>Iff.rfl)).bf (SC.eqv iA) zG;rw [List.length_append] at eV eF;have eE:eU al (KK si al N p) N=eU al (KK (swp si p q) al N p) N+eU al (KK (swp si p q) al N q) N:=by
    rw [←C8 (fun x hx e=>od x hx e)];exact yL fun x hx=>by rw [og x hx]
   have ip:=F6 bD ha hp KX KY;have iq:=F6 bD ha hq KT KU;have iN:=(og r hr).2 hrp;rcases iN with iN|iN
   ·have bC: ∀x,x<N->(KK (swp si p q) al N p x↔KK (swp si p q) al N r x):=fun x hx=>⟨fun e=>e8.trans _ _ _ hr hp hx (e8.symm _ _ hp hr iN) e,fun e=>e8.trans _ _ _ hp hr hx iN e⟩;have e1:=(KX.cD bC (E':=SC (swp si p q)) (fun _ _ _ _ _ _=>Iff.rfl)).bf (SC.eqv bD) kY;have e2:=(KY.cD bC (E':=SC (bR (swp si p q) al N)) (fun _ _ _ _ _ _=>Iff.rfl)).bf (SC.eqv iA) jO
    have e3:eU al (KK (swp si p q) al N p) N=eU al (KK (swp si p q) al N r) N:=yL fun x hx=>by rw [bC x hx]
    omega
   ·have bC: ∀x,x<N->(KK (swp si p q) al N q x↔KK (swp si p q) al N r x):=fun x hx=>⟨fun e=>e8.trans _ _ _ hr hq hx (e8.symm _ _ hq hr iN) e,fun e=>e8.trans _ _ _ hq hr hx iN e⟩;have e1:=(KT.cD bC (E':=SC (swp si p q)) (fun _ _ _ _ _ _=>Iff.rfl)).bf (SC.eqv bD) kY;have e2:=(KU.cD bC (E':=SC (bR (swp si p q) al N)) (fun _ _ _ _ _ _=>Iff.rfl)).bf (SC.eqv iA) jO
    have e3:eU al (KK (swp si p q) al N q) N=eU al (KK (swp si p q) al N r) N:=yL fun x hx=>by rw [bC x hx]
    omega
 ·--another component:as it was
  have zm: ∀x,x<N->KK si al N r x->x≠p/\x≠q:=fun x hx e=>⟨fun g=>by subst g;exact hrp (hE.symm _ _ hr hx e),fun g=>by
   subst g;exact hrp (hE.trans _ _ _ hp hx hr oj (hE.symm _ _ hr hx e))⟩
  have bC: ∀x,x<N->(KK (swp si p q) al N r x↔KK si al N r x):=fun x hx=>by
   refine ⟨db r x hr hx,fun e=>?_⟩;rcases (LP r x hr hx).1 e with e|⟨e1,_⟩|⟨e1,_⟩
   ·exact e
   ·exact absurd rfl (zm p hp (db _ _ hr hp e1)).1
   ·exact absurd rfl (zm q hq (db _ _ hr hq e1)).2
  have CJ: ∀{f:Nat->Nat} (_:di N f) {g:Nat->Nat} (_: ∀x,x<N->KK si al N r x->f x=g x/\KK si al N r (f x)) (x y:Nat),x<N->KK si al N r x->(SC f x y↔SC g x y):=fun {f} hf {g} hfg x y hx hU=>by
   have hi: ∀k,KK si al N r (itn f k x)/\itn f k x=itn g k x:=fun k=>by
    induction k with
    |zero=>exact ⟨hU,rfl⟩
    |succ k ih=>
     have:=hfg _ (hf.cn hx k) ih.1
     exact ⟨this.2,by simp only [itn];rw [←ih.2];exact this.1⟩
   constructor
   ·rintro ⟨k,rfl⟩;exact ⟨k,(hi k).2.symm⟩
   ·rintro ⟨k,rfl⟩;exact ⟨k,(hi k).2⟩
  have KP:=CJ bD (g:=si) (fun x hx e=>by
   have hn:=zm x hx e;rcases uk x hx with ⟨_,_,g⟩|⟨g,_⟩|⟨g,_⟩
   ·rw [g];exact ⟨rfl,((iZ hs ha hr).1 x hx).1 e⟩
   ·exact absurd g hn.1
   ·exact absurd g hn.2)
  have rN:=CJ iA (g:=bR si al N) (fun x hx e=>by
   have uJ:=ha.lt x hx;have e1:=((iZ hs ha hr).2 x hx).1 e;have hn:=zm (al x) uJ e1;rw [eJ ha hx,eJ ha hx];rcases uk (al x) uJ with ⟨_,_,g⟩|⟨g,_⟩|⟨g,_⟩
   ·rw [g];exact ⟨rfl,((iZ hs ha hr).1 _ uJ).1 e1⟩
   ·exact absurd g hn.1
   ·exact absurd g hn.2)
  have t1:Tr N (KK si al N r) (SC si) kV:=kY.cD bC (fun x y hx _ hU _=>KP x y hx ((bC x hx).1 hU));have t2:Tr N (KK si al N r) (SC (bR si al N)) kF:=jO.cD bC (fun x y hx _ hU _=>rN x y hx ((bC x hx).1 hU))
  have:=h.eq r hr kV kF t1 t2
  rw [this];congr 1;exact yL fun x hx=>by rw [bC x hx]
end
end Sp
namespace Sp
open Classical
noncomputable def cU (U:Nat->Prop) (N:Nat):Nat:=(List.range N).countP fun h=>decide (U h)
section
variable {N:Nat} {si al:Nat->Nat} {U W:Nat->Prop}
theorem tD (U:Nat->Prop) (k:Nat):cU U (k+1)=cU U k+if U k then 1 else 0:=by
 unfold cU;rw [List.range_succ,List.countP_append];by_cases h:U k<;>simp [h]
theorem Hf {k:Nat} (h: ∀x,x<k->(U x↔W x)):cU U k=cU W k:=by
 unfold cU;refine List.countP_congr fun x hx=>?_;simp only [decide_eq_true_eq];exact h x (List.mem_range.1 hx)
theorem F1 {k:Nat} (h: ∀x,x<k->U x-> ¬W x):cU (fun x=>U x\/W x) k=cU U k+cU W k:=by
 induction k with
 |zero=>simp [cU]
 |succ k ih=>
  rw [tD,tD,tD,ih (fun x hx=>h x (by omega))]
  have:=h k (by omega)
  by_cases h1:U k<;>by_cases h2:W k<;>simp [h1,h2]<;>first|omega|exact absurd h2 (this h1)
theorem Ac {u:Nat}: ∀k,cU (fun x=>x=u) k=if u<k then 1 else 0
 |0=>by simp [cU]
 |k+1=>by
  rw [tD,Ac k];by_cases h1:u<k
  ·rw [if_pos h1,if_neg (by omega),if_pos (by omega)]
  ·rw [if_neg h1];by_cases h2:k=u
   ·rw [if_pos h2,if_pos (by omega)]
   ·rw [if_neg h2,if_neg (by omega)]
theorem wG (ha:iG N al) (hU: ∀x,x<N->(U x↔U (al x))):2*eU al U N=cU U N:=by
 have e1:eU al U N=((List.range N).filter fun h=>decide (U h/\h<al h)).length:=by unfold eU;rw [List.countP_eq_length_filter]
 have e2:cU U N=eU al U N+((List.range N).filter fun h=>decide (U h/\ ¬h<al h)).length:=by
  rw [←List.countP_eq_length_filter];unfold cU eU;generalize List.range N=l
  induction l with
  |nil=>simp
  |cons x l ih=>
   simp only [List.countP_cons];rw [ih];by_cases h1:U x<;>by_cases h2:x<al x<;>simp [h1,h2]<;>omega
 have m1: ∀x,x∈((List.range N).filter fun h=>decide (U h/\h<al h))↔x<N/\U x/\x<al x:=fun x=>by simp [List.mem_filter]
 have m2: ∀x,x∈((List.range N).filter fun h=>decide (U h/\ ¬h<al h))↔x<N/\U x/\ ¬x<al x:=fun x=>by simp [List.mem_filter]
 have i1:=yw ((List.range N).filter fun h=>decide (U h/\h<al h)) ((List.range N).filter fun h=>decide (U h/\ ¬h<al h)) al (List.nodup_range.filter _) (fun x hx=>by
  obtain ⟨h1,h2,h3⟩:=(m1 x).1 hx;exact (m2 _).2 ⟨ha.lt x h1,(hU x h1).1 h2,by rw [ha.inv x h1];omega⟩) (fun x hx y hy e=>by
  have h1:=((m1 x).1 hx).1;have h2:=((m1 y).1 hy).1;rw [←ha.inv x h1,←ha.inv y h2,e])
 have i2:=yw ((List.range N).filter fun h=>decide (U h/\ ¬h<al h)) ((List.range N).filter fun h=>decide (U h/\h<al h)) al (List.nodup_range.filter _) (fun x hx=>by
  obtain ⟨h1,h2,h3⟩:=(m2 x).1 hx
  have:=ha.ne x h1
  exact (m1 _).2 ⟨ha.lt x h1,(hU x h1).1 h2,by rw [ha.inv x h1];omega⟩) (fun x hx y hy e=>by
  have h1:=((m2 x).1 hx).1;have h2:=((m2 y).1 hy).1;rw [←ha.inv x h1,←ha.inv y h2,e])
 omega
theorem GB {f:Nat->Nat} {x:Nat} (h:f x=x): ∀k,itn f k x=x
 |0=>rfl
 |k+1=>by simp only [itn];rw [GB h k];exact h
theorem NP {f:Nat->Nat} (hf:di N f) {a v:Nat} (ha:a<N) (Sr:a≠v) (hs:f a=v):swp f a v v=v/\ ∀x y,x<N->y<N->x≠v->y≠v->(SC f x y↔SC (swp f a v) x y):=by
 have hv:v<N:=by rw [←hs];exact hf.lt a ha
 have CB:swp f a v v=v:=by unfold swp;rw [if_neg (Ne.symm Sr),if_pos rfl];exact hs
 refine ⟨CB,fun x y hx hy nx ny=>?_⟩;have ke:SC f a v:=⟨1,hs⟩;have df:=vj hf ha hv;have cH:=Av hf ha Sr ke;have hj:=tM df ha hv cH x y hx hy;rw [yy] at hj;rw [hj];have vC: ∀z,SC (swp f a v) v z->z=v:=fun z ⟨k,hk⟩=>hk▸GB CB k;constructor
 ·rintro (e|⟨_,e⟩|⟨e,_⟩)
  ·exact e
  ·exact absurd (vC _ e) ny
  ·exact absurd (vC _ (e.symm df hx)) nx
 ·exact .inl
def eO (al:Nat->Nat) (u v x:Nat):Nat:=if x=u then v else if x=v then u else if x=al u then al v else if x=al v then al u else al x
theorem ow.ou (h:ow N si al) {u v:Nat} (hu:u<N) (hv:v<N) (pM:u≠v) (s1:si u=v) (s2:si v=u) (aw:al u≠v):ow N si (eO al u v):=by
 have hs:=h.perm;have ha:=h.jo;obtain ⟨a,ea⟩: ∃a,al u=a:=⟨_,rfl⟩;obtain ⟨b,eb⟩: ∃b,al v=b:=⟨_,rfl⟩;have la:a<N:=by rw [←ea];exact ha.lt u hu
 have lb:b<N:=by rw [←eb];exact ha.lt v hv
 have ia:al a=u:=by rw [←ea];exact ha.inv u hu
 have ib:al b=v:=by rw [←eb];exact ha.inv v hv
 have vz:a≠u:=by rw [←ea];exact ha.ne u hu
 have vw:b≠v:=by rw [←eb];exact ha.ne v hv
 have vy:a≠v:=by rw [←ea];exact aw
 have wS:b≠u:=fun e=>vy (by rw [←ea,←e,ib]);have Bw:a≠b:=fun e=>pM (by rw [←ia,←ib,e]);have du:eO al u v u=v:=by unfold eO;rw [if_pos rfl]
 have dv:eO al u v v=u:=by unfold eO;rw [if_neg (Ne.symm pM),if_pos rfl]
 have vW:eO al u v a=b:=by unfold eO;rw [if_neg vz,if_neg vy,ea,if_pos rfl,eb]
 have xR:eO al u v b=a:=by unfold eO;rw [if_neg wS,if_neg vw,ea,if_neg (Ne.symm Bw),eb,if_pos rfl]
 have dx: ∀x,x≠u->x≠v->x≠a->x≠b->eO al u v x=al x:=fun x h1 h2 h3 h4=>by unfold eO;rw [if_neg h1,if_neg h2,ea,if_neg h3,eb,if_neg h4]
 have dc: ∀x,x=u\/x=v\/x=a\/x=b\/(x≠u/\x≠v/\x≠a/\x≠b):=fun x=>by omega
 have xS: ∀x,x<N->x≠u->x≠v->x≠a->x≠b->al x≠u/\al x≠v/\al x≠a/\al x≠b:=fun x hx h1 h2 h3 h4=>by
  have i:=ha.inv x hx;refine ⟨fun e=>h3 (by rw [←i,e,ea]),fun e=>h4 (by rw [←i,e,eb]),fun e=>h1 (by rw [←i,e,ia]),fun e=>h2 (by rw [←i,e,ib])⟩
 have eZ:iG N (eO al u v):=by
  refine ⟨fun x hx=>?_,fun x hx=>?_,fun x hx=>?_⟩
  ·rcases dc x with rfl|rfl|rfl|rfl|⟨h1,h2,h3,h4⟩
   ·rw [du];exact hv
   ·rw [dv];exact hu
   ·rw [vW];exact lb
   ·rw [xR];exact la
   ·rw [dx x h1 h2 h3 h4];exact ha.lt x hx
  ·rcases dc x with rfl|rfl|rfl|rfl|⟨h1,h2,h3,h4⟩
   ·rw [du,dv]
   ·rw [dv,du]
   ·rw [vW,xR]
   ·rw [xR,vW]
   ·obtain ⟨k1,k2,k3,k4⟩:=xS x hx h1 h2 h3 h4;rw [dx x h1 h2 h3 h4,dx _ k1 k2 k3 k4];exact ha.inv x hx
  ·rcases dc x with rfl|rfl|rfl|rfl|⟨h1,h2,h3,h4⟩
   ·rw [du];exact Ne.symm pM
   ·rw [dv];exact pM
   ·rw [vW];exact Ne.symm Bw
   ·rw [xR];exact Bw
   ·rw [dx x h1 h2 h3 h4];exact ha.ne x hx
 have hE:=qS hs ha;have e8:=qS hs eZ;have y8:KK si al N u v:=by have:=gU hs ha hu;rwa [s1] at this
 have Kj:KK si al N u a:=by have:=fW hs ha hu;rwa [ea] at this
 have Ki:KK si al N v b:=by have:=fW hs ha hv;rwa [eb] at this
 have Ry:KK si al N a b:=hE.trans _ _ _ la hu lb (hE.symm _ _ hu la Kj) (hE.trans _ _ _ hu hv lb y8 Ki);have db: ∀x y,x<N->y<N->KK si (eO al u v) N x y->KK si al N x y:=fun x y hx hy hk=>by
  refine tE hs eZ hE (fun x hx=>gU hs ha hx) (fun x hx=>?_) hx hy hk;rcases dc x with rfl|rfl|rfl|rfl|⟨h1,h2,h3,h4⟩
  ·rw [du];exact y8
  ·rw [dv];exact hE.symm _ _ hu hv y8
  ·rw [vW];exact Ry
  ·rw [xR];exact hE.symm _ _ la lb Ry
  ·rw [dx x h1 h2 h3 h4];exact fW hs ha hx
 have BC:KK si (eO al u v) N a b:=by have:=fW hs eZ la;rwa [vW] at this
 have wP: ∀x,x<N->((x=u\/x=v)↔(si x=u\/si x=v)):=fun x hx=>by
  constructor
  ·rintro (rfl|rfl)
   ·exact .inr s1
   ·exact .inl s2
  ·rintro (e|e)
   ·exact .inr (hs.inj x v hx hv (by rw [e,s2]))
   ·exact .inl (hs.inj x u hx hu (by rw [e,s1]))
 have uj: ∀x y,x<N->y<N->x≠u->x≠v->y≠u->y≠v->KK si al N x y->KK si (eO al u v) N x y:=fun x y hx hy x1 x2 y1 y2 hk=>by
  obtain ⟨r,hr⟩: ∃r:Nat->Nat,∀x,r x=if x=u then a else if x=v then b else x:=⟨_,fun _=>rfl⟩;have ru:r u=a:=by rw [hr,if_pos rfl]
  have rv:r v=b:=by rw [hr,if_neg (Ne.symm pM),if_pos rfl]
  have ro: ∀x,x≠u->x≠v->r x=x:=fun x h1 h2=>by rw [hr,if_neg h1,if_neg h2]
  have rl: ∀x,x<N->r x<N:=fun x hx=>by
   rw [hr];split
   ·exact la
   ·split
    ·exact lb
    ·exact hx
  have key:KK si (eO al u v) N (r x) (r y):=by
   refine tE (R:=fun x y=>KK si (eO al u v) N (r x) (r y)) hs ha ⟨fun x hx=>e8.rfl' _ (rl x hx),fun x y hx hy e=>e8.symm _ _ (rl x hx) (rl y hy) e,fun x y z hx hy hz e1 e2=>e8.trans _ _ _ (rl x hx) (rl y hy) (rl z hz) e1 e2⟩ (fun x hx=>?_) (fun x hx=>?_) hx hy hk
   ·by_cases h1:x=u
    ·subst h1;rw [s1,ru,rv];exact BC
    ·by_cases h2:x=v
     ·subst h2;rw [s2,ru,rv];exact e8.symm _ _ la lb BC
     ·have:=wP x hx
      have h3: ¬(si x=u\/si x=v):=fun e=>by have:=this.2 e;omega
      rw [ro x h1 h2,ro (si x) (fun e=>h3 (.inl e)) (fun e=>h3 (.inr e))];exact gU hs eZ hx
   ·rcases dc x with rfl|rfl|rfl|rfl|⟨h1,h2,h3,h4⟩
    ·rw [ea,ru,ro a vz vy];exact e8.rfl' _ la
    ·rw [eb,rv,ro b wS vw];exact e8.rfl' _ lb
    ·rw [ia,ru,ro x vz vy];exact e8.rfl' _ la
    ·rw [ib,rv,ro x wS vw];exact e8.rfl' _ lb
    ·obtain ⟨k1,k2,_,_⟩:=xS x hx h1 h2 h3 h4;rw [ro x h1 h2,ro _ k1 k2]
     have:=fW hs eZ hx
     rwa [dx x h1 h2 h3 h4] at this
  rwa [ro x x1 x2,ro y y1 y2] at key
 have BV: ∀x y,x<N->y<N->KK si (eO al u v) N x y->((x=u\/x=v)↔(y=u\/y=v)):=fun x y hx hy hk=>by
  refine tE (R:=fun x y=>((x=u\/x=v)↔(y=u\/y=v))) hs eZ ⟨fun _ _=>Iff.rfl,fun _ _ _ _ e=>e.symm,fun _ _ _ _ _ _ e1 e2=>e1.trans e2⟩ (fun x hx=>wP x hx) (fun x hx=>?_) hx hy hk;rcases dc x with rfl|rfl|rfl|rfl|⟨h1,h2,h3,h4⟩
  ·rw [du];simp
  ·rw [dv];simp
  ·rw [vW];simp [vz,vy,wS,vw]
  ·rw [xR];simp [vz,vy,wS,vw]
  ·obtain ⟨k1,k2,_,_⟩:=xS x hx h1 h2 h3 h4;rw [dx x h1 h2 h3 h4];simp [h1,h2,k1,k2]
 have kg:=qv hs ha N (Nat.le_refl _);have iA:=qv hs eZ N (Nat.le_refl _);have fa:bR si al N a=v:=by rw [eJ ha la,ia,s1]
 obtain ⟨Y9,Y8⟩:=NP kg la vy fa;have hq:=vj kg la hv;have fb:swp (bR si al N) a v b=u:=by unfold swp;rw [if_neg (Ne.symm Bw),if_neg vw,eJ ha lb,ib,s2]
 obtain ⟨Y7,Y6⟩:=NP hq lb wS fb;have nH:=vj hq lb hu;have xi: ∀x,x<N->swp (swp (bR si al N) a v) b u x=bR si (eO al u v) N x:=fun x hx=>by
  rw [eJ eZ hx];rcases dc x with rfl|rfl|rfl|rfl|⟨h1,h2,h3,h4⟩
  ·rw [du,s2];exact Y7
  ·rw [dv,s1];unfold swp;rw [if_neg (Ne.symm vw),if_neg (Ne.symm pM)];exact Y9
  ·rw [vW];unfold swp;rw [if_neg Bw,if_neg vz,if_pos rfl,eJ ha hv,eb]
  ·rw [xR];unfold swp;rw [if_pos rfl,if_neg (Ne.symm vz),if_neg pM,eJ ha hu,ea]
  ·rw [dx x h1 h2 h3 h4];unfold swp;rw [if_neg h4,if_neg h1,if_neg h3,if_neg h2,eJ ha hx]
 have ke: ∀x y,x<N->y<N->x≠u->x≠v->y≠u->y≠v->(SC (bR si al N) x y↔SC (bR si (eO al u v) N) x y):=fun x y hx hy x1 x2 y1 y2=>
  (Y8 x y hx hy x2 y2).trans ((Y6 x y hx hy x1 y1).trans (wN nH xi hx))
 refine ⟨hs,eZ,fun r hr kV kF kY jO=>?_⟩;by_cases nZ:r=u\/r=v
 ·--the circle of the two darts
  have bC: ∀x,x<N->(KK si (eO al u v) N r x↔(x=u\/x=v)):=fun x hx=>by
   refine ⟨fun e=>(BV r x hr hx e).1 nZ,fun e=>?_⟩;have BA:KK si (eO al u v) N u v:=by have:=gU hs eZ hu;rwa [s1] at this
   rcases nZ with rfl|rfl<;>rcases e with rfl|rfl
   ·exact e8.rfl' _ hr
   ·exact BA
   ·exact e8.symm _ _ hx hr BA
   ·exact e8.rfl' _ hr
  have tV:Tr N (KK si (eO al u v) N r) (SC si) [u]:=by
   refine ⟨fun x hx=>?_,by simp,fun x hx y hy _=>?_,fun x hx e=>⟨u,by simp,?_⟩⟩
   ·simp at hx;subst hx;exact ⟨hu,(bC _ hu).2 (.inl rfl)⟩
   ·simp at hx hy;rw [hx,hy]
   ·rcases (bC x hx).1 e with rfl|rfl
    ·exact .refl _ _
    ·exact ⟨1,s2⟩
  have L8:bR si (eO al u v) N u=u:=by rw [eJ eZ hu,du,s2]
  have L7:bR si (eO al u v) N v=v:=by rw [eJ eZ hv,dv,s1]
  have vU: ∀x y,bR si (eO al u v) N x=x->SC (bR si (eO al u v) N) x y->y=x:=fun x y hf ⟨k,hk⟩=>hk▸GB hf k;have tF:Tr N (KK si (eO al u v) N r) (SC (bR si (eO al u v) N)) [u,v]:=by
   refine ⟨fun x hx=>?_,by simp [pM],fun x hx y hy e=>?_,fun x hx e=>?_⟩
   ·simp at hx;rcases hx with rfl|rfl
    ·exact ⟨hu,(bC _ hu).2 (.inl rfl)⟩
    ·exact ⟨hv,(bC _ hv).2 (.inr rfl)⟩
   ·simp at hx;rcases hx with rfl|rfl
    ·exact (vU _ _ L8 e).symm
    ·exact (vU _ _ L7 e).symm
   ·rcases (bC x hx).1 e with rfl|rfl
    ·exact ⟨x,by simp, .refl _ _⟩
    ·exact ⟨x,by simp, .refl _ _⟩
  have e1:=tV.bf (SC.eqv hs) kY;have e2:=tF.bf (SC.eqv iA) jO;have e3:=wG eZ (iZ hs eZ hr).2;have e4:cU (KK si (eO al u v) N r) N=2:=by
   rw [Hf bC,F1 (fun x _ e1 e2=>pM (e1.symm.trans e2)),Ac,Ac,if_pos hu,if_pos hv]
  simp at e1 e2;omega
 ·have r1:r≠u:=fun e=>nZ (.inl e);have r2:r≠v:=fun e=>nZ (.inr e);have xl: ∀x,x<N->KK si (eO al u v) N r x->x≠u/\x≠v:=fun x hx e=>by
   have:=(BV r x hr hx e)
   exact ⟨fun g=>nZ (this.2 (.inl g)),fun g=>nZ (this.2 (.inr g))⟩
  have bC: ∀x,x<N->x≠u->x≠v->(KK si (eO al u v) N r x↔KK si al N r x):=fun x hx x1 x2=>⟨db r x hr hx,uj r x hr hx r1 r2 x1 x2⟩;by_cases vJ:KK si al N r u
  ·have RW:=hE.trans _ _ _ hr hu hv vJ y8;have XP:=hE.trans _ _ _ hr hu la vJ Kj;have XO:=hE.trans _ _ _ hr hv lb RW Ki;have tV:Tr N (KK si al N r) (SC si) (u::kV):=by
    refine ⟨fun x hx=>?_,?_,fun x hx y hy e=>?_,fun x hx e=>?_⟩
    ·rcases List.mem_cons.1 hx with rfl|g
     ·exact ⟨hu,vJ⟩
     ·exact ⟨(kY.mem x g).1,db r x hr (kY.mem x g).1 (kY.mem x g).2⟩
    ·exact List.nodup_cons.2 ⟨fun g=>(xl u hu (kY.mem u g).2).1 rfl,kY.nodup⟩
    ·have KN: ∀k,itn si k u=u\/itn si k u=v:=fun k=>by
      induction k with
      |zero=>exact .inl rfl
      |succ k ih=>exact (wP _ (hs.cn hu k)).1 ih
     have B0: ∀z,SC si u z->z=u\/z=v:=fun z ⟨k,hk⟩=>hk▸KN k;rcases List.mem_cons.1 hx with rfl|g<;>rcases List.mem_cons.1 hy with rfl|k
     ·rfl
     ·have:=xl y (kY.mem y k).1 (kY.mem y k).2
      have:=B0 y e
      omega
     ·have:=xl x (kY.mem x g).1 (kY.mem x g).2
      have:=B0 x (e.symm hs (kY.mem x g).1)
      omega
     ·exact kY.apart x g y k e
    ·by_cases x1:x=u
     ·exact ⟨u,by simp,by rw [x1];exact .refl _ _⟩
     ·by_cases x2:x=v
      ·exact ⟨u,by simp,by rw [x2];exact ⟨1,s2⟩⟩
      ·obtain ⟨y,h1,h2⟩:=kY.all x hx ((bC x hx x1 x2).2 e);exact ⟨y,by simp [h1],h2⟩
   have tF:Tr N (KK si al N r) (SC (bR si al N)) kF:=by
    refine ⟨fun x hx=>⟨(jO.mem x hx).1,db r x hr (jO.mem x hx).1 (jO.mem x hx).2⟩,jO.nodup,fun x hx y hy e=>?_,fun x hx e=>?_⟩
    ·have nx:=xl x (jO.mem x hx).1 (jO.mem x hx).2;have ny:=xl y (jO.mem y hy).1 (jO.mem y hy).2;exact jO.apart x hx y hy ((ke x y (jO.mem x hx).1 (jO.mem y hy).1 nx.1 nx.2 ny.1 ny.2).1 e)
    ·have step: ∀z,z<N->z≠u->z≠v->KK si al N r z-> ∃y,y∈kF/\SC (bR si al N) z y:=fun z hz z1 z2 ez=>by
      obtain ⟨y,h1,h2⟩:=jO.all z hz ((bC z hz z1 z2).2 ez);have ny:=xl y (jO.mem y h1).1 (jO.mem y h1).2;exact ⟨y,h1,(ke z y hz (jO.mem y h1).1 z1 z2 ny.1 ny.2).2 h2⟩
     by_cases x1:x=u
     ·obtain ⟨y,h1,h2⟩:=step b lb wS vw XO;refine ⟨y,h1,?_⟩
      have:SC (bR si al N) b u:=⟨1,by show bR si al N b=u;rw [eJ ha lb,ib,s2]⟩
      rw [x1];exact (this.symm kg lb).trans h2
     ·by_cases x2:x=v
      ·obtain ⟨y,h1,h2⟩:=step a la vz vy XP;refine ⟨y,h1,?_⟩
       have:SC (bR si al N) a v:=⟨1,fa⟩
       rw [x2];exact (this.symm kg la).trans h2
      ·exact step x hx x1 x2 e
   have e0:=h.eq r hr _ _ tV tF;have e1:=wG ha (iZ hs ha hr).2;have e2:=wG eZ (iZ hs eZ hr).2;have e3:cU (KK si al N r) N=cU (KK si (eO al u v) N r) N+2:=by
    have c1:cU (KK si al N r) N=cU (fun x=>KK si (eO al u v) N r x\/(x=u\/x=v)) N:=Hf fun x hx=>by
     by_cases x1:x=u
     ·subst x1;exact ⟨fun _=> .inr (.inl rfl),fun _=>vJ⟩
     ·by_cases x2:x=v
      ·subst x2;exact ⟨fun _=> .inr (.inr rfl),fun _=>RW⟩
      ·rw [bC x hx x1 x2];simp [x1,x2]
    rw [c1,F1 (fun x hx e1 e2=>by have:=xl x hx e1;omega),F1 (fun x _ e1 e2=>pM (e1.symm.trans e2)),Ac,Ac,if_pos hu,if_pos hv]
   simp only [List.length_cons] at e0;omega
  ·have n8: ∀x,x<N->KK si al N r x->x≠u/\x≠v/\x≠a/\x≠b:=fun x hx e=>by
    refine ⟨fun g=>?_,fun g=>?_,fun g=>?_,fun g=>?_⟩
    ·subst g;exact vJ e
    ·subst g;exact vJ (hE.trans _ _ _ hr hx hu e (hE.symm _ _ hu hx y8))
    ·subst g;exact vJ (hE.trans _ _ _ hr hx hu e (hE.symm _ _ hu hx Kj))
    ·subst g;exact vJ (hE.trans _ _ _ hr hx hu e (hE.trans _ _ _ hx hv hu (hE.symm _ _ hv hx Ki) (hE.symm _ _ hu hv y8)))
   have oh: ∀x,x<N->(KK si (eO al u v) N r x↔KK si al N r x):=fun x hx=>by
    refine ⟨db r x hr hx,fun e=>?_⟩
    have:=n8 x hx e
    exact (bC x hx this.1 this.2.1).2 e
   have tV:Tr N (KK si al N r) (SC si) kV:=kY.cD oh (fun _ _ _ _ _ _=>Iff.rfl);have tF:Tr N (KK si al N r) (SC (bR si al N)) kF:=jO.cD oh (fun x y hx hy e1 e2=>by
    have n1:=n8 x hx ((oh x hx).1 e1);have n2:=n8 y hy ((oh y hy).1 e2);exact (ke x y hx hy n1.1 n1.2.1 n2.1 n2.2.1).symm)
   have e0:=h.eq r hr _ _ tV tF;rw [e0];congr 1;exact yL fun x hx=>by
    rw [oh x hx];constructor
    ·rintro ⟨g1,g2⟩
     have:=n8 x hx g1
     exact ⟨g1,by rw [dx x this.1 this.2.1 this.2.2.1 this.2.2.2];exact g2⟩
    ·rintro ⟨g1,g2⟩
     have:=n8 x hx g1
     exact ⟨g1,by rw [dx x this.1 this.2.1 this.2.2.1 this.2.2.2] at g2;exact g2⟩
end
end Sp
namespace Sp
open Classical
def ed (x:Nat):Nat:=x-x % 4+(x % 4+3)% 4
def bZ (m:List Int) (x:Nat):Nat:=(m.getD x 0).toNat
theorem Aq (x:Nat):ed x/4=x/4:=by unfold ed;omega
theorem qu (n:Nat):di (4*n) ed:=⟨fun x hx=>by unfold ed;omega,fun x y hx hy e=>by unfold ed at e;omega⟩
theorem Ab {x y:Nat}:SC ed x y↔x/4=y/4:=by
 constructor
 ·rintro ⟨k,rfl⟩
  induction k with
  |zero=>rfl
  |succ k ih=>simp only [itn];rw [Aq];exact ih
 ·intro e;refine ⟨(x % 4+4-y % 4)% 4,?_⟩;have h4:x % 4=0\/x % 4=1\/x % 4=2\/x % 4=3:=by omega
  have k4:y % 4=0\/y % 4=1\/y % 4=2\/y % 4=3:=by omega
  rcases h4 with h|h|h|h<;>rcases k4 with k|k|k|k<;>rw [h,k]<;>first|(simp only [itn,ed];omega)|(show x=y;omega)
section
variable {m:List Int} {n:Nat}
structure kk (m:List Int) (n:Nat):Prop where
 dd:dk m n
 ne: ∀h:Nat,h<4*n->m.getD h 0≠h
theorem kk.cast (h:kk m n) {x:Nat} (hx:x<4*n):((bZ m x:Nat):Int)=m.getD x 0:=by
 have:=h.dd.ok.2 x hx;unfold bZ;omega
theorem kk.jo (h:kk m n):iG (4*n) (bZ m):=by
 refine ⟨fun x hx=>?_,fun x hx=>?_,fun x hx=>?_⟩
 ·have:=h.dd.ok.2 x hx;unfold bZ;omega
 ·have:=h.dd.inv x hx;unfold bZ;rw [this];simp
 ·intro e;exact h.ne x hx (by rw [←h.cast hx,e])
theorem kk.conn (h:kk m n) {x y:Nat} (hx:x<4*n) (hy:y<4*n):KK ed (bZ m) (4*n) x y↔bp m (x/4) (y/4):=by
 have hs:=qu n;have ha:=h.jo;have hE:=qS hs ha;constructor
 ·refine fun hk=>tE (R:=fun x y=>bp m (x/4) (y/4)) hs ha ⟨fun _ _=> .refl _,fun x y hx _ e=>e.symm h.dd (by omega),fun _ _ _ _ _ _ e1 e2=>e1.trans e2⟩ (fun x _=>?_) (fun x hx=>?_) hx hy hk
  ·rw [Aq];exact .refl _
  ·have:bZ m x/4=nb m (x/4) (x % 4):=by
    unfold nb bZ;rw [show 4*(x/4)+x % 4=x by omega]
    have:=h.dd.ok.2 x hx
    omega
   rw [this];exact .step _ (by omega) (.refl _)
 ·have key: ∀{a b:Nat},bp m a b->a<n-> ∀x y,x/4=a->y/4=b->KK ed (bZ m) (4*n) x y:=fun {a b} hc han=>by
   induction hc with
   |refl=>intro x y hx hy;exact sI hs ha (by omega) (Ab.2 (by omega))
   | @step b s h4 hc ih=>
     intro x y hx hy;have hb:=hc.lt h.dd han;have h1:=ih x (4*b+s) hx (by omega);have h2:=fW hs ha (x:=4*b+s) (by omega);have hl:=ha.lt (4*b+s) (by omega);have h3:bZ m (4*b+s)/4=nb m b s:=by
      unfold nb bZ
      have:=h.dd.ok.2 (4*b+s) (by omega)
      omega
     have kU:y<4*n:=by omega
     exact hE.trans _ _ _ (by omega) (by omega) kU h1 (hE.trans _ _ _ (by omega) hl kU h2 (sI hs ha hl (Ab.2 (by omega))))
  intro hc;exact key hc (by omega) x y rfl rfl
theorem kk.it (h:kk m n) {x:Nat} (hx:x<4*n): ∀k,it (jc m) k x=(itn (bR ed (bZ m) (4*n)) k x:Nat)
 |0=>rfl
 |k+1=>by
  have hl:=(qv (qu n) h.jo (4*n) (Nat.le_refl _)).cn hx k;simp only [itn,Go.Proofs.YtphjphpmfflfpaaGreatDoor.it];rw [h.it hx k,eJ h.jo hl];generalize itn (bR ed (bZ m) (4*n)) k x=z at*;unfold jc;rw [Int.toNat_natCast,nS,←h.cast hl];unfold ed;omega
theorem kk.C4 (h:kk m n) {x y:Nat} (hx:x<4*n):(y:Int)∈cm (jc m) m.length x↔SC (bR ed (bZ m) (4*n)) x y:=by
 have fB:=h.dd.ok.1;have ho:=(AO (EK h.dd) (x:=x) (by unfold ax;omega)).1 y;rw [fB,ho];constructor
 ·rintro ⟨j,e⟩;rw [h.it hx j] at e;exact ⟨j,by omega⟩
 ·rintro ⟨j,e⟩;exact ⟨j,by rw [h.it hx j,e]⟩
theorem Mv (P:Nat->Prop): ∀n,cU (fun x=>P (x/4)) (4*n)=4*cU P n
 |0=>by simp [cU]
 |n+1=>by
  rw [show 4*(n+1)=4*n+1+1+1+1 by omega,tD,tD,tD,tD,Mv P n,tD];rw [show 4*n/4=n by omega,show (4*n+1)/4=n by omega,show (4*n+1+1)/4=n by omega,show (4*n+1+1+1)/4=n by omega]
  split<;>omega
theorem kk.A4 (h:kk m n) {a:Nat} (ha:a<n) {u:Int} (hu: ∀b,b<n->((cF m n n).getD b 0=u↔bp m a b)) {r:Nat} (hr:r/4=a):
  (∃l,Tr (4*n) (KK ed (bZ m) (4*n) r) (SC ed) l/\l.length=fi (cF m n n) n u)/\cU (KK ed (bZ m) (4*n) r) (4*n)=4*fi (cF m n n) n u:=by
 have lH:r<4*n:=by omega
 have nk: ∀x,x<4*n->(KK ed (bZ m) (4*n) r x↔(cF m n n).getD (x/4) 0=u):=fun x hx=>by
  rw [h.conn lH hx,hr,hu (x/4) (by omega)]
 refine ⟨⟨((List.range n).filter fun c=>(cF m n n).getD c 0==u).map (4* ·),⟨fun x hx=>?_,?_,fun x hx y hy e=>?_,fun x hx e=>?_⟩,?_⟩,?_⟩
 ·obtain ⟨c,hc,rfl⟩:=List.mem_map.1 hx;have h1:=List.mem_filter.1 hc;have h2:=List.mem_range.1 h1.1;refine ⟨by omega,(nk _ (by omega)).2 ?_⟩;rw [show 4*c/4=c by omega];simpa using h1.2
 ·exact List.Pairwise.map _ (fun a b fh e=>fh (by omega)) (List.nodup_range.filter _)
 ·obtain ⟨c,_,rfl⟩:=List.mem_map.1 hx;obtain ⟨d,_,rfl⟩:=List.mem_map.1 hy
  have:=Ab.1 e
  omega
 ·refine ⟨4*(x/4),List.mem_map.2 ⟨x/4,List.mem_filter.2 ⟨List.mem_range.2 (by omega),by simpa using (nk x hx).1 e⟩,rfl⟩,Ab.2 (by omega)⟩
 ·rw [List.length_map,←List.countP_eq_length_filter];rfl
 ·rw [Hf nk,Mv (fun c=>(cF m n n).getD c 0=u)];congr 1;unfold cU fi;refine List.countP_congr fun c _=>?_;simp
theorem kk.SO (h:kk m n) {a:Nat} (ha:a<n) {u:Int} (hu: ∀b,b<n->((cF m n n).getD b 0=u↔bp m a b)) {r:Nat} (hr:r/4=a):
  ∃l,Tr (4*n) (KK ed (bZ m) (4*n) r) (SC (bR ed (bZ m) (4*n))) l/\l.length=gQ m (cF m n n) (4*n) u:=by
 have lH:r<4*n:=by omega
 have nk: ∀x,x<4*n->(KK ed (bZ m) (4*n) r x↔(cF m n n).getD (x/4) 0=u):=fun x hx=>by
  rw [h.conn lH hx,hr,hu (x/4) (by omega)]
 have kg:=qv (qu n) h.jo (4*n) (Nat.le_refl _);have qJ: ∀x,x<4*n->(fl m x=true↔ ∀y,SC (bR ed (bZ m) (4*n)) x y->x<=y):=fun x hx=>by
  unfold fl;rw [Is];constructor
  ·intro hl y hy
   have:=hl y ((h.C4 hx).2 hy)
   omega
  ·intro hl y hy;have E9:=(AO (EK h.dd) (x:=x) (by unfold ax;omega)).2.1 y (by rw [h.dd.ok.1] at hy;exact hy);unfold ax at E9;obtain ⟨z,rfl⟩: ∃z:Nat,y=z:=⟨y.toNat,by omega⟩
   have:=hl z ((h.C4 hx).1 hy)
   omega
 refine ⟨(List.range (4*n)).filter fun i=>fl m i&&(cF m n n).getD (i/4) 0==u,⟨fun x hx=>?_,List.nodup_range.filter _,fun x hx y hy e=>?_,fun x hx e=>?_⟩,?_⟩
 ·have h1:=List.mem_filter.1 hx;have h2:=List.mem_range.1 h1.1;refine ⟨h2,(nk x h2).2 ?_⟩
  have:=h1.2
  rw [Bool.and_eq_true] at this;simpa using this.2
 ·have h1:=List.mem_filter.1 hx;have h2:=List.mem_filter.1 hy;have l1:=List.mem_range.1 h1.1;have l2:=List.mem_range.1 h2.1;have f1:=(qJ x l1).1 ((Bool.and_eq_true _ _▸h1.2).1);have f2:=(qJ y l2).1 ((Bool.and_eq_true _ _▸h2.2).1)
  have:=f1 y e
  have:=f2 x (e.symm kg l1)
  omega
 ·have key: ∀k x,x<k->x<4*n->(cF m n n).getD (x/4) 0=u-> ∃y,y∈((List.range (4*n)).filter fun i=>fl m i&&(cF m n n).getD (i/4) 0==u)/\SC (bR ed (bZ m) (4*n)) x y:=fun k=>by
   induction k with
   |zero=>intro x h;omega
   |succ k ih=>
    intro x hk hx RO;by_cases hl: ∃y,SC (bR ed (bZ m) (4*n)) x y/\y<x
    ·obtain ⟨y,h1,h2⟩:=hl;have kU:y<4*n:=by omega
     have XH:(cF m n n).getD (y/4) 0=u:=by
      have nN:=uT (qu n) h.jo hx h1
      have:=(nk x hx).2 RO
      exact (nk y kU).1 ((qS (qu n) h.jo).trans _ _ _ lH hx kU this nN)
     obtain ⟨z,h3,h4⟩:=ih y (by omega) kU XH;exact ⟨z,h3,h1.trans h4⟩
    ·refine ⟨x,List.mem_filter.2 ⟨List.mem_range.2 hx,?_⟩, .refl _ _⟩;rw [Bool.and_eq_true];exact ⟨(qJ x hx).2 fun y hy=>Nat.le_of_not_lt fun aA=>hl ⟨y,hy,aA⟩,by simpa using RO⟩
  exact key (x+1) x (by omega) hx ((nk x hx).1 e)
 ·rw [←List.countP_eq_length_filter];rfl
theorem kk.E1 (h:kk m n):mJ m n=true↔ow (4*n) ed (bZ m):=by
 have kg:=qv (qu n) h.jo (4*n) (Nat.le_refl _);rw [OA];constructor
 ·intro hr;refine ⟨qu n,h.jo,fun r lH lV lF hV hF=>?_⟩;obtain ⟨u,hu,hc,jP⟩:=GY h.dd (a:=r/4) (by omega);have e0:=hr u hu ((jP u hu).2 (hc.symm h.dd hu));obtain ⟨⟨l1,t1,n1⟩,Yx⟩:=h.A4 (a:=r/4) (by omega) jP rfl;obtain ⟨l2,t2,n2⟩:=h.SO (a:=r/4) (by omega) jP rfl;have e1:=hV.bf (SC.eqv (qu n)) t1;have e2:=hF.bf (SC.eqv kg) t2;have e3:=wG h.jo (iZ (qu n) h.jo lH).2
  omega
 ·intro hS c hc Lb;obtain ⟨u,hu,FD,jP⟩:=GY h.dd (a:=c) hc;have RQ:(u:Int)=c:=by rw [←Lb];exact ((jP c hc).2 (.refl _)).symm
  have KB:u=c:=by omega
  subst KB;obtain ⟨⟨l1,t1,n1⟩,Yx⟩:=h.A4 (a:=u) hc jP (r:=4*u) (by omega);obtain ⟨l2,t2,n2⟩:=h.SO (a:=u) hc jP (r:=4*u) (by omega);have e0:=hS.eq (4*u) (by omega) l1 l2 t1 t2;have e3:=wG h.jo (iZ (qu n) h.jo (r:=4*u) (by omega)).2;omega
end
end Sp
namespace Sp
open Classical
section
variable {N N':Nat} {si al kq jB io:Nat->Nat}
def C6 (N:Nat) (si al:Nat->Nat) (r:Nat):Prop:= ∀lV lF,Tr N (KK si al N r) (SC si) lV->Tr N (KK si al N r) (SC (bR si al N)) lF->lV.length+lF.length=2+eU al (KK si al N r) N
theorem Vm (hs:di N si) (ha:iG N al) (il: ∀x,x<N'->io x<N) (ii: ∀x y,x<N'->y<N'->io x=io y->x=y) (ls: ∀x,x<N'->kq x<N') (la: ∀x,x<N'->jB x<N')
  (es: ∀x,x<N'->io (kq x)=si (io x)) (ea: ∀x,x<N'->io (jB x)=al (io x)):di N' kq/\iG N' jB/\ ∀r,r<N'->(C6 N si al (io r)↔C6 N' kq jB r):=by
 have bD:di N' kq:=⟨ls,fun x y hx hy e=>ii x y hx hy (hs.inj _ _ (il x hx) (il y hy) (by rw [←es x hx,←es y hy,e]))⟩;have eZ:iG N' jB:=by
  refine ⟨la,fun x hx=>ii _ _ (la _ (la x hx)) hx (by rw [ea _ (la x hx),ea x hx];exact ha.inv _ (il x hx)),fun x hx e=>ha.ne _ (il x hx) (by rw [←ea x hx,e])⟩
 have hE:=qS hs ha;have e8:=qS bD eZ;have kg:=qv hs ha N (Nat.le_refl _);have iA:=qv bD eZ N' (Nat.le_refl _);have uA: ∀{f f':Nat->Nat} (_: ∀x,x<N'->f' x<N') (_: ∀x,x<N'->io (f' x)=f (io x)) (x y:Nat),x<N'->y<N'->(SC f' x y↔SC f (io x) (io y)):=fun {f f'} hl he x y hx hy=>by
  have hk: ∀k,itn f' k x<N'/\io (itn f' k x)=itn f k (io x):=fun k=>by
   induction k with
   |zero=>exact ⟨hx,rfl⟩
   |succ k ih=>exact ⟨hl _ ih.1,by simp only [itn];rw [he _ ih.1,ih.2]⟩
  constructor
  ·rintro ⟨k,rfl⟩;exact ⟨k,(hk k).2.symm⟩
  ·rintro ⟨k,e⟩;exact ⟨k,ii _ _ (hk k).1 hy (by rw [(hk k).2,e])⟩
 have RU:=uA ls es;have xi:=uA (f:=bR si al N) (f':=bR kq jB N') (fun x hx=>iA.lt x hx) (fun x hx=>by
  rw [eJ eZ hx,eJ ha (il x hx),es _ (la x hx),ea x hx])
 have zw: ∀u,u<N->((∃x,x<N'/\io x=u)↔(∃x,x<N'/\io x=si u)):=fun u hu=>by
  constructor
  ·rintro ⟨x,hx,rfl⟩;exact ⟨kq x,ls x hx,es x hx⟩
  ·rintro ⟨x,hx,e⟩;obtain ⟨k,hk⟩:=(SC.step si u).symm hs hu;rw [←e] at hk
   have: ∀k,∃y,y<N'/\io y=itn si k (io x):=fun k=>by
    induction k with
    |zero=>exact ⟨x,hx,rfl⟩
    |succ k ih=>obtain ⟨y,hy,e⟩:=ih;exact ⟨kq y,ls y hy,by rw [es y hy,e];rfl⟩
   obtain ⟨y,hy,e2⟩:=this k;exact ⟨y,hy,by rw [e2,hk]⟩
 have Sb: ∀u,u<N->((∃x,x<N'/\io x=u)↔(∃x,x<N'/\io x=al u)):=fun u hu=>by
  constructor
  ·rintro ⟨x,hx,rfl⟩;exact ⟨jB x,la x hx,ea x hx⟩
  ·rintro ⟨x,hx,e⟩;exact ⟨jB x,la x hx,by rw [ea x hx,e];exact ha.inv u hu⟩
 have YT:fX N (fun u v=>((∃x,x<N'/\io x=u)↔(∃y,y<N'/\io y=v))/\ ∀x y,x<N'->y<N'->io x=u->io y=v->KK kq jB N' x y):=by
  refine ⟨fun u _=>⟨Iff.rfl,fun x y hx hy e1 e2=>?_⟩,fun u v _ _ e=>⟨e.1.symm,fun x y hx hy e1 e2=>e8.symm _ _ hy hx (e.2 y x hy hx e2 e1)⟩,fun u v w _ _ _ e1 e2=>⟨e1.1.trans e2.1,fun x y hx hy g1 g2=>?_⟩⟩
  ·have:=ii x y hx hy (by rw [e1,e2]);subst this;exact e8.rfl' _ hx
  ·obtain ⟨z,hz,e⟩:=e1.1.1 ⟨x,hx,g1⟩;exact e8.trans _ _ _ hx hz hy (e1.2 x z hx hz g1 e) (e2.2 z y hz hy e g2)
 have hK: ∀x y,x<N'->y<N'->(KK kq jB N' x y↔KK si al N (io x) (io y)):=fun x y hx hy=>by
  constructor
  ·refine fun hk=>tE (R:=fun x y=>KK si al N (io x) (io y)) bD eZ ⟨fun x hx=>hE.rfl' _ (il x hx),fun x y hx hy e=>hE.symm _ _ (il x hx) (il y hy) e,fun x y z hx hy hz e1 e2=>hE.trans _ _ _ (il x hx) (il y hy) (il z hz) e1 e2⟩ (fun x hx=>?_) (fun x hx=>?_) hx hy hk
   ·rw [es x hx];exact gU hs ha (il x hx)
   ·rw [ea x hx];exact fW hs ha (il x hx)
  ·intro hk;refine (tE hs ha YT (fun u hu=>⟨zw u hu,fun x y hx hy e1 e2=>?_⟩) (fun u hu=>⟨Sb u hu,fun x y hx hy e1 e2=>?_⟩) (il x hx) (il y hy) hk).2 x y hx hy rfl rfl
   ·have:y=kq x:=ii _ _ hy (ls x hx) (by rw [e2,es x hx,e1])
    subst this;exact gU bD eZ hx
   ·have:y=jB x:=ii _ _ hy (la x hx) (by rw [e2,ea x hx,e1])
    subst this;exact fW bD eZ hx
 have og: ∀r,r<N'-> ∀u,u<N->KK si al N (io r) u-> ∃x,x<N'/\io x=u:=fun r hr u hu hk=>
  (tE (R:=fun u v=>((∃x,x<N'/\io x=u)↔(∃y,y<N'/\io y=v))) hs ha ⟨fun _ _=>Iff.rfl,fun _ _ _ _ e=>e.symm,fun _ _ _ _ _ _ e1 e2=>e1.trans e2⟩ zw Sb (il r hr) hu hk).1 ⟨r,hr,rfl⟩
 have w4: ∀{E E':Nat->Nat->Prop} (_: ∀x y,x<N'->y<N'->(E' x y↔E (io x) (io y))) (r:Nat) (l:List Nat),r<N'->Tr N' (KK kq jB N' r) E' l->Tr N (KK si al N (io r)) E (l.map io):=fun {E E'} he r l hr ht=>by
  refine ⟨fun u hu=>?_,?_,fun u hu v hv e=>?_,fun u hu hk=>?_⟩
  ·obtain ⟨x,hx,rfl⟩:=List.mem_map.1 hu;exact ⟨il x (ht.mem x hx).1,(hK r x hr (ht.mem x hx).1).1 (ht.mem x hx).2⟩
  ·rw [List.Nodup,List.pairwise_map];refine List.Pairwise.imp_of_mem ?_ ht.nodup;intro x y hx hy aw e;exact aw (ii x y (ht.mem x hx).1 (ht.mem y hy).1 e)
  ·obtain ⟨x,hx,rfl⟩:=List.mem_map.1 hu;obtain ⟨y,hy,rfl⟩:=List.mem_map.1 hv;rw [ht.apart x hx y hy ((he x y (ht.mem x hx).1 (ht.mem y hy).1).2 e)]
  ·obtain ⟨x,hx,rfl⟩:=og r hr u hu hk;obtain ⟨y,h1,h2⟩:=ht.all x hx ((hK r x hr hx).2 hk);exact ⟨io y,List.mem_map.2 ⟨y,h1,rfl⟩,(he x y hx (ht.mem y h1).1).1 h2⟩
 refine ⟨bD,eZ,fun r hr=>?_⟩;have e1:=wG ha (iZ hs ha (il r hr)).2;have e2:=wG eZ (iZ bD eZ hr).2;have e3:cU (KK si al N (io r)) N=cU (KK kq jB N' r) N':=by
  unfold cU;rw [List.countP_eq_length_filter,List.countP_eq_length_filter];have m1: ∀u,u∈((List.range N).filter fun x=>decide (KK si al N (io r) x))↔u<N/\KK si al N (io r) u:=fun u=>by simp [List.mem_filter]
  have m2: ∀u,u∈((List.range N').filter fun x=>decide (KK kq jB N' r x))↔u<N'/\KK kq jB N' r u:=fun u=>by simp [List.mem_filter]
  refine Nat.le_antisymm ?_ ?_
  ·have mq: ∀u,∃x,(u<N/\KK si al N (io r) u)->(x<N'/\io x=u):=fun u=>by
    by_cases hu:u<N/\KK si al N (io r) u
    ·obtain ⟨x,h1,h2⟩:=og r hr u hu.1 hu.2;exact ⟨x,fun _=>⟨h1,h2⟩⟩
    ·exact ⟨0,fun e=>absurd e hu⟩
   obtain ⟨g,hg⟩:=Classical.axiomOfChoice mq;refine yw _ _ g (List.nodup_range.filter _) (fun u hu=>?_) (fun u hu v hv e=>?_)
   ·have h1:=(m1 u).1 hu;have h2:=hg u h1;exact (m2 _).2 ⟨h2.1,(hK r _ hr h2.1).2 (by rw [h2.2];exact h1.2)⟩
   ·have h1:=hg u ((m1 u).1 hu);have h2:=hg v ((m1 v).1 hv);rw [←h1.2,←h2.2,e]
  ·refine yw _ _ io (List.nodup_range.filter _) (fun x hx=>?_) (fun x hx y hy e=>ii x y ((m2 x).1 hx).1 ((m2 y).1 hy).1 e);have h1:=(m2 x).1 hx;exact (m1 _).2 ⟨il x h1.1,(hK r x hr h1.1).1 h1.2⟩
 constructor
 ·intro h lV lF hV hF;have e0:=h _ _ (w4 RU r lV hr hV) (w4 xi r lF hr hF);rw [List.length_map,List.length_map] at e0;omega
 ·intro h lV lF hV hF;obtain ⟨Kh,zE⟩:=Tr.exists (SC.eqv bD) (KK kq jB N' r);obtain ⟨Bz,zG⟩:=Tr.exists (SC.eqv iA) (KK kq jB N' r);have e0:=h _ _ zE zG;have g1:=hV.bf (SC.eqv hs) (w4 RU r Kh hr zE);have g2:=hF.bf (SC.eqv kg) (w4 xi r Bz hr zG);rw [List.length_map] at g1 g2;omega
theorem ow.vV (h:ow N si al) (il: ∀x,x<N'->io x<N) (ii: ∀x y,x<N'->y<N'->io x=io y->x=y) (ls: ∀x,x<N'->kq x<N') (la: ∀x,x<N'->jB x<N')
  (es: ∀x,x<N'->io (kq x)=si (io x)) (ea: ∀x,x<N'->io (jB x)=al (io x)):ow N' kq jB:=by
 obtain ⟨h1,h2,h3⟩:=Vm h.perm h.jo il ii ls la es ea;exact ⟨h1,h2,fun r hr=>(h3 r hr).1 (h.eq (io r) (il r hr))⟩
end
end Sp
namespace Sp
open Classical
def qM (al:Nat->Nat) (u v x:Nat):Nat:=if x=u then al v else if x=v then al u else x
def dH (al:Nat->Nat) (u v:Nat):Nat->Nat:=if al u=v then al else eO al u v
section
variable {N:Nat} {si al:Nat->Nat}
theorem NO (ha:iG N al) {u v h:Nat} (hu:u<N) (hv:v<N) (pM:u≠v) (hh:h<N) (h1:h≠u) (h2:h≠v):dH al u v h=qM al u v (al h):=by
 have ih:=ha.inv h hh;unfold dH qM;by_cases e:al u=v
 ·rw [if_pos e];have n1:al h≠u:=fun g=>h2 (by rw [←ih,g,e]);have n2:al h≠v:=fun g=>h1 (by rw [←ih,g,←e,ha.inv u hu]);rw [if_neg n1,if_neg n2]
 ·rw [if_neg e];unfold eO;rw [if_neg h1,if_neg h2];by_cases g1:h=al u
  ·rw [if_pos g1,if_pos (by rw [g1,ha.inv u hu])]
  ·rw [if_neg g1];have n1:al h≠u:=fun g=>g1 (by rw [←ih,g]);rw [if_neg n1];by_cases g2:h=al v
   ·rw [if_pos g2,if_pos (by rw [g2,ha.inv v hv])]
   ·rw [if_neg g2,if_neg (fun g=>g2 (by rw [←ih,g]))]
theorem ow.dH (h:ow N si al) {u v:Nat} (hu:u<N) (hv:v<N) (pM:u≠v) (s1:si u=v) (s2:si v=u):ow N si (dH al u v):=by
 unfold Sp.dH;by_cases e:al u=v
 ·rw [if_pos e];exact h
 ·rw [if_neg e];exact h.ou hu hv pM s1 s2 e
end
theorem follow {u1 v1 u2 v2 h:Nat} {al T:Nat->Nat} {O:Nat->Prop} (i: ∀x,x=u1\/x=v1\/x=u2\/x=v2\/x=h->al (al x)=x/\al x≠x) (d:u1≠v1/\u1≠u2/\u1≠v2/\v1≠u2/\v1≠v2/\u2≠v2)
  (hh:h≠u1/\h≠v1/\h≠u2/\h≠v2) (T1:T u1=al v1) (T2:T v1=al u1) (T3:T u2=al v2) (T4:T v2=al u2) (TO: ∀x,x≠u1->x≠v1->x≠u2->x≠v2->T x=x):
  (if qM al u1 v1 (al h)=u2 then qM al u1 v1 (al v2) else if qM al u1 v1 (al h)=v2 then qM al u1 v1 (al u2) else qM al u1 v1 (al h))=T (T (T (T (T (al h))))):=by
 obtain ⟨d1,d2,d3,d4,d5,d6⟩:=d;obtain ⟨k1,k2,k3,k4⟩:=hh;have j1:=i u1 (by simp);have j2:=i v1 (by simp);have j3:=i u2 (by simp);have j4:=i v2 (by simp);have j5:=i h (by simp);have inj: ∀x y,(x=u1\/x=v1\/x=u2\/x=v2\/x=h)->(y=u1\/y=v1\/y=u2\/y=v2\/y=h)->al x=y->al y=x:=fun x y hx _ e=>by rw [←e];exact (i x hx).1
 have stay: ∀x,x≠u1->x≠v1->x≠u2->x≠v2->T (T (T (T (T x))))=x/\T (T (T (T x)))=x/\T (T (T x))=x:=fun x a1 a2 a3 a4=>by
  have:=TO x a1 a2 a3 a4;simp only [this];simp
 unfold qM;by_cases c1:al h=u1
 ·have b1:al u1=h:=inj h u1 (by simp) (by simp) c1;rw [if_pos c1,c1,T1];have y1:al v1≠u1:=fun e=>k2 (by rw [←b1];exact inj v1 u1 (by simp) (by simp) e);have y2:al v1≠v1:=j2.2;by_cases c2:al v1=u2
  ·have b2:al u2=v1:=inj v1 u2 (by simp) (by simp) c2;have z1:al v2≠u1:=fun e=>k4 (by rw [←b1];exact inj v2 u1 (by simp) (by simp) e);have z2:al v2≠v1:=fun e=>d6 (by rw [←c2];exact inj v2 v1 (by simp) (by simp) e);have z3:al v2≠u2:=fun e=>d5 (by rw [←b2];exact inj v2 u2 (by simp) (by simp) e);rw [if_pos c2,if_neg z1,if_neg z2,c2,T3,(stay _ z1 z2 z3 j4.2).2.2]
  ·by_cases c3:al v1=v2
   ·have b2:al v2=v1:=inj v1 v2 (by simp) (by simp) c3;have z1:al u2≠u1:=fun e=>k3 (by rw [←b1];exact inj u2 u1 (by simp) (by simp) e);have z2:al u2≠v1:=fun e=>d6 (by rw [←c3];exact (inj u2 v1 (by simp) (by simp) e).symm);have z4:al u2≠v2:=fun e=>d4 (by rw [←b2];exact inj u2 v2 (by simp) (by simp) e);rw [if_neg c2,if_pos c3,if_neg z1,if_neg z2,c3,T4,(stay _ z1 z2 j3.2 z4).2.2]
   ·rw [if_neg c2,if_neg c3,(stay _ y1 y2 c2 c3).2.1]
 ·rw [if_neg c1];by_cases Dd:al h=v1
  ·have b1:al v1=h:=inj h v1 (by simp) (by simp) Dd;rw [if_pos Dd,Dd,T2];have y1:al u1≠v1:=fun e=>k1 (by rw [←b1];exact inj u1 v1 (by simp) (by simp) e);have y2:al u1≠u1:=j1.2;by_cases c2:al u1=u2
   ·have b2:al u2=u1:=inj u1 u2 (by simp) (by simp) c2;have z1:al v2≠v1:=fun e=>k4 (by rw [←b1];exact inj v2 v1 (by simp) (by simp) e);have z2:al v2≠u1:=fun e=>d6 (by rw [←c2];exact inj v2 u1 (by simp) (by simp) e);have z3:al v2≠u2:=fun e=>d3 (by rw [←b2];exact inj v2 u2 (by simp) (by simp) e);rw [if_pos c2,if_neg z2,if_neg z1,c2,T3,(stay _ z2 z1 z3 j4.2).2.2]
   ·by_cases c3:al u1=v2
    ·have b2:al v2=u1:=inj u1 v2 (by simp) (by simp) c3;have z1:al u2≠v1:=fun e=>k3 (by rw [←b1];exact inj u2 v1 (by simp) (by simp) e);have z2:al u2≠u1:=fun e=>d6 (by rw [←c3];exact (inj u2 u1 (by simp) (by simp) e).symm);have z4:al u2≠v2:=fun e=>d2 (by rw [←b2];exact inj u2 v2 (by simp) (by simp) e);rw [if_neg c2,if_pos c3,if_neg z2,if_neg z1,c3,T4,(stay _ z2 z1 j3.2 z4).2.2]
    ·rw [if_neg c2,if_neg c3,(stay _ y2 y1 c2 c3).2.1]
  ·rw [if_neg Dd];by_cases c4:al h=u2
   ·have b1:al u2=h:=inj h u2 (by simp) (by simp) c4;rw [if_pos c4,c4,T3];have y3:al v2≠u2:=fun e=>k4 (by rw [←b1];exact inj v2 u2 (by simp) (by simp) e);by_cases c2:al v2=u1
    ·have b2:al u1=v2:=inj v2 u1 (by simp) (by simp) c2;have z1:al v1≠u1:=fun e=>d5 (by rw [←b2];exact (inj v1 u1 (by simp) (by simp) e).symm);have z3:al v1≠u2:=fun e=>k2 (by rw [←b1];exact inj v1 u2 (by simp) (by simp) e);have z4:al v1≠v2:=fun e=>d1 (by rw [←c2];exact inj v1 v2 (by simp) (by simp) e);rw [if_pos c2,c2,T1,(stay _ z1 j2.2 z3 z4).2.2]
    ·by_cases c3:al v2=v1
     ·have b2:al v1=v2:=inj v2 v1 (by simp) (by simp) c3;have z2:al u1≠v1:=fun e=>d3 (by rw [←b2];exact (inj u1 v1 (by simp) (by simp) e).symm);have z3:al u1≠u2:=fun e=>k1 (by rw [←b1];exact inj u1 u2 (by simp) (by simp) e);have z4:al u1≠v2:=fun e=>d1 (by rw [←c3];exact (inj u1 v2 (by simp) (by simp) e).symm);rw [if_neg c2,if_pos c3,c3,T2,(stay _ j1.2 z2 z3 z4).2.2]
     ·rw [if_neg c2,if_neg c3,(stay _ c2 c3 y3 j4.2).2.1]
   ·rw [if_neg c4];by_cases c5:al h=v2
    ·have b1:al v2=h:=inj h v2 (by simp) (by simp) c5;rw [if_pos c5,c5,T4];have y3:al u2≠v2:=fun e=>k3 (by rw [←b1];exact inj u2 v2 (by simp) (by simp) e);by_cases c2:al u2=u1
     ·have b2:al u1=u2:=inj u2 u1 (by simp) (by simp) c2;have z1:al v1≠u1:=fun e=>d4 (by rw [←b2];exact (inj v1 u1 (by simp) (by simp) e).symm);have z3:al v1≠v2:=fun e=>k2 (by rw [←b1];exact inj v1 v2 (by simp) (by simp) e);have z4:al v1≠u2:=fun e=>d1 (by rw [←c2];exact inj v1 u2 (by simp) (by simp) e);rw [if_pos c2,c2,T1,(stay _ z1 j2.2 z4 z3).2.2]
     ·by_cases c3:al u2=v1
      ·have b2:al v1=u2:=inj u2 v1 (by simp) (by simp) c3;have z2:al u1≠v1:=fun e=>d2 (by rw [←b2];exact (inj u1 v1 (by simp) (by simp) e).symm);have z3:al u1≠v2:=fun e=>k1 (by rw [←b1];exact inj u1 v2 (by simp) (by simp) e);have z4:al u1≠u2:=fun e=>d1 (by rw [←c3];exact (inj u1 u2 (by simp) (by simp) e).symm);rw [if_neg c2,if_pos c3,c3,T2,(stay _ j1.2 z2 z4 z3).2.2]
      ·rw [if_neg c2,if_neg c3,(stay _ c2 c3 j3.2 y3).2.1]
    ·rw [if_neg c5,(stay _ c1 Dd c4 c5).1]
end Sp
namespace Sp
open Classical
theorem ER (l k:List Int) (i:Nat) (h:i<l.length):(l++k).getD i 0=l.getD i 0:=by
 rw [List.getD_eq_getElem?_getD,List.getD_eq_getElem?_getD,List.getElem?_append_left h]
theorem EP (l k:List Int) (i:Nat) (h:l.length<=i):(l++k).getD i 0=k.getD (i-l.length) 0:=by
 rw [List.getD_eq_getElem?_getD,List.getD_eq_getElem?_getD,List.getElem?_append_right h]
theorem jh {E:List Int} {c:Nat}: ∀k,(bO E c k).length=4*(if c<k then k-1 else k)/\ ∀x,x<4*(if c<k then k-1 else k)->(bO E c k).getD x 0=cb E c (if x/4<c then x else x+4)
 |0=>by simp [bO]
 |k+1=>by
  obtain ⟨h1,h2⟩:=jh (E:=E) (c:=c) k;by_cases hk:k=c
  ·have e:bO E c (k+1)=bO E c k:=by simp [bO,hk]
   rw [e,if_pos (by omega)];rw [if_neg (by omega)] at h1 h2;exact ⟨by omega,fun x hx=>h2 x (by omega)⟩
  ·have e:bO E c (k+1)=bO E c k++[cb E c (4*k),cb E c (4*k+1),cb E c (4*k+2),cb E c (4*k+3)]:=by simp [bO,cv,hk]
   rw [e];by_cases gN:c<k
   ·rw [if_pos gN] at h1 h2;rw [if_pos (by omega)];refine ⟨by simp [h1];omega,fun x hx=>?_⟩;by_cases BP:x<4*(k-1)
    ·rw [ER _ _ _ (by omega)];exact h2 x BP
    ·rw [EP _ _ _ (by omega),h1];have Kv:x=4*(k-1)\/x=4*(k-1)+1\/x=4*(k-1)+2\/x=4*(k-1)+3:=by omega
     rw [if_neg (by omega)];rcases Kv with rfl|rfl|rfl|rfl
     ·rw [show 4*(k-1)-4*(k-1)=0 by omega,show 4*(k-1)+4=4*k by omega];rfl
     ·rw [show 4*(k-1)+1-4*(k-1)=1 by omega,show 4*(k-1)+1+4=4*k+1 by omega];rfl
     ·rw [show 4*(k-1)+2-4*(k-1)=2 by omega,show 4*(k-1)+2+4=4*k+2 by omega];rfl
     ·rw [show 4*(k-1)+3-4*(k-1)=3 by omega,show 4*(k-1)+3+4=4*k+3 by omega];rfl
   ·rw [if_neg gN] at h1 h2;rw [if_neg (by omega)];refine ⟨by simp [h1];omega,fun x hx=>?_⟩;by_cases BP:x<4*k
    ·rw [ER _ _ _ (by omega)];exact h2 x BP
    ·rw [EP _ _ _ (by omega),h1];have Kv:x=4*k\/x=4*k+1\/x=4*k+2\/x=4*k+3:=by omega
     rw [if_pos (by omega)];rcases Kv with rfl|rfl|rfl|rfl
     ·rw [show 4*k-4*k=0 by omega];rfl
     ·rw [show 4*k+1-4*k=1 by omega];rfl
     ·rw [show 4*k+2-4*k=2 by omega];rfl
     ·rw [show 4*k+3-4*k=3 by omega];rfl
theorem RA (c:Nat):aB false (4*c)=4*c+1/\aB false (4*c+1)=4*c/\aB false (4*c+2)=4*c+3/\aB false (4*c+3)=4*c+2:=by
 unfold aB;simp only [ox,nS];refine ⟨?_,?_,?_,?_⟩<;>(split<;>rename_i h<;>simp at h<;>omega)
theorem Rz (c:Nat):aB true (4*c)=4*c+3/\aB true (4*c+1)=4*c+2/\aB true (4*c+2)=4*c+1/\aB true (4*c+3)=4*c:=by
 unfold aB;simp only [ox,nS];refine ⟨?_,?_,?_,?_⟩<;>(split<;>rename_i h<;>simp at h<;>omega)
theorem uh (c:Nat):(aB false ((4*c:Nat):Int)).toNat=4*c+1/\(aB false ((4*c+1:Nat):Int)).toNat=4*c/\(aB false ((4*c+2:Nat):Int)).toNat=4*c+3/\(aB false ((4*c+3:Nat):Int)).toNat=4*c+2:=by
 obtain ⟨h1,h2,h3,h4⟩:=RA c;refine ⟨?_,?_,?_,?_⟩
 ·rw [show ((4*c:Nat):Int)=4*c by omega,h1];omega
 ·rw [show ((4*c+1:Nat):Int)=4*c+1 by omega,h2];omega
 ·rw [show ((4*c+2:Nat):Int)=4*c+2 by omega,h3];omega
 ·rw [show ((4*c+3:Nat):Int)=4*c+3 by omega,h4];omega
theorem ug (c:Nat):(aB true ((4*c:Nat):Int)).toNat=4*c+3/\(aB true ((4*c+1:Nat):Int)).toNat=4*c+2/\(aB true ((4*c+2:Nat):Int)).toNat=4*c+1/\(aB true ((4*c+3:Nat):Int)).toNat=4*c:=by
 obtain ⟨h1,h2,h3,h4⟩:=Rz c;refine ⟨?_,?_,?_,?_⟩
 ·rw [show ((4*c:Nat):Int)=4*c by omega,h1];omega
 ·rw [show ((4*c+1:Nat):Int)=4*c+1 by omega,h2];omega
 ·rw [show ((4*c+2:Nat):Int)=4*c+2 by omega,h3];omega
 ·rw [show ((4*c+3:Nat):Int)=4*c+3 by omega,h4];omega
section
variable {m:List Int} {n c:Nat} {b:Bool}
def qz (m:List Int) (b:Bool) (c x:Nat):Nat:=if x/4=c then bZ m (aB b x).toNat else x
theorem F5 (h:kk m n) (hc:c<n): ∀f x:Nat,x<4*n->b9 m b c f x=(itn (qz m b c) f x:Nat)
 |0,x,_=>rfl
 |f+1,x,hx=>by
  simp only [itn];rw [←wH (qz m b c) f x];by_cases oR:x/4=c
  ·have hj:=jD b (x:Int);have hl:(aB b (x:Int)).toNat<4*n:=by omega
   have e1:qz m b c x=bZ m (aB b x).toNat:=by unfold qz;rw [if_pos oR]
   rw [e1,Ec (by omega),←h.cast hl];exact F5 h hc f _ (h.jo.lt _ hl)
  ·have e1:qz m b c x=x:=by unfold qz;rw [if_neg oR]
   rw [e1,←F5 h hc f x hx,yu (by omega),yu (by omega)]
theorem Tj (h:kk m n) (hc:c<n) (dT:mJ m n=true):kk (bO (cV m b c (4*n)) c n) (n-1)/\mJ (bO (cV m b c (4*n)) c n) (n-1)=true:=by
 have fB:=h.dd.ok.1;have hS:=h.E1.1 dT;have ha:=h.jo;obtain ⟨u1,rH⟩: ∃u,u=4*c:=⟨_,rfl⟩;obtain ⟨u2,BW⟩: ∃u,u=4*c+2:=⟨_,rfl⟩;obtain ⟨v1,hv1⟩: ∃v,v=if b then 4*c+3 else 4*c+1:=⟨_,rfl⟩;obtain ⟨v2,Fe⟩: ∃v,v=if b then 4*c+1 else 4*c+3:=⟨_,rfl⟩;obtain ⟨p,hp⟩: ∃p,p=if b then 4*c+1 else 4*c:=⟨_,rfl⟩;obtain ⟨q,hq⟩: ∃q,q=if b then 4*c+3 else 4*c+2:=⟨_,rfl⟩
 have hb:(v1=4*c+3/\v2=4*c+1/\p=4*c+1/\q=4*c+3/\b=true)\/(v1=4*c+1/\v2=4*c+3/\p=4*c/\q=4*c+2/\b=false):=by
  cases b
  ·exact .inr ⟨hv1,Fe,hp,hq,rfl⟩
  ·exact .inl ⟨hv1,Fe,hp,hq,rfl⟩
 have YN:=hS.split (p:=p) (q:=q) (by omega) (by omega) (by omega) (Ab.2 (by omega));have sj:swp ed p q u1=v1/\swp ed p q v1=u1/\swp ed p q u2=v2/\swp ed p q v2=u2:=by
  unfold swp ed;rcases hb with ⟨e1,e2,e3,e4,_⟩|⟨e1,e2,e3,e4,_⟩<;>subst rH BW e1 e2 e3 e4<;>refine ⟨?_,?_,?_,?_⟩<;>(repeat' split)<;>omega
 have so: ∀x,x/4≠c->swp ed p q x=ed x:=fun x hx=>by unfold swp;rw [if_neg (by omega),if_neg (by omega)]
 have Sw:=YN.dH (u:=u1) (v:=v1) (by omega) (by omega) (by omega) sj.1 sj.2.1;have YM:=Sw.dH (u:=u2) (v:=v2) (by omega) (by omega) (by omega) sj.2.2.1 sj.2.2.2;have f1: ∀x,x<4*n->x≠u1->x≠v1->dH (bZ m) u1 v1 x=qM (bZ m) u1 v1 (bZ m x):=fun x hx h1 h2=>NO ha (by omega) (by omega) (by omega) hx h1 h2
 have Ch: ∀x,x<4*n->x/4≠c->((dH (dH (bZ m) u1 v1) u2 v2 x:Nat):Int)=b9 m b c 5 (m.getD x 0):=fun x hx oR=>by
  have eo:=ha.lt x hx;rw [←h.cast hx,F5 h hc 5 _ eo];congr 1;rw [NO Sw.jo (by omega) (by omega) (by omega) hx (by omega) (by omega)];rw [f1 x hx (by omega) (by omega)]
  have key:=follow (u1:=u1) (v1:=v1) (u2:=u2) (v2:=v2) (h:=x) (al:=bZ m) (T:=qz m b c) (O:=fun _=>True)
   (fun y hy=>⟨ha.inv y (by omega),ha.ne y (by omega)⟩) (by omega) (by omega)
   (by
    unfold qz;rw [if_pos (by omega)];congr 1;rcases hb with ⟨e1,_,_,_,rfl⟩|⟨e1,_,_,_,rfl⟩
    ·rw [rH,(ug c).1,e1]
    ·rw [rH,(uh c).1,e1])
   (by
    unfold qz;rw [if_pos (by omega)];congr 1;rcases hb with ⟨e1,_,_,_,rfl⟩|⟨e1,_,_,_,rfl⟩
    ·rw [e1,(ug c).2.2.2,rH]
    ·rw [e1,(uh c).2.1,rH])
   (by
    unfold qz;rw [if_pos (by omega)];congr 1;rcases hb with ⟨_,e2,_,_,rfl⟩|⟨_,e2,_,_,rfl⟩
    ·rw [BW,(ug c).2.2.1,e2]
    ·rw [BW,(uh c).2.2.1,e2])
   (by
    unfold qz;rw [if_pos (by omega)];congr 1;rcases hb with ⟨_,e2,_,_,rfl⟩|⟨_,e2,_,_,rfl⟩
    ·rw [e2,(ug c).2.1,BW]
    ·rw [e2,(uh c).2.2.2,BW])
   (fun y h1 h2 h3 h4=>by unfold qz;rw [if_neg (by omega)])
  show (if qM (bZ m) u1 v1 (bZ m x)=u2 then dH (bZ m) u1 v1 v2 else if qM (bZ m) u1 v1 (bZ m x)=v2 then dH (bZ m) u1 v1 u2 else qM (bZ m) u1 v1 (bZ m x))=_;rw [f1 v2 (by omega) (by omega) (by omega),f1 u2 (by omega) (by omega) (by omega)];exact key
 obtain ⟨wl,wg⟩:=jh (E:=cV m b c (4*n)) (c:=c) n;rw [if_pos hc] at wl wg;obtain ⟨io,lM⟩: ∃io:Nat->Nat,∀x,io x=if x/4<c then x else x+4:=⟨_,fun _=>rfl⟩;have Kl: ∀x,x<4*(n-1)->io x<4*n/\io x/4≠c:=fun x hx=>by rw [lM];split<;>omega
 have hget: ∀x,x<4*(n-1)-> ∃y:Nat,y<4*n/\y/4≠c/\dH (dH (bZ m) u1 v1) u2 v2 (io x)=y/\(bO (cV m b c (4*n)) c n).getD x 0=((if c<y/4 then y-4 else y:Nat):Int):=fun x hx=>by
  have hi:=Kl x hx;have e1:=Ch (io x) hi.1 hi.2;have n7:=AJ (b:=b) h.dd hc hi.1 hi.2;have xd:=H4 (b:=b) h.dd hc 5 (m.getD (io x) 0) (by have:=h.dd.ok.2 (io x) hi.1;unfold ax;omega);unfold ax at xd;refine ⟨dH (dH (bZ m) u1 v1) u2 v2 (io x),by omega,by omega,rfl,?_⟩;rw [wg x hx,←lM x];have e2:(cV m b c (4*n)).getD (io x) 0=b9 m b c 5 (m.getD (io x) 0):=by
   have: ∀k,k<=m.length->io x<k->(cV m b c k).getD (io x) 0=b9 m b c 5 (m.getD (io x) 0):=fun k=>by
    induction k with
    |zero=>intro _ h;omega
    |succ k ih=>
     intro hk aA;have hl:=GX (m:=m) (b:=b) (c:=c) k;simp only [cV];by_cases rU:k/4=c
     ·rw [if_pos rU]
      have:io x≠k:=fun e=>hi.2 (by rw [e];exact rU)
      exact ih (by omega) (by omega)
     ·rw [if_neg rU];by_cases e:k=io x
      ·rw [←e,kl (by omega)]
      ·rw [j9 e];exact ih (by omega) (by omega)
   exact this (4*n) (by omega) hi.1
  unfold cb;rw [e2,←e1];generalize dH (dH (bZ m) u1 v1) u2 v2 (io x)=y at*;by_cases hy:c<y/4
  ·rw [if_pos hy,if_pos (by omega)];omega
  ·rw [if_neg hy,if_neg (by omega)]
 have pZ: ∀x,x<4*(n-1)->bZ (bO (cV m b c (4*n)) c n) x<4*(n-1)/\io (bZ (bO (cV m b c (4*n)) c n) x)=dH (dH (bZ m) u1 v1) u2 v2 (io x)/\((bZ (bO (cV m b c (4*n)) c n) x:Nat):Int)=(bO (cV m b c (4*n)) c n).getD x 0:=fun x hx=>by
  obtain ⟨y,y1,y2,y3,y4⟩:=hget x hx;have e:bZ (bO (cV m b c (4*n)) c n) x=if c<y/4 then y-4 else y:=by unfold bZ;rw [y4,Int.toNat_natCast]
  rw [e,y3];refine ⟨by split<;>omega,?_,y4.symm⟩;rw [lM];by_cases hy:c<y/4
  ·rw [if_pos hy,if_neg (by omega)];omega
  ·rw [if_neg hy,if_pos (by omega)]
 have LM:ow (4*(n-1)) ed (bZ (bO (cV m b c (4*n)) c n)):=by
  refine YM.vV (io:=io) (fun x hx=>(Kl x hx).1) (fun x y hx hy e=>?_) (fun x hx=>(qu (n-1)).lt x hx) (fun x hx=>(pZ x hx).1) (fun x hx=>?_) (fun x hx=>(pZ x hx).2.1)
  ·rw [lM,lM] at e;by_cases h1:x/4<c<;>by_cases h2:y/4<c
   ·rw [if_pos h1,if_pos h2] at e;exact e
   ·rw [if_pos h1,if_neg h2] at e;omega
   ·rw [if_neg h1,if_pos h2] at e;omega
   ·rw [if_neg h1,if_neg h2] at e;omega
  ·rw [so _ (Kl x hx).2,lM,lM,Aq];by_cases h1:x/4<c
   ·rw [if_pos h1,if_pos h1]
   ·rw [if_neg h1,if_neg h1];unfold ed;omega
 have hD:kk (bO (cV m b c (4*n)) c n) (n-1):=by
  refine ⟨⟨⟨wl,fun i hi=>?_⟩,fun x hx=>?_⟩,fun x hx e=>?_⟩
  ·have:=pZ i hi;omega
  ·have h1:=pZ x hx;have h2:=LM.jo.inv x hx;have h3:=pZ _ h1.1;rw [h2] at h3;rw [←h1.2.2,Int.toNat_natCast,←h3.2.2]
  ·have h1:=pZ x hx;exact LM.jo.ne x hx (by omega)
 exact ⟨hD,hD.E1.2 LM⟩
end
end Sp
end Go.Proofs.YtphjphpmfflfpaaGreatDoor
