/- Maps on the sphere; a smoothed diagram stays on it. -/
import Derived.Test.YtmdjdekgakidhaaGreatDoorPl
set_option linter.unusedSimpArgs false
set_option linter.unusedVariables false
namespace Go.Proofs.YtmdjdekgakidhaaGreatDoor
namespace Sp
def itn (f:Nat->Nat):Nat->Nat->Nat
 |0,x=>x
 |k+1,x=>f (itn f k x)
theorem tp (f:Nat->Nat) (i:Nat): ∀j x,itn f (i+j) x=itn f i (itn f j x):=by
 induction i with
 |zero=>intro j x;simp [itn]
 |succ i ih=>intro j x;rw [Nat.succ_add];simp only [itn];rw [ih]
theorem yn (f:Nat->Nat) (k x:Nat):itn f k (f x)=f (itn f k x):=by
 have h:=tp f k 1 x;rw [Nat.add_comm k 1,tp f 1 k x] at h;exact h.symm
structure aG (N:Nat) (f:Nat->Nat):Prop where
 lt: ∀x,x<N->f x<N
 inj: ∀x y,x<N->y<N->f x=f y->x=y
section
variable {N:Nat} {f:Nat->Nat}
theorem aG.cr (h:aG N f) {x:Nat} (hx:x<N): ∀k,itn f k x<N
 |0=>hx
 |k+1=>h.lt _ (h.cr hx k)
theorem aG.ow (h:aG N f) {x y:Nat} (hx:x<N) (hy:y<N): ∀k,itn f k x=itn f k y->x=y
 |0,e=>e
 |k+1,e=>h.ow hx hy k (h.inj _ _ (h.cr hx k) (h.cr hy k) e)
theorem Wh {l:List Nat} (hn:l.Nodup) (hl: ∀x∈l,x<N):l.length<=N:=by
 have: ∀(N:Nat) (l:List Nat),l.Nodup->(∀x∈l,x<N)->l.length<=N:=by
  intro N
  induction N with
  |zero=>intro l _ h;cases l with
   |nil=>simp
   |cons a l=>exact absurd (h a (by simp)) (by omega)
  |succ N ih=>
   intro l hn h;have h1:=ih (l.erase N) (hn.erase N) (fun x hx=>by
    have h2:=h x (List.mem_of_mem_erase hx);have h3:x≠N:=fun e=>by subst e;exact (List.Nodup.not_mem_erase hn) hx
    omega)
   have h4:=List.length_erase_le (a:=N) (l:=l);by_cases hm:N∈l
   ·have:=List.length_erase_of_mem hm;omega
   ·rw [List.erase_of_not_mem hm] at h1;omega
 exact this N l hn hl
theorem aG.back (h:aG N f) {x:Nat} (hx:x<N): ∃k,0<k/\itn f k x=x:=by
 apply Classical.byContradiction;intro cK;have av: ∀i j,i<j->itn f i x≠itn f j x:=fun i j fG e=>by
  refine cK ⟨j-i,by omega,?_⟩;have e2:itn f i (itn f (j-i) x)=itn f i x:=by rw [←tp,show i+(j-i)=j by omega];exact e.symm
  exact h.ow (h.cr hx _) hx i e2
 have hnd:((List.range (N+1)).map fun i=>itn f i x).Nodup:=by
  rw [List.Nodup,List.pairwise_map];refine List.Pairwise.imp_of_mem ?_ (List.pairwise_lt_range);intro i j _ _ fG;exact av i j fG
 have:=Wh (N:=N) hnd (fun y hy=>by
  obtain ⟨i,_,rfl⟩:=List.mem_map.1 hy;exact h.cr hx i)
 simp at this;omega
def SC (f:Nat->Nat) (x y:Nat):Prop:= ∃k,itn f k x=y
theorem SC.refl (f:Nat->Nat) (x:Nat):SC f x x:=⟨0,rfl⟩
theorem SC.step (f:Nat->Nat) (x:Nat):SC f x (f x):=⟨1,rfl⟩
theorem SC.trans {x y z:Nat} (h:SC f x y) (k:SC f y z):SC f x z:=by
 obtain ⟨i,rfl⟩:=h;obtain ⟨j,rfl⟩:=k;exact ⟨j+i,tp f j i x⟩
theorem SC.symm (hp:aG N f) {x y:Nat} (hx:x<N) (h:SC f x y):SC f y x:=by
 obtain ⟨i,rfl⟩:=h;obtain ⟨p,jt,BM⟩:=hp.back hx;have hmul: ∀n,itn f (n*p) x=x:=fun n=>by
  induction n with
  |zero=>simp [itn]
  |succ n ih=>rw [Nat.succ_mul,tp,BM];exact ih
 refine ⟨(i+1)*p-i,?_⟩;rw [←tp]
 have:i<=(i+1)*p:=by
  have:=Nat.mul_le_mul_left (i+1) jt;omega
 rw [show (i+1)*p-i+i=(i+1)*p by omega];exact hmul _
structure gM (N:Nat) (E:Nat->Nat->Prop):Prop where
 rfl': ∀x,x<N->E x x
 symm: ∀x y,x<N->y<N->E x y->E y x
 trans: ∀x y z,x<N->y<N->z<N->E x y->E y z->E x z
theorem SC.eqv (hp:aG N f):gM N (SC f):=⟨fun x _=> .refl f x,fun _ _ hx _ h=>h.symm hp hx,fun _ _ _ _ _ _ h k=>h.trans k⟩
def fL (E:Nat->Nat->Prop) (a b x y:Nat):Prop:=E x y\/(E x a/\E b y)\/(E x b/\E a y)
theorem fL.eqv {E:Nat->Nat->Prop} (h:gM N E) {a b:Nat} (ha:a<N) (hb:b<N):gM N (fL E a b):=by
 refine ⟨fun x hx=> .inl (h.rfl' x hx),fun x y hx hy e=>?_,fun x y z hx hy hz e e'=>?_⟩
 ·rcases e with e|⟨e1,e2⟩|⟨e1,e2⟩
  ·exact .inl (h.symm _ _ hx hy e)
  ·exact .inr (.inr ⟨h.symm _ _ hb hy e2,h.symm _ _ hx ha e1⟩)
  ·exact .inr (.inl ⟨h.symm _ _ ha hy e2,h.symm _ _ hx hb e1⟩)
 ·rcases e with e|⟨e1,e2⟩|⟨e1,e2⟩<;>rcases e' with e'|⟨e3,e4⟩|⟨e3,e4⟩
  ·exact .inl (h.trans _ _ _ hx hy hz e e')
  ·exact .inr (.inl ⟨h.trans _ _ _ hx hy ha e e3,e4⟩)
  ·exact .inr (.inr ⟨h.trans _ _ _ hx hy hb e e3,e4⟩)
  ·exact .inr (.inl ⟨e1,h.trans _ _ _ hb hy hz e2 e'⟩)
  ·exact .inr (.inl ⟨e1,e4⟩)
  ·exact .inl (h.trans _ _ _ hx ha hz e1 e4)
  ·exact .inr (.inr ⟨e1,h.trans _ _ _ ha hy hz e2 e'⟩)
  ·exact .inl (h.trans _ _ _ hx hb hz e1 e4)
  ·exact .inr (.inr ⟨e1,e4⟩)
def swp (f:Nat->Nat) (a b x:Nat):Nat:=if x=a then f b else if x=b then f a else f x
theorem dz (f:Nat->Nat) (a b:Nat):swp (swp f a b) a b=f:=by
 funext x;unfold swp;by_cases h1:x=a
 ·subst h1;rw [if_pos rfl];by_cases h2:b=x
  ·subst h2;simp
  ·rw [if_neg h2,if_pos rfl]
 ·rw [if_neg h1];by_cases h2:x=b
  ·subst h2;rw [if_pos rfl,if_pos rfl]
  ·rw [if_neg h2,if_neg h1,if_neg h2]
theorem cO (hp:aG N f) {a b:Nat} (ha:a<N) (hb:b<N):aG N (swp f a b):=by
 refine ⟨fun x hx=>?_,fun x y hx hy e=>?_⟩
 ·unfold swp;split
  ·exact hp.lt _ hb
  ·split
   ·exact hp.lt _ ha
   ·exact hp.lt _ hx
 ·unfold swp at e
  split at e<;>split at e<;>(try split at e)<;>(try split at e)<;>(have:=hp.inj _ _ (by assumption) (by assumption) e;omega)
theorem HP {a b x:Nat} (n:Nat) (h: ∀j,j<n->itn f j x≠a/\itn f j x≠b): ∀j,j<=n->itn (swp f a b) j x=itn f j x
 |0,_=>rfl
 |j+1,hj=>by
  simp only [itn];rw [HP n h j (by omega)]
  have:=h j (by omega)
  unfold swp;rw [if_neg this.1,if_neg this.2]
theorem Wg {x y:Nat} (h:SC f x y): ∃k,itn f k x=y/\ ∀j,j<k->itn f j x≠y:=by
 obtain ⟨k,hk⟩:=h
 induction k using Nat.strongRecOn with
 |ind k ih=>
  by_cases hj: ∃j,j<k/\itn f j x=y
  ·obtain ⟨j,h1,h2⟩:=hj;exact ih j h1 h2
  ·exact ⟨k,hk,fun j h1 h2=>hj ⟨j,h1,h2⟩⟩
theorem XE (hp:aG N f) {x:Nat} (hx:x<N): ∃k,0<k/\itn f k x=x/\ ∀j,0<j->j<k->itn f j x≠x:=by
 obtain ⟨k,h0,hk⟩:=hp.back hx
 induction k using Nat.strongRecOn with
 |ind k ih=>
  by_cases hj: ∃j,0<j/\j<k/\itn f j x=x
  ·obtain ⟨j,h1,h2,h3⟩:=hj;exact ih j h2 h1 h3
  ·exact ⟨k,h0,hk,fun j h1 h2 h3=>hj ⟨j,h1,h2,h3⟩⟩
theorem Wf (hp:aG N f) {a b:Nat} (hb:b<N) (cK: ¬SC f a b):SC (swp f a b) a b:=by
 obtain ⟨k,h0,hk,hf⟩:=XE hp hb;obtain ⟨n,rfl⟩: ∃n,k=n+1:=⟨k-1,by omega⟩;have hs: ∀j,j<n->itn f j (f b)≠a/\itn f j (f b)≠b:=fun j hj=>by
  rw [yn];refine ⟨fun e=>cK ?_,hf (j+1) (by omega) (by omega)⟩;exact (show SC f b a from ⟨j+1,e⟩).symm hp hb
 have h1:=HP (f:=f) (a:=a) (b:=b) n hs n (zzA _);refine ⟨n+1,?_⟩;have e:itn (swp f a b) (n+1) a=itn (swp f a b) n (swp f a b a):=by simp only [itn];rw [yn]
 rw [e,show swp f a b a=f b by unfold swp;rw [if_pos rfl],h1,yn];exact hk
theorem bu (hp:aG N f) {a b:Nat} (ha:a<N) (hb:b<N) (cK: ¬SC f a b): ∀x y,x<N->y<N->(SC (swp f a b) x y↔fL (SC f) a b x y):=by
 have nB:=cO hp ha hb;have fy:=Wf hp hb cK;have Tm:SC (swp f a b) b a:=fy.symm nB ha;have hE:=SC.eqv hp;have hJ:=fL.eqv hE ha hb;have oA: ∀x,SC (swp f a b) x (f x):=fun x=>by
  by_cases h1:x=a
  ·subst h1;refine fy.trans ⟨1,?_⟩;show swp f x b b=f x;unfold swp;by_cases h2:b=x
   ·rw [if_pos h2,h2]
   ·rw [if_neg h2,if_pos rfl]
  ·by_cases h2:x=b
   ·subst h2;refine Tm.trans ⟨1,?_⟩;show swp f a x a=f x;unfold swp;rw [if_pos rfl]
   ·refine ⟨1,?_⟩;show swp f a b x=f x;unfold swp;rw [if_neg h1,if_neg h2]
 have Bt: ∀k x,SC (swp f a b) x (itn f k x):=fun k x=>by
  induction k with
  |zero=>exact .refl _ _
  |succ k ih=>exact ih.trans (oA _)
 have qZ: ∀x y,SC f x y->SC (swp f a b) x y:=fun x y ⟨k,hk⟩=>hk▸Bt k x;intro x y hx hy;constructor
 ·rintro ⟨k,rfl⟩;clear hy
  induction k with
  |zero=>exact .inl (.refl _ _)
  |succ k ih=>
   have ax:=nB.cr hx k;refine hJ.trans _ _ _ hx ax (nB.lt _ ax) ih ?_;simp only [itn];generalize itn (swp f a b) k x=z;unfold swp
   split
   ·subst z;exact .inr (.inl ⟨.refl _ _, .step _ _⟩)
   ·split
    ·subst z;exact .inr (.inr ⟨.refl _ _, .step _ _⟩)
    ·exact .inl (.step _ _)
 ·rintro (h|⟨h1,h2⟩|⟨h1,h2⟩)
  ·exact qZ _ _ h
  ·exact (qZ _ _ h1).trans (fy.trans (qZ _ _ h2))
  ·exact (qZ _ _ h1).trans (Tm.trans (qZ _ _ h2))
theorem cP (hp:aG N f) {a b:Nat} (ha:a<N) (fy:a≠b) (hs:SC f a b): ¬SC (swp f a b) a b:=by
 obtain ⟨k,hk,hf⟩:=Wg (hs.symm hp ha);have ld:0<k:=by
  rcases Nat.eq_zero_or_pos k with h|h
  ·subst h;exact absurd hk.symm fy
  ·exact h
 have qy: ∀j,0<j->j<=k->itn f j b≠b:=fun j h1 h2 e=>by
  have e2:itn f (k-j) b=a:=by
   have:itn f (k-j) (itn f j b)=a:=by rw [←tp,show k-j+j=k by omega];exact hk
   rwa [e] at this
  exact hf (k-j) (by omega) e2
 obtain ⟨n,rfl⟩: ∃n,k=n+1:=⟨k-1,by omega⟩;have mQ: ∀j,j<n->itn f j (f b)≠a/\itn f j (f b)≠b:=fun j hj=>by
  rw [yn];exact ⟨hf (j+1) (by omega),qy (j+1) (by omega) (by omega)⟩
 have h1:=HP (f:=f) (a:=a) (b:=b) n mQ;have Yh:swp f a b a=f b:=by unfold swp;rw [if_pos rfl]
 have Ck: ∀j,j<=n->itn (swp f a b) (j+1) a=itn f (j+1) b:=fun j hj=>by
  have e:itn (swp f a b) (j+1) a=itn (swp f a b) j (swp f a b a):=by simp only [itn];rw [yn]
  rw [e,Yh,h1 j hj,yn];rfl
 have rW:itn (swp f a b) (n+1) a=a:=by rw [Ck n (zzA _)];exact hk
 have hmul: ∀q,itn (swp f a b) (q*(n+1)) a=a:=fun q=>by
  induction q with
  |zero=>simp [itn]
  |succ q ih=>rw [Nat.succ_mul,tp,rW];exact ih
 rintro ⟨i,hi⟩;have e:itn (swp f a b) (i %(n+1)) a=b:=by
  have:itn (swp f a b) (i %(n+1)+(i/(n+1))*(n+1)) a=b:=by
   rw [show i %(n+1)+i/(n+1)*(n+1)=i by rw [Nat.mul_comm];exact Nat.mod_add_div i (n+1)];exact hi
  rwa [tp,hmul] at this
 have ax:=Nat.mod_lt i (show n+1>0 by omega);rcases Nat.eq_zero_or_pos (i %(n+1)) with h|h
 ·rw [h] at e;exact fy e
 ·obtain ⟨j,hj⟩: ∃j,i %(n+1)=j+1:=⟨i %(n+1)-1,by omega⟩;rw [hj,Ck j (by omega)] at e;exact qy (j+1) (by omega) (by omega) e
structure Tr (N:Nat) (U:Nat->Prop) (E:Nat->Nat->Prop) (l:List Nat):Prop where
 mem: ∀x∈l,x<N/\U x
 nodup:l.Nodup
 apart: ∀x∈l,∀y∈l,E x y->x=y
 all: ∀x,x<N->U x-> ∃y∈l,E x y
variable {U:Nat->Prop} {E E':Nat->Nat->Prop} {l l':List Nat}
theorem DF {α β:Type} [DecidableEq β]: ∀(l:List α) (k:List β) (g:α->β),l.Nodup->(∀x∈l,g x∈k)->(∀x∈l,∀y∈l,g x=g y->x=y)->l.length<=k.length
 |[],k,g,_,_,_=>by simp
 |a::l,k,g,hn,hm,hi=>by
  have h1:=DF l (k.erase (g a)) g (List.nodup_cons.1 hn).2 (fun x hx=>by
   have av:g x≠g a:=fun e=>by
    have:=hi x (by simp [hx]) a (by simp) e
    subst this;exact (List.nodup_cons.1 hn).1 hx
   exact (List.mem_erase_of_ne av).2 (hm x (by simp [hx]))) (fun x hx y hy=>hi x (by simp [hx]) y (by simp [hy]))
  have h2:=List.length_erase_of_mem (hm a (by simp));have h3:0<k.length:=List.length_pos_of_mem (hm a (by simp));simp only [zzG];omega
theorem Tr.le (hE:gM N E) (h:Tr N U E l) (h':Tr N U E l'):l.length<=l'.length:=by
 have hc: ∀x,∃y,x∈l->(y∈l'/\E x y):=fun x=>by
  by_cases hx:x∈l
  ·obtain ⟨y,h1,h2⟩:=h'.all x (h.mem x hx).1 (h.mem x hx).2;exact ⟨y,fun _=>⟨h1,h2⟩⟩
  ·exact ⟨0,fun h=>absurd h hx⟩
 obtain ⟨g,hg⟩:=Classical.axiomOfChoice hc;refine DF l l' g h.nodup (fun x hx=>(hg x hx).1) fun x hx y hy e=>?_;have h1:=hg x hx;have h2:=hg y hy;rw [e] at h1;exact h.apart x hx y hy (hE.trans _ _ _ (h.mem x hx).1 (h'.mem _ h2.1).1 (h.mem y hy).1 h1.2 (hE.symm _ _ (h.mem y hy).1 (h'.mem _ h2.1).1 h2.2))
theorem Tr.bK (hE:gM N E) (h:Tr N U E l) (h':Tr N U E l'):l.length=l'.length:=Nat.le_antisymm (h.le hE h') (h'.le hE h)
theorem Tr.congr (h:Tr N U E l) (he: ∀x y,x<N->y<N->(E x y↔E' x y)):Tr N U E' l:=
 ⟨h.mem,h.nodup,fun x hx y hy e=>h.apart x hx y hy ((he x y (h.mem x hx).1 (h.mem y hy).1).2 e),fun x hx hU=>let ⟨y,h1,h2⟩:=h.all x hx hU;⟨y,h1,(he x y hx (h.mem y h1).1).1 h2⟩⟩
theorem Tr.exists (hE:gM N E) (U:Nat->Prop): ∃l,Tr N U E l:=by
 classical
 refine ⟨(List.range N).filter fun x=>decide (U x/\ ∀y,y<x->U y-> ¬E x y),?_,?_,?_,?_⟩
 ·intro x hx;have h:=List.mem_filter.1 hx;exact ⟨List.mem_range.1 h.1,(of_decide_eq_true h.2).1⟩
 ·exact List.nodup_range.filter _
 ·intro x hx y hy e;have h1:=List.mem_filter.1 hx;have h2:=List.mem_filter.1 hy;have k1:=of_decide_eq_true h1.2;have k2:=of_decide_eq_true h2.2;have l1:=List.mem_range.1 h1.1;have l2:=List.mem_range.1 h2.1;rcases Nat.lt_trichotomy x y with g|g|g
  ·exact absurd (hE.symm _ _ l1 l2 e) (k2.2 x g k1.1)
  ·exact g
  ·exact absurd e (k1.2 y g k2.1)
 ·intro x hx hU
  have: ∀n x,x<n->x<N->U x-> ∃y,y∈((List.range N).filter fun x=>decide (U x/\ ∀y,y<x->U y-> ¬E x y))/\E x y:=by
   intro n
   induction n with
   |zero=>intro x h;omega
   |succ n ih=>
    intro x hn hx hU;by_cases hl: ∃y,y<x/\U y/\E x y
    ·obtain ⟨y,h1,h2,h3⟩:=hl;obtain ⟨z,h4,h5⟩:=ih y (by omega) (by omega) h2;have hz:=List.mem_range.1 (List.mem_filter.1 h4).1;exact ⟨z,h4,hE.trans _ _ _ hx (by omega) hz h3 h5⟩
    ·exact ⟨x,List.mem_filter.2 ⟨List.mem_range.2 hx,decide_eq_true ⟨hU,fun y h1 h2 h3=>hl ⟨y,h1,h2,h3⟩⟩⟩,hE.rfl' x hx⟩
  exact this (x+1) x (by omega) hx hU
theorem Tr.join (hE:gM N E) (h:Tr N U E l) {a b:Nat} (ha:a<N) (hb:b<N) (sc:U a) (Mh:U b) (cK: ¬E a b) (h':Tr N U (fL E a b) l'):l.length=l'.length+1:=by
 obtain ⟨x,hx,pJ⟩:=h.all a ha sc;obtain ⟨y,hy,xh⟩:=h.all b hb Mh;have lx:=(h.mem x hx).1;have ly:=(h.mem y hy).1;have nA:x≠y:=fun e=>by subst e;exact cK (hE.trans _ _ _ ha lx hb pJ (hE.symm _ _ hb lx xh))
 have key:Tr N U (fL E a b) (l.erase y):=by
  refine ⟨fun z hz=>h.mem z (List.mem_of_mem_erase hz),h.nodup.erase y,fun z hz w hw e=>?_,fun z hz hU=>?_⟩
  ·have mz:=List.mem_of_mem_erase hz;have mw:=List.mem_of_mem_erase hw;have lz:=(h.mem z mz).1;have lw:=(h.mem w mw).1;have nz:z≠y:=fun e=>by subst e;exact List.Nodup.not_mem_erase h.nodup hz
   have nw:w≠y:=fun e=>by subst e;exact List.Nodup.not_mem_erase h.nodup hw
   rcases e with e|⟨e1,e2⟩|⟨e1,e2⟩
   ·exact h.apart z mz w mw e
   ·exact absurd (h.apart w mw y hy (hE.trans _ _ _ lw hb ly (hE.symm _ _ hb lw e2) xh)) nw
   ·exact absurd (h.apart z mz y hy (hE.trans _ _ _ lz hb ly e1 xh)) nz
  ·obtain ⟨w,hw,e⟩:=h.all z hz hU;by_cases SM:w=y
   ·subst SM;refine ⟨x,(List.mem_erase_of_ne nA).2 hx, .inr (.inr ⟨hE.trans _ _ _ hz ly hb e (hE.symm _ _ hb ly xh),pJ⟩)⟩
   ·exact ⟨w,(List.mem_erase_of_ne SM).2 hw, .inl e⟩
 have e1:=key.bK (fL.eqv hE ha hb) h';have e2:=List.length_erase_of_mem hy;have e3:0<l.length:=List.length_pos_of_mem hy;omega
theorem Tr.jm (hE:gM N E) (h:Tr N U E l) {a b:Nat} (hc: ∀x y,x<N->y<N->E x y->(U x↔U y)) (ha:a<N) (hb:b<N) (sc: ¬U a) (Mh: ¬U b) (h':Tr N U (fL E a b) l'):l.length=l'.length:=by
 have key:Tr N U (fL E a b) l:=by
  refine ⟨h.mem,h.nodup,fun z hz w hw e=>?_,fun z hz hU=>?_⟩
  ·rcases e with e|⟨e1,e2⟩|⟨e1,e2⟩
   ·exact h.apart z hz w hw e
   ·exact absurd ((hc _ _ (h.mem z hz).1 ha e1).1 (h.mem z hz).2) sc
   ·exact absurd ((hc _ _ (h.mem z hz).1 hb e1).1 (h.mem z hz).2) Mh
  ·obtain ⟨w,hw,e⟩:=h.all z hz hU;exact ⟨w,hw, .inl e⟩
 exact key.bK (fL.eqv hE ha hb) h'
theorem P3 (hE:gM N E) {a b:Nat} (ha:a<N) (hb:b<N) (fy:E a b): ∀x y,x<N->y<N->(fL E a b x y↔E x y):=fun x y hx hy=>by
 constructor
 ·rintro (e|⟨e1,e2⟩|⟨e1,e2⟩)
  ·exact e
  ·exact hE.trans _ _ _ hx ha hy e1 (hE.trans _ _ _ ha hb hy fy e2)
  ·exact hE.trans _ _ _ hx hb hy e1 (hE.trans _ _ _ hb ha hy (hE.symm _ _ ha hb fy) e2)
 ·exact .inl
end
end Sp
namespace Sp
open Classical
theorem bV {N:Nat} {f g:Nat->Nat} (hf:aG N f) (h: ∀x,x<N->f x=g x) {x y:Nat} (hx:x<N):SC f x y↔SC g x y:=by
 have: ∀k,itn f k x=itn g k x:=fun k=>by
  induction k with
  |zero=>rfl
  |succ k ih=>simp only [itn];rw [←ih];exact h _ (hf.cr hx k)
 constructor
 ·rintro ⟨k,rfl⟩;exact ⟨k,(this k).symm⟩
 ·rintro ⟨k,rfl⟩;exact ⟨k,this k⟩
theorem aG.congr {N:Nat} {f g:Nat->Nat} (hf:aG N f) (h: ∀x,x<N->f x=g x):aG N g:=
 ⟨fun x hx=>by rw [←h x hx];exact hf.lt x hx,fun x y hx hy e=>hf.inj x y hx hy (by rw [h x hx,h y hy];exact e)⟩
structure jW (N:Nat) (al:Nat->Nat):Prop where
 lt: ∀x,x<N->al x<N
 inv: ∀x,x<N->al (al x)=x
 ne: ∀x,x<N->al x≠x
def xF (al:Nat->Nat) (k x:Nat):Nat:=if min x (al x)<k then al x else x
def cS (si al:Nat->Nat) (k x:Nat):Nat:=si (xF al k x)
def KK (si al:Nat->Nat):Nat->Nat->Nat->Prop
 |0=>SC si
 |k+1=>if k<al k then fL (KK si al k) k (al k) else KK si al k
section
variable {N:Nat} {si al:Nat->Nat} {U:Nat->Prop}
theorem OD (ha:jW N al) {k:Nat} (hk:k<N) (h:k<al k): ∀x,x<N->swp (cS si al k) k (al k) x=cS si al (k+1) x:=fun x hx=>by
 have hi:=ha.inv k hk;unfold swp cS xF;by_cases h1:x=k
 ·subst h1;rw [if_pos rfl,hi];rw [if_neg (by omega),if_pos (by omega)]
 ·rw [if_neg h1];by_cases h2:x=al k
  ·subst h2;rw [if_pos rfl,hi,if_neg (by omega),if_pos (by omega)]
  ·rw [if_neg h2];have h3:al x≠k:=fun e=>h2 (by rw [←e];exact (ha.inv x hx).symm);by_cases h4:min x (al x)<k
   ·rw [if_pos h4,if_pos (by omega)]
   ·rw [if_neg h4,if_neg (by omega)]
theorem OC (ha:jW N al) {k:Nat} (hk:k<N) (h: ¬k<al k): ∀x,x<N->cS si al k x=cS si al (k+1) x:=fun x hx=>by
 unfold cS xF;have av:=ha.ne k hk;by_cases h4:min x (al x)<k
 ·rw [if_pos h4,if_pos (by omega)]
 ·rw [if_neg h4];have h5: ¬min x (al x)<k+1:=fun h6=>by
   have h7:min x (al x)=k:=by omega
   by_cases h8:x<=al x
   ·have:x=k:=by omega
    subst this;omega
   ·have h9:al x=k:=by omega
    have:x=al k:=by rw [←h9];exact (ha.inv x hx).symm
    omega
  rw [if_neg h5]
theorem sJ (hs:aG N si) (ha:jW N al): ∀k,k<=N->aG N (cS si al k)
 |0,_=>hs.congr fun x _=>by unfold cS xF;rw [if_neg (by omega)]
 |k+1,hk=>by
  have ih:=sJ hs ha k (by omega);by_cases h:k<al k
  ·exact (cO ih (show k<N by omega) (ha.lt k (by omega))).congr (OD ha (by omega) h)
  ·exact ih.congr (OC ha (by omega) h)
theorem zq (hs:aG N si) (ha:jW N al): ∀k,k<=N->gM N (KK si al k)
 |0,_=>SC.eqv hs
 |k+1,hk=>by
  have ih:=zq hs ha k (by omega);unfold KK
  split
  ·exact fL.eqv ih (by omega) (ha.lt k (by omega))
  ·exact ih
theorem FU {f:Nat->Nat} {E:Nat->Nat->Prop} (hf:aG N f) (hE:gM N E) (h: ∀x,x<N->E x (f x)) {x y:Nat} (hx:x<N) (hs:SC f x y):E x y:=by
 obtain ⟨k,rfl⟩:=hs
 induction k with
 |zero=>exact hE.rfl' x hx
 |succ k ih=>exact hE.trans _ _ _ hx (hf.cr hx k) (hf.lt _ (hf.cr hx k)) ih (h _ (hf.cr hx k))
theorem CX (hs:aG N si) (ha:jW N al): ∀k,k<=N-> ∀x,x<N->KK si al k x (si x)
 |0,_,x,_=>SC.step _ _
 |k+1,hk,x,hx=>by
  have ih:=CX hs ha k (by omega) x hx;unfold KK;split
  ·exact .inl ih
  ·exact ih
theorem KC (hs:aG N si) (ha:jW N al): ∀k,k<=N-> ∀x,x<N->min x (al x)<k->KK si al k x (al x)
 |0,_,x,_,h=>by omega
 |k+1,hk,x,hx,h=>by
  by_cases h1:min x (al x)<k
  ·have ih:=KC hs ha k (by omega) x hx h1;unfold KK;split
   ·exact .inl ih
   ·exact ih
  ·have hE:=zq hs ha k (by omega);have fI:=ha.lt x hx;have hi:=ha.inv x hx;have av:=ha.ne x hx;have h2:min x (al x)=k:=by omega
   unfold KK;by_cases h3:x<al x
   ·have:x=k:=by omega
    subst this;rw [if_pos h3];exact .inr (.inl ⟨hE.rfl' _ hx,hE.rfl' _ fI⟩)
   ·have h4:al x=k:=by omega
    have h5:al k=x:=by rw [←h4];exact hi
    rw [if_pos (by omega)];refine .inr (.inr ⟨?_,?_⟩)
    ·rw [h5];exact hE.rfl' _ hx
    ·rw [h4];exact hE.rfl' _ (by omega)
theorem Hn (hs:aG N si) (ha:jW N al) {R:Nat->Nat->Prop} (hR:gM N R) (h1: ∀x,x<N->R x (si x)) (h2: ∀x,x<N->R x (al x)): ∀k,k<=N-> ∀x y,x<N->y<N->KK si al k x y->R x y
 |0,_,x,y,hx,_,h=>FU hs hR h1 hx h
 |k+1,hk,x,y,hx,hy,h=>by
  have ih:=Hn hs ha hR h1 h2 k (by omega);have fR:k<N:=by omega
  have fI:=ha.lt k fR;unfold KK at h
  split at h
  ·rcases h with h|⟨e1,e2⟩|⟨e1,e2⟩
   ·exact ih x y hx hy h
   ·exact hR.trans _ _ _ hx fR hy (ih _ _ hx fR e1) (hR.trans _ _ _ fR fI hy (h2 k fR) (ih _ _ fI hy e2))
   ·exact hR.trans _ _ _ hx fI hy (ih _ _ hx fI e1) (hR.trans _ _ _ fI fR hy (hR.symm _ _ fR fI (h2 k fR)) (ih _ _ fR hy e2))
  ·exact ih x y hx hy h
theorem Da (hs:aG N si) (ha:jW N al) {k:Nat} (hk:k<=N) {x y:Nat} (hx:x<N) (h:SC (cS si al k) x y):KK si al k x y:=by
 have hE:=zq hs ha k hk;refine FU (sJ hs ha k hk) hE (fun x hx=>?_) hx h;have fI:=ha.lt x hx;unfold cS xF
 split
 ·exact hE.trans _ _ _ hx fI (hs.lt _ fI) (KC hs ha k hk x hx (by assumption)) (CX hs ha k hk _ fI)
 ·exact CX hs ha k hk x hx
noncomputable def eU (al:Nat->Nat) (U:Nat->Prop) (k:Nat):Nat:=(List.range k).countP fun h=>decide (U h/\h<al h)
theorem DE (al:Nat->Nat) (U:Nat->Prop) (k:Nat):eU al U (k+1)=eU al U k+if U k/\k<al k then 1 else 0:=by
 unfold eU;rw [List.range_succ,List.countP_append];by_cases h:U k/\k<al k
 ·simp [h]
 ·simp [h]
theorem xI (hs:aG N si) (ha:jW N al) (h1: ∀x,x<N->(U x↔U (si x))) (h2: ∀x,x<N->(U x↔U (al x))) {k:Nat} (hk:k<=N) {x y:Nat} (hx:x<N) (hy:y<N) (h:KK si al k x y):U x↔U y:=
 Hn (R:=fun x y=>U x↔U y) hs ha ⟨fun _ _=>Iff.rfl,fun _ _ _ _ h=>h.symm,fun _ _ _ _ _ _ h k=>h.trans k⟩ h1 h2 k hk x y hx hy h
theorem Rj (hs:aG N si) (ha:jW N al) (h1: ∀x,x<N->(U x↔U (si x))) (h2: ∀x,x<N->(U x↔U (al x))): ∀k,k<=N-> ∀lV lF lK,Tr N U (SC si) lV->Tr N U (SC (cS si al k)) lF->Tr N U (KK si al k) lK->
  lV.length+lF.length<=2*lK.length+eU al U k
 |0,_,lV,lF,lK,hV,hF,hK=>by
  have e1:=hV.bK (SC.eqv hs) hK;have e2:=hV.bK (SC.eqv hs) (hF.congr (E':=SC si) (fun x y hx _=>(bV hs (g:=cS si al 0) (fun x _=>by unfold cS xF;rw [if_neg (by omega)]) hx).symm));omega
 |k+1,hk,lV,lF,lK,hV,hF,hK=>by
  have fR:k<N:=by omega
  have fI:=ha.lt k fR;have hE:=zq hs ha k (by omega);have hP:=sJ hs ha k (by omega);have Fq:=SC.eqv hP;obtain ⟨ET,se⟩:=Tr.exists Fq U;obtain ⟨XY,CC⟩:=Tr.exists hE U;have ih:=Rj hs ha h1 h2 k (by omega) lV ET XY hV se CC;rw [DE];by_cases ax:k<al k
  ·have aY:=OD (si:=si) ha fR ax;have eH:=cO hP fR fI;have tb:Tr N U (SC (swp (cS si al k) k (al k))) lF:=hF.congr fun x y hx _=>(bV eH aY hx).symm;have CB:Tr N U (fL (KK si al k) k (al k)) lK:=by unfold KK at hK;rw [if_pos ax] at hK;exact hK
   by_cases hU:U k
   ·have sc:=(h2 k fR).1 hU;rw [if_pos ⟨hU,ax⟩];have Mq:lF.length<=ET.length+1/\(¬SC (cS si al k) k (al k)->ET.length=lF.length+1):=by
     by_cases jq:SC (cS si al k) k (al k)
     ·refine ⟨?_,fun h=>absurd jq h⟩;have cK:=cP hP fR (by omega) jq;have hj:=bu eH fR fI cK;rw [dz] at hj
      have:=tb.join (SC.eqv eH) fR fI hU sc cK (se.congr hj)
      omega
     ·have:=se.join Fq fR fI hU sc jq (tb.congr (bu hP fR fI jq))
      exact ⟨by omega,fun _=>this⟩
    by_cases hke:KK si al k k (al k)
    ·have:=CC.bK hE (CB.congr (P3 hE fR fI hke))
     omega
    ·have e1:=CC.join hE fR fI hU sc hke CB;have e2:=Mq.2 (fun jq=>hke (Da hs ha (by omega) fR jq));omega
   ·have sc: ¬U (al k):=fun h=>hU ((h2 k fR).2 h);rw [if_neg (fun h=>hU h.1)];have Y0: ∀x y,x<N->y<N->KK si al k x y->(U x↔U y):=fun x y hx hy h=>xI hs ha h1 h2 (by omega) hx hy h;have e1:=CC.jm hE Y0 fR fI hU sc CB;have e2:ET.length=lF.length:=by
     by_cases jq:SC (cS si al k) k (al k)
     ·have cK:=cP hP fR (by omega) jq;have hj:=bu eH fR fI cK;rw [dz] at hj;refine (tb.jm (SC.eqv eH) (fun x y hx hy h=>?_) fR fI hU sc (se.congr hj)).symm;have h3:SC (cS si al (k+1)) x y:=(bV eH aY hx).1 h;exact xI hs ha h1 h2 hk hx hy (Da hs ha hk hx h3)
     ·exact se.jm Fq (fun x y hx hy h=>xI hs ha h1 h2 (by omega) hx hy (Da hs ha (by omega) hx h)) fR fI hU sc (tb.congr (bu hP fR fI jq))
    omega
  ·rw [if_neg (fun h=>ax h.2)];have CB:Tr N U (KK si al k) lK:=by unfold KK at hK;rw [if_neg ax] at hK;exact hK
   have e1:=CC.bK hE CB;have e2:=se.bK Fq (hF.congr fun x y hx _=>(bV hP (OC ha fR ax) hx).symm);omega
end
end Sp
namespace Sp
open Classical
section
variable {N:Nat} {si al:Nat->Nat} {U W:Nat->Prop} {E E':Nat->Nat->Prop} {l l':List Nat}
theorem Tr.c8 (h:Tr N U E l) (hU: ∀x,x<N->(U x↔W x)) (he: ∀x y,x<N->y<N->U x->U y->(E x y↔E' x y)):Tr N W E' l:=
 ⟨fun x hx=>⟨(h.mem x hx).1,(hU x (h.mem x hx).1).1 (h.mem x hx).2⟩,h.nodup,fun x hx y hy e=>h.apart x hx y hy ((he x y (h.mem x hx).1 (h.mem y hy).1 (h.mem x hx).2 (h.mem y hy).2).2 e),fun x hx hW=>by
  have Tt:=(hU x hx).2 hW;obtain ⟨y,h1,h2⟩:=h.all x hx Tt;exact ⟨y,h1,(he x y hx (h.mem y h1).1 Tt (h.mem y h1).2).1 h2⟩⟩
theorem Tr.append (h:Tr N U E l) (h':Tr N W E l') (cK: ∀x y,x<N->y<N->U x->W y-> ¬E x y/\ ¬E y x) (av: ∀x,x<N->U x-> ¬W x):Tr N (fun x=>U x\/W x) E (l++l'):=by
 refine ⟨fun x hx=>?_,?_,fun x hx y hy e=>?_,fun x hx hU=>?_⟩
 ·rcases List.mem_append.1 hx with g|g
  ·exact ⟨(h.mem x g).1, .inl (h.mem x g).2⟩
  ·exact ⟨(h'.mem x g).1, .inr (h'.mem x g).2⟩
 ·refine List.nodup_append.2 ⟨h.nodup,h'.nodup,fun x hx y hy e=>?_⟩;subst e;exact av x (h.mem x hx).1 (h.mem x hx).2 (h'.mem x hy).2
 ·rcases List.mem_append.1 hx with g|g<;>rcases List.mem_append.1 hy with k|k
  ·exact h.apart x g y k e
  ·exact absurd e (cK x y (h.mem x g).1 (h'.mem y k).1 (h.mem x g).2 (h'.mem y k).2).1
  ·exact absurd e (cK y x (h.mem y k).1 (h'.mem x g).1 (h.mem y k).2 (h'.mem x g).2).2
  ·exact h'.apart x g y k e
 ·rcases hU with g|g
  ·obtain ⟨y,h1,h2⟩:=h.all x hx g;exact ⟨y,List.mem_append_left _ h1,h2⟩
  ·obtain ⟨y,h1,h2⟩:=h'.all x hx g;exact ⟨y,List.mem_append_right _ h1,h2⟩
theorem ym {MJ:Nat->Nat} {k:Nat} (h: ∀x,x<k->((U x/\x<al x)↔(W x/\x<MJ x))):eU al U k=eU MJ W k:=by
 unfold eU;refine List.countP_congr fun x hx=>?_;simp only [decide_eq_true_eq];exact h x (List.mem_range.1 hx)
theorem CK {k:Nat} (h: ∀x,x<k->U x-> ¬W x):eU al (fun x=>U x\/W x) k=eU al U k+eU al W k:=by
 induction k with
 |zero=>simp [eU]
 |succ k ih=>
  rw [DE,DE,DE,ih (fun x hx=>h x (by omega))]
  have:=h k (by omega)
  by_cases h1:U k<;>by_cases h2:W k<;>by_cases h3:k<al k<;>simp [h1,h2,h3]<;>first|omega|exact absurd h2 (this h1)
end
structure su (N:Nat) (si al:Nat->Nat):Prop where
 perm:aG N si
 jO:jW N al
 eq: ∀r,r<N-> ∀lV lF,Tr N (KK si al N r) (SC si) lV->Tr N (KK si al N r) (SC (cS si al N)) lF->lV.length+lF.length=2+eU al (KK si al N r) N
section
variable {N:Nat} {si al:Nat->Nat}
theorem iP (ha:jW N al) {x:Nat} (hx:x<N):cS si al N x=si (al x):=by
 unfold cS xF;rw [if_pos (by omega)]
theorem tj (hs:aG N si) (ha:jW N al):gM N (KK si al N):=zq hs ha N (zzA _)
theorem gK (hs:aG N si) (ha:jW N al) {x:Nat} (hx:x<N):KK si al N x (si x):=CX hs ha N (zzA _) x hx
theorem gL (hs:aG N si) (ha:jW N al) {x:Nat} (hx:x<N):KK si al N x (al x):=KC hs ha N (zzA _) x hx (by omega)
theorem pP (hs:aG N si) (ha:jW N al) {x y:Nat} (hx:x<N) (h:SC si x y):KK si al N x y:=FU hs (tj hs ha) (fun _ hx=>gK hs ha hx) hx h
theorem uE (hs:aG N si) (ha:jW N al) {x y:Nat} (hx:x<N) (h:SC (cS si al N) x y):KK si al N x y:=Da hs ha (zzA _) hx h
theorem zI (hs:aG N si) (ha:jW N al) {R:Nat->Nat->Prop} (hR:gM N R) (h1: ∀x,x<N->R x (si x)) (h2: ∀x,x<N->R x (al x)) {x y:Nat} (hx:x<N) (hy:y<N) (h:KK si al N x y):R x y:=Hn hs ha hR h1 h2 N (zzA _) x y hx hy h
theorem lB (hs:aG N si) (ha:jW N al) {r:Nat} (hr:r<N):(∀x,x<N->(KK si al N r x↔KK si al N r (si x)))/\(∀x,x<N->(KK si al N r x↔KK si al N r (al x))):=by
 have hE:=tj hs ha;refine ⟨fun x hx=>?_,fun x hx=>?_⟩
 ·have h1:=gK hs ha hx;have h2:=hs.lt x hx;exact ⟨fun h=>hE.trans _ _ _ hr hx h2 h h1,fun h=>hE.trans _ _ _ hr h2 hx h (hE.symm _ _ hx h2 h1)⟩
 ·have h1:=gL hs ha hx;have h2:=ha.lt x hx;exact ⟨fun h=>hE.trans _ _ _ hr hx h2 h h1,fun h=>hE.trans _ _ _ hr h2 hx h (hE.symm _ _ hx h2 h1)⟩
theorem C9 (hs:aG N si) (ha:jW N al) {r:Nat} (hr:r<N) {lV lF:List Nat} (hV:Tr N (KK si al N r) (SC si) lV) (hF:Tr N (KK si al N r) (SC (cS si al N)) lF):lV.length+lF.length<=2+eU al (KK si al N r) N:=by
 have hE:=tj hs ha;have hK:Tr N (KK si al N r) (KK si al N) [r]:=by
  refine ⟨fun x hx=>?_,by simp,fun x hx y hy _=>?_,fun x hx h=>⟨r,by simp,hE.symm _ _ hr hx h⟩⟩
  ·simp at hx;subst hx;exact ⟨hr,hE.rfl' _ hr⟩
  ·simp at hx hy;rw [hx,hy]
 have:=Rj hs ha (lB hs ha hr).1 (lB hs ha hr).2 N (zzA _) lV lF [r] hV hF hK
 simpa using this
theorem su.split (h:su N si al) {p q:Nat} (hp:p<N) (hq:q<N) (jQ:p≠q) (jq:SC si p q):su N (swp si p q) al:=by
 have hs:=h.perm;have ha:=h.jO;have bo:=cO hs hp hq;have hE:=tj hs ha;have gR:=tj bo ha;have Bw:=cP hs hp jQ jq;have Bx:=bu bo hp hq Bw;rw [dz] at Bx;have fT:=ha.lt p hp;have kz:=ha.lt q hq;have j9:=sJ hs ha N (zzA _);have js:=sJ bo ha N (zzA _);have yW: ∀x,x<N->swp (cS si al N) (al p) (al q) x=cS (swp si p q) al N x:=fun x hx=>by
  rw [iP ha hx];unfold swp;have i1:=ha.inv x hx;by_cases h1:x=al p
  ·subst h1;rw [if_pos rfl,ha.inv p hp,if_pos rfl,iP ha kz,ha.inv q hq]
  ·rw [if_neg h1];have n1:al x≠p:=fun e=>h1 (by rw [←e,i1]);by_cases h2:x=al q
   ·subst h2;rw [if_pos rfl,ha.inv q hq,if_neg (Ne.symm jQ),if_pos rfl,iP ha fT,ha.inv p hp]
   ·rw [if_neg h2];have n2:al x≠q:=fun e=>h2 (by rw [←e,i1]);rw [if_neg n1,if_neg n2,iP ha hx]
 have Fp:al p≠al q:=fun e=>jQ (by rw [←ha.inv p hp,←ha.inv q hq,e]);have iU:KK si al N p q:=pP hs ha hp jq;have tW: ∀x,x<N->(x≠p/\x≠q/\swp si p q x=si x)\/(x=p/\swp si p q x=si q)\/(x=q/\swp si p q x=si p):=fun x _=>by
  unfold swp;by_cases h1:x=p
  ·exact .inr (.inl ⟨h1,by rw [if_pos h1]⟩)
  ·by_cases h2:x=q
   ·exact .inr (.inr ⟨h2,by rw [if_neg h1,if_pos h2]⟩)
   ·exact .inl ⟨h1,h2,by rw [if_neg h1,if_neg h2]⟩
 have dX: ∀x y,x<N->y<N->KK (swp si p q) al N x y->KK si al N x y:=fun x y hx hy hk=>by
  refine zI bo ha hE (fun x hx=>?_) (fun x hx=>gL hs ha hx) hx hy hk;rcases tW x hx with ⟨_,_,e⟩|⟨rfl,e⟩|⟨rfl,e⟩
  ·rw [e];exact gK hs ha hx
  ·rw [e];exact hE.trans _ _ _ hx hq (hs.lt _ hq) iU (gK hs ha hq)
  ·rw [e];exact hE.trans _ _ _ hx hp (hs.lt _ hp) (hE.symm _ _ hp hx iU) (gK hs ha hp)
 have Mk: ∀x y,x<N->y<N->(KK si al N x y↔fL (KK (swp si p q) al N) p q x y):=fun x y hx hy=>by
  constructor
  ·intro hk;refine zI hs ha (fL.eqv gR hp hq) (fun x hx=>?_) (fun x hx=> .inl (gL bo ha hx)) hx hy hk;rcases tW x hx with ⟨_,_,e⟩|⟨rfl,_⟩|⟨rfl,_⟩
   ·rw [←e];exact .inl (gK bo ha hx)
   ·refine .inr (.inl ⟨gR.rfl' _ hx,?_⟩)
    have:=gK bo ha hq
    rwa [show swp si x q q=si x by unfold swp;rw [if_neg (Ne.symm jQ),if_pos rfl]] at this
   ·refine .inr (.inr ⟨gR.rfl' _ hx,?_⟩)
    have:=gK bo ha hp
    rwa [show swp si p x p=si x by unfold swp;rw [if_pos rfl]] at this
  ·rintro (e|⟨e1,e2⟩|⟨e1,e2⟩)
   ·exact dX x y hx hy e
   ·exact hE.trans _ _ _ hx hp hy (dX _ _ hx hp e1) (hE.trans _ _ _ hp hq hy iU (dX _ _ hq hy e2))
   ·exact hE.trans _ _ _ hx hq hy (dX _ _ hx hq e1) (hE.trans _ _ _ hq hp hy (hE.symm _ _ hp hq iU) (dX _ _ hp hy e2))
 obtain ⟨lV,hV⟩:=Tr.exists (SC.eqv hs) (KK si al N p);obtain ⟨lF,hF⟩:=Tr.exists (SC.eqv j9) (KK si al N p);have heq:=h.eq p hp lV lF hV hF;obtain ⟨KQ,zf⟩:=Tr.exists (SC.eqv bo) (KK si al N p);obtain ⟨Bf,zi⟩:=Tr.exists (SC.eqv js) (KK si al N p);have Mg:KK si al N p p:=hE.rfl' _ hp;have nX:KQ.length=lV.length+1:=zf.join (SC.eqv bo) hp hq Mg iU Bw (hV.congr Bx)
 have sa:KK si al N p (al p):=gL hs ha hp;have rZ:KK si al N p (al q):=hE.trans _ _ _ hp hq kz iU (gL hs ha hq);have iR:=cO j9 fT kz;have tb:Tr N (KK si al N p) (SC (swp (cS si al N) (al p) (al q))) Bf:=zi.congr fun x y hx _=>(bV iR yW hx).symm;have LP: ¬SC (cS (swp si p q) al N) (al p) (al q)->Bf.length=lF.length+1:=fun cK=>by
  have rB: ¬SC (swp (cS si al N) (al p) (al q)) (al p) (al q):=fun e=>cK ((bV iR yW fT).1 e);have hj:=bu iR fT kz rB;rw [dz] at hj;exact tb.join (SC.eqv iR) fT kz sa rZ rB (hF.congr hj)
 have YR:lF.length<=Bf.length+1:=by
  by_cases rj:SC (cS si al N) (al p) (al q)
  ·have cK:=cP j9 fT Fp rj;have hj:=bu iR fT kz cK;rw [dz] at hj
   have:=tb.join (SC.eqv iR) fT kz sa rZ cK (hF.congr hj)
   omega
  ·have:=hF.join (SC.eqv j9) fT kz sa rZ rj (tb.congr (bu j9 fT kz rj))
   omega
 refine ⟨bo,ha,fun r hr kV kF B1 B2=>?_⟩;by_cases hrp:KK si al N p r
 ·by_cases cV:KK (swp si p q) al N p q
  ·--nothing is parted
   have Zg: ∀x y,x<N->y<N->(KK si al N x y↔KK (swp si p q) al N x y):=fun x y hx hy=>(Mk x y hx hy).trans (P3 gR hp hq cV x y hx hy);have b5: ∀x,x<N->(KK si al N p x↔KK (swp si p q) al N r x):=fun x hx=>by
    rw [←Zg r x hr hx];exact ⟨fun e=>hE.trans _ _ _ hr hp hx (hE.symm _ _ hp hr hrp) e,fun e=>hE.trans _ _ _ hp hr hx hrp e⟩
   have e1:=(zf.c8 b5 (E':=SC (swp si p q)) (fun _ _ _ _ _ _=>Iff.rfl)).bK (SC.eqv bo) B1;have e2:=(zi.c8 b5 (E':=SC (cS (swp si p q) al N)) (fun _ _ _ _ _ _=>Iff.rfl)).bK (SC.eqv js) B2;have e3:eU al (KK si al N p) N=eU al (KK (swp si p q) al N r) N:=ym fun x hx=>by rw [b5 x hx]
   have e4:=C9 bo ha hr B1 B2;omega
  ·--the class is parted
   have Lw: ¬SC (cS (swp si p q) al N) (al p) (al q):=fun e=>cV (by
    have h1:=uE bo ha fT e;exact gR.trans _ _ _ hp fT hq (gL bo ha hp) (gR.trans _ _ _ fT kz hq h1 (gR.symm _ _ hq kz (gL bo ha hq))))
   have Tg:=LP Lw;obtain ⟨pV,Lp⟩:=Tr.exists (SC.eqv bo) (KK (swp si p q) al N p);obtain ⟨pF,Lq⟩:=Tr.exists (SC.eqv js) (KK (swp si p q) al N p);obtain ⟨qV,Lm⟩:=Tr.exists (SC.eqv bo) (KK (swp si p q) al N q);obtain ⟨qF,Ln⟩:=Tr.exists (SC.eqv js) (KK (swp si p q) al N q)
   have n9: ∀x,x<N->KK (swp si p q) al N p x-> ¬KK (swp si p q) al N q x:=fun x hx e1 e2=>cV (gR.trans _ _ _ hp hx hq e1 (gR.symm _ _ hq hx e2));have uq: ∀x,x<N->((KK (swp si p q) al N p x\/KK (swp si p q) al N q x)↔KK si al N p x):=fun x hx=>by
    rw [Mk p x hp hx];constructor
    ·rintro (e|e)
     ·exact .inl e
     ·exact .inr (.inl ⟨gR.rfl' _ hp,e⟩)
    ·rintro (e|⟨_,e⟩|⟨e,_⟩)
     ·exact .inl e
     ·exact .inr e
     ·exact absurd e cV
   have Lt: ∀x y,x<N->y<N->KK (swp si p q) al N p x->KK (swp si p q) al N q y-> ¬SC (swp si p q) x y/\ ¬SC (swp si p q) y x:=fun x y hx hy e1 e2=>
    ⟨fun e=>n9 y hy (gR.trans _ _ _ hp hx hy e1 (pP bo ha hx e)) e2,fun e=>n9 x hx e1 (gR.trans _ _ _ hq hy hx e2 (pP bo ha hy e))⟩
   have Lu: ∀x y,x<N->y<N->KK (swp si p q) al N p x->KK (swp si p q) al N q y-> ¬SC (cS (swp si p q) al N) x y/\ ¬SC (cS (swp si p q) al N) y x:=fun x y hx hy e1 e2=>
    ⟨fun e=>n9 y hy (gR.trans _ _ _ hp hx hy e1 (uE bo ha hx e)) e2,fun e=>n9 x hx e1 (gR.trans _ _ _ hq hy hx e2 (uE bo ha hy e))⟩
   have eV:=((Lp.append Lm Lt n9).c8 uq (E':=SC (swp si p q)) (fun _ _ _ _ _ _=>Iff.rfl)).bK (SC.eqv bo) zf;have eF:=((Lq.append Ln Lu n9).c8 uq (E':=SC (cS (swp si p q) al N)) (fun _ _ _ _ _ _=>Iff.rfl)).bK (SC.eqv js) zi;rw [zzF] at eV eF;have eE:eU al (KK si al N p) N=eU al (KK (swp si p q) al N p) N+eU al (KK (swp si p q) al N q) N:=by
    rw [←CK (fun x hx e=>n9 x hx e)];exact ym fun x hx=>by rw [uq x hx]
   have ip:=C9 bo ha hp Lp Lq;have iq:=C9 bo ha hq Lm Ln;have iH:=(uq r hr).2 hrp;rcases iH with iH|iH
   ·have b5: ∀x,x<N->(KK (swp si p q) al N p x↔KK (swp si p q) al N r x):=fun x hx=>⟨fun e=>gR.trans _ _ _ hr hp hx (gR.symm _ _ hp hr iH) e,fun e=>gR.trans _ _ _ hp hr hx iH e⟩;have e1:=(Lp.c8 b5 (E':=SC (swp si p q)) (fun _ _ _ _ _ _=>Iff.rfl)).bK (SC.eqv bo) B1;have e2:=(Lq.c8 b5 (E':=SC (cS (swp si p q) al N)) (fun _ _ _ _ _ _=>Iff.rfl)).bK (SC.eqv js) B2
    have e3:eU al (KK (swp si p q) al N p) N=eU al (KK (swp si p q) al N r) N:=ym fun x hx=>by rw [b5 x hx]
    omega
   ·have b5: ∀x,x<N->(KK (swp si p q) al N q x↔KK (swp si p q) al N r x):=fun x hx=>⟨fun e=>gR.trans _ _ _ hr hq hx (gR.symm _ _ hq hr iH) e,fun e=>gR.trans _ _ _ hq hr hx iH e⟩;have e1:=(Lm.c8 b5 (E':=SC (swp si p q)) (fun _ _ _ _ _ _=>Iff.rfl)).bK (SC.eqv bo) B1;have e2:=(Ln.c8 b5 (E':=SC (cS (swp si p q) al N)) (fun _ _ _ _ _ _=>Iff.rfl)).bK (SC.eqv js) B2
    have e3:eU al (KK (swp si p q) al N q) N=eU al (KK (swp si p q) al N r) N:=ym fun x hx=>by rw [b5 x hx]
    omega
 ·--another component:as it was
  have yX: ∀x,x<N->KK si al N r x->x≠p/\x≠q:=fun x hx e=>⟨fun g=>by subst g;exact hrp (hE.symm _ _ hr hx e),fun g=>by
   subst g;exact hrp (hE.trans _ _ _ hp hx hr iU (hE.symm _ _ hr hx e))⟩
  have b5: ∀x,x<N->(KK (swp si p q) al N r x↔KK si al N r x):=fun x hx=>by
   refine ⟨dX r x hr hx,fun e=>?_⟩;rcases (Mk r x hr hx).1 e with e|⟨e1,_⟩|⟨e1,_⟩
   ·exact e
   ·exact absurd rfl (yX p hp (dX _ _ hr hp e1)).1
   ·exact absurd rfl (yX q hq (dX _ _ hr hq e1)).2
  have Cm: ∀{f:Nat->Nat} (_:aG N f) {g:Nat->Nat} (_: ∀x,x<N->KK si al N r x->f x=g x/\KK si al N r (f x)) (x y:Nat),x<N->KK si al N r x->(SC f x y↔SC g x y):=fun {f} hf {g} hfg x y hx hU=>by
   have hi: ∀k,KK si al N r (itn f k x)/\itn f k x=itn g k x:=fun k=>by
    induction k with
    |zero=>exact ⟨hU,rfl⟩
    |succ k ih=>
     have:=hfg _ (hf.cr hx k) ih.1
     exact ⟨this.2,by simp only [itn];rw [←ih.2];exact this.1⟩
   constructor
   ·rintro ⟨k,rfl⟩;exact ⟨k,(hi k).2.symm⟩
   ·rintro ⟨k,rfl⟩;exact ⟨k,(hi k).2⟩
  have Lg:=Cm bo (g:=si) (fun x hx e=>by
   have hn:=yX x hx e;rcases tW x hx with ⟨_,_,g⟩|⟨g,_⟩|⟨g,_⟩
   ·rw [g];exact ⟨rfl,((lB hs ha hr).1 x hx).1 e⟩
   ·exact absurd g hn.1
   ·exact absurd g hn.2)
  have rj:=Cm js (g:=cS si al N) (fun x hx e=>by
   have pJ:=ha.lt x hx;have e1:=((lB hs ha hr).2 x hx).1 e;have hn:=yX (al x) pJ e1;rw [iP ha hx,iP ha hx];rcases tW (al x) pJ with ⟨_,_,g⟩|⟨g,_⟩|⟨g,_⟩
   ·rw [g];exact ⟨rfl,((lB hs ha hr).1 _ pJ).1 e1⟩
   ·exact absurd g hn.1
   ·exact absurd g hn.2)
  have t1:Tr N (KK si al N r) (SC si) kV:=B1.c8 b5 (fun x y hx _ hU _=>Lg x y hx ((b5 x hx).1 hU));have t2:Tr N (KK si al N r) (SC (cS si al N)) kF:=B2.c8 b5 (fun x y hx _ hU _=>rj x y hx ((b5 x hx).1 hU))
  have:=h.eq r hr kV kF t1 t2
  rw [this];congr 1;exact ym fun x hx=>by rw [b5 x hx]
end
end Sp
namespace Sp
open Classical
noncomputable def cU (U:Nat->Prop) (N:Nat):Nat:=(List.range N).countP fun h=>decide (U h)
section
variable {N:Nat} {si al:Nat->Nat} {U W:Nat->Prop}
theorem zH (U:Nat->Prop) (k:Nat):cU U (k+1)=cU U k+if U k then 1 else 0:=by
 unfold cU;rw [List.range_succ,List.countP_append];by_cases h:U k<;>simp [h]
theorem VD {k:Nat} (h: ∀x,x<k->(U x↔W x)):cU U k=cU W k:=by
 unfold cU;refine List.countP_congr fun x hx=>?_;simp only [decide_eq_true_eq];exact h x (List.mem_range.1 hx)
theorem Nk (ha:jW N al) (hU: ∀x,x<N->(U x↔U (al x))):2*eU al U N=cU U N:=by
 have e1:eU al U N=((List.range N).filter fun h=>decide (U h/\h<al h)).length:=by unfold eU;rw [List.countP_eq_length_filter]
 have e2:cU U N=eU al U N+((List.range N).filter fun h=>decide (U h/\ ¬h<al h)).length:=by
  rw [←List.countP_eq_length_filter];unfold cU eU;generalize List.range N=l
  induction l with
  |nil=>simp
  |cons x l ih=>
   simp only [List.countP_cons];rw [ih];by_cases h1:U x<;>by_cases h2:x<al x<;>simp [h1,h2]<;>omega
 have m1: ∀x,x∈((List.range N).filter fun h=>decide (U h/\h<al h))↔x<N/\U x/\x<al x:=fun x=>by simp [List.mem_filter]
 have m2: ∀x,x∈((List.range N).filter fun h=>decide (U h/\ ¬h<al h))↔x<N/\U x/\ ¬x<al x:=fun x=>by simp [List.mem_filter]
 have i1:=DF ((List.range N).filter fun h=>decide (U h/\h<al h)) ((List.range N).filter fun h=>decide (U h/\ ¬h<al h)) al (List.nodup_range.filter _) (fun x hx=>by
  obtain ⟨h1,h2,h3⟩:=(m1 x).1 hx;exact (m2 _).2 ⟨ha.lt x h1,(hU x h1).1 h2,by rw [ha.inv x h1];omega⟩) (fun x hx y hy e=>by
  have h1:=((m1 x).1 hx).1;have h2:=((m1 y).1 hy).1;rw [←ha.inv x h1,←ha.inv y h2,e])
 have i2:=DF ((List.range N).filter fun h=>decide (U h/\ ¬h<al h)) ((List.range N).filter fun h=>decide (U h/\h<al h)) al (List.nodup_range.filter _) (fun x hx=>by
  obtain ⟨h1,h2,h3⟩:=(m2 x).1 hx
  have:=ha.ne x h1
  exact (m1 _).2 ⟨ha.lt x h1,(hU x h1).1 h2,by rw [ha.inv x h1];omega⟩) (fun x hx y hy e=>by
  have h1:=((m2 x).1 hx).1;have h2:=((m2 y).1 hy).1;rw [←ha.inv x h1,←ha.inv y h2,e])
 omega
end
end Sp
namespace Sp
open Classical
def dA (x:Nat):Nat:=x-x % 4+(x % 4+3)% 4
def da (m:List Int) (x:Nat):Nat:=(m.getD x 0).toNat
theorem GG (x:Nat):dA x/4=x/4:=by unfold dA;omega
theorem sI (n:Nat):aG (4*n) dA:=⟨fun x hx=>by unfold dA;omega,fun x y hx hy e=>by unfold dA at e;omega⟩
theorem C8 {x y:Nat}:SC dA x y↔x/4=y/4:=by
 constructor
 ·rintro ⟨k,rfl⟩
  induction k with
  |zero=>rfl
  |succ k ih=>simp only [itn];rw [GG];exact ih
 ·intro e;refine ⟨(x % 4+4-y % 4)% 4,?_⟩;have h4:x % 4=0\/x % 4=1\/x % 4=2\/x % 4=3:=by omega
  have k4:y % 4=0\/y % 4=1\/y % 4=2\/y % 4=3:=by omega
  rcases h4 with h|h|h|h<;>rcases k4 with k|k|k|k<;>rw [h,k]<;>first|(simp only [itn,dA];omega)|(show x=y;omega)
section
variable {m:List Int} {n:Nat}
structure ma (m:List Int) (n:Nat):Prop where
 prd:fe m n
 ne: ∀h:Nat,h<4*n->m.getD h 0≠h
theorem ma.cast (h:ma m n) {x:Nat} (hx:x<4*n):((da m x:Nat):Int)=m.getD x 0:=by
 have:=h.prd.ok.2 x hx;unfold da;omega
theorem ma.jO (h:ma m n):jW (4*n) (da m):=by
 refine ⟨fun x hx=>?_,fun x hx=>?_,fun x hx=>?_⟩
 ·have:=h.prd.ok.2 x hx;unfold da;omega
 ·have:=h.prd.inv x hx;unfold da;rw [this];simp
 ·intro e;exact h.ne x hx (by rw [←h.cast hx,e])
theorem ma.conn (h:ma m n) {x y:Nat} (hx:x<4*n) (hy:y<4*n):KK dA (da m) (4*n) x y↔bg m (x/4) (y/4):=by
 have hs:=sI n;have ha:=h.jO;have hE:=tj hs ha;constructor
 ·refine fun hk=>zI (R:=fun x y=>bg m (x/4) (y/4)) hs ha ⟨fun _ _=> .refl _,fun x y hx _ e=>e.symm h.prd (by omega),fun _ _ _ _ _ _ e1 e2=>e1.trans e2⟩ (fun x _=>?_) (fun x hx=>?_) hx hy hk
  ·rw [GG];exact .refl _
  ·have:da m x/4=nb m (x/4) (x % 4):=by
    unfold nb da;rw [show 4*(x/4)+x % 4=x by omega]
    have:=h.prd.ok.2 x hx
    omega
   rw [this];exact .step _ (by omega) (.refl _)
 ·have key: ∀{a b:Nat},bg m a b->a<n-> ∀x y,x/4=a->y/4=b->KK dA (da m) (4*n) x y:=fun {a b} hc han=>by
   induction hc with
   |refl=>intro x y hx hy;exact pP hs ha (by omega) (C8.2 (by omega))
   | @step b s h4 hc ih=>
     intro x y hx hy;have hb:=hc.lt h.prd han;have h1:=ih x (4*b+s) hx (by omega);have h2:=gL hs ha (x:=4*b+s) (by omega);have hl:=ha.lt (4*b+s) (by omega);have h3:da m (4*b+s)/4=nb m b s:=by
      unfold nb da
      have:=h.prd.ok.2 (4*b+s) (by omega)
      omega
     have vB:y<4*n:=by omega
     exact hE.trans _ _ _ (by omega) (by omega) vB h1 (hE.trans _ _ _ (by omega) hl vB h2 (pP hs ha hl (C8.2 (by omega))))
  intro hc;exact key hc (by omega) x y rfl rfl
theorem ma.it (h:ma m n) {x:Nat} (hx:x<4*n): ∀k,it (bJ m) k x=(itn (cS dA (da m) (4*n)) k x:Nat)
 |0=>rfl
 |k+1=>by
  have hl:=(sJ (sI n) h.jO (4*n) (zzA _)).cr hx k;simp only [itn,Go.Proofs.YtmdjdekgakidhaaGreatDoor.it];rw [h.it hx k,iP h.jO hl];generalize itn (cS dA (da m) (4*n)) k x=z at*;unfold bJ;rw [zzC,qd,←h.cast hl];unfold dA;omega
theorem ma.jI (h:ma m n) {x y:Nat} (hx:x<4*n):(y:Int)∈ak (bJ m) m.length x↔SC (cS dA (da m) (4*n)) x y:=by
 have fv:=h.prd.ok.1;have ho:=(wE (EA h.prd) (x:=x) (by unfold aw;omega)).1 y;rw [fv,ho];constructor
 ·rintro ⟨j,e⟩;rw [h.it hx j] at e;exact ⟨j,by omega⟩
 ·rintro ⟨j,e⟩;exact ⟨j,by rw [h.it hx j,e]⟩
theorem Nj (P:Nat->Prop): ∀n,cU (fun x=>P (x/4)) (4*n)=4*cU P n
 |0=>by simp [cU]
 |n+1=>by
  rw [show 4*(n+1)=4*n+1+1+1+1 by omega,zH,zH,zH,zH,Nj P n,zH];rw [show 4*n/4=n by omega,show (4*n+1)/4=n by omega,show (4*n+1+1)/4=n by omega,show (4*n+1+1+1)/4=n by omega]
  split<;>omega
theorem ma.AH (h:ma m n) {a:Nat} (ha:a<n) {u:Int} (hu: ∀b,b<n->((bB m n n).getD b 0=u↔bg m a b)) {r:Nat} (hr:r/4=a):
  (∃l,Tr (4*n) (KK dA (da m) (4*n) r) (SC dA) l/\l.length=cH (bB m n n) n u)/\cU (KK dA (da m) (4*n) r) (4*n)=4*cH (bB m n n) n u:=by
 have k6:r<4*n:=by omega
 have kd: ∀x,x<4*n->(KK dA (da m) (4*n) r x↔(bB m n n).getD (x/4) 0=u):=fun x hx=>by
  rw [h.conn k6 hx,hr,hu (x/4) (by omega)]
 refine ⟨⟨((List.range n).filter fun c=>(bB m n n).getD c 0==u).map (4* ·),⟨fun x hx=>?_,?_,fun x hx y hy e=>?_,fun x hx e=>?_⟩,?_⟩,?_⟩
 ·obtain ⟨c,hc,rfl⟩:=List.mem_map.1 hx;have h1:=List.mem_filter.1 hc;have h2:=List.mem_range.1 h1.1;refine ⟨by omega,(kd _ (by omega)).2 ?_⟩;rw [show 4*c/4=c by omega];simpa using h1.2
 ·exact List.Pairwise.map _ (fun a b fy e=>fy (by omega)) (List.nodup_range.filter _)
 ·obtain ⟨c,_,rfl⟩:=List.mem_map.1 hx;obtain ⟨d,_,rfl⟩:=List.mem_map.1 hy
  have:=C8.1 e
  omega
 ·refine ⟨4*(x/4),List.mem_map.2 ⟨x/4,List.mem_filter.2 ⟨List.mem_range.2 (by omega),by simpa using (kd x hx).1 e⟩,rfl⟩,C8.2 (by omega)⟩
 ·rw [List.length_map,←List.countP_eq_length_filter];rfl
 ·rw [VD kd,Nj (fun c=>(bB m n n).getD c 0=u)];congr 1;unfold cU cH;refine List.countP_congr fun c _=>?_;simp
theorem ma.TN (h:ma m n) {a:Nat} (ha:a<n) {u:Int} (hu: ∀b,b<n->((bB m n n).getD b 0=u↔bg m a b)) {r:Nat} (hr:r/4=a):
  ∃l,Tr (4*n) (KK dA (da m) (4*n) r) (SC (cS dA (da m) (4*n))) l/\l.length=eG m (bB m n n) (4*n) u:=by
 have k6:r<4*n:=by omega
 have kd: ∀x,x<4*n->(KK dA (da m) (4*n) r x↔(bB m n n).getD (x/4) 0=u):=fun x hx=>by
  rw [h.conn k6 hx,hr,hu (x/4) (by omega)]
 have j9:=sJ (sI n) h.jO (4*n) (zzA _);have nG: ∀x,x<4*n->(fl m x=true↔ ∀y,SC (cS dA (da m) (4*n)) x y->x<=y):=fun x hx=>by
  unfold fl;rw [vk];constructor
  ·intro hl y hy
   have:=hl y ((h.jI hx).2 hy)
   omega
  ·intro hl y hy;have EW:=(wE (EA h.prd) (x:=x) (by unfold aw;omega)).2.1 y (by rw [h.prd.ok.1] at hy;exact hy);unfold aw at EW;obtain ⟨z,rfl⟩: ∃z:Nat,y=z:=⟨y.toNat,by omega⟩
   have:=hl z ((h.jI hx).1 hy)
   omega
 refine ⟨(List.range (4*n)).filter fun i=>fl m i&&(bB m n n).getD (i/4) 0==u,⟨fun x hx=>?_,List.nodup_range.filter _,fun x hx y hy e=>?_,fun x hx e=>?_⟩,?_⟩
 ·have h1:=List.mem_filter.1 hx;have h2:=List.mem_range.1 h1.1;refine ⟨h2,(kd x h2).2 ?_⟩
  have:=h1.2
  rw [Bool.and_eq_true] at this;simpa using this.2
 ·have h1:=List.mem_filter.1 hx;have h2:=List.mem_filter.1 hy;have l1:=List.mem_range.1 h1.1;have l2:=List.mem_range.1 h2.1;have f1:=(nG x l1).1 ((Bool.and_eq_true _ _▸h1.2).1);have f2:=(nG y l2).1 ((Bool.and_eq_true _ _▸h2.2).1)
  have:=f1 y e
  have:=f2 x (e.symm j9 l1)
  omega
 ·have key: ∀k x,x<k->x<4*n->(bB m n n).getD (x/4) 0=u-> ∃y,y∈((List.range (4*n)).filter fun i=>fl m i&&(bB m n n).getD (i/4) 0==u)/\SC (cS dA (da m) (4*n)) x y:=fun k=>by
   induction k with
   |zero=>intro x h;omega
   |succ k ih=>
    intro x hk hx SQ;by_cases hl: ∃y,SC (cS dA (da m) (4*n)) x y/\y<x
    ·obtain ⟨y,h1,h2⟩:=hl;have vB:y<4*n:=by omega
     have Yd:(bB m n n).getD (y/4) 0=u:=by
      have mZ:=uE (sI n) h.jO hx h1
      have:=(kd x hx).2 SQ
      exact (kd y vB).1 ((tj (sI n) h.jO).trans _ _ _ k6 hx vB this mZ)
     obtain ⟨z,h3,h4⟩:=ih y (by omega) vB Yd;exact ⟨z,h3,h1.trans h4⟩
    ·refine ⟨x,List.mem_filter.2 ⟨List.mem_range.2 hx,?_⟩, .refl _ _⟩;rw [Bool.and_eq_true];exact ⟨(nG x hx).2 fun y hy=>Nat.le_of_not_lt fun ax=>hl ⟨y,hy,ax⟩,by simpa using SQ⟩
  exact key (x+1) x (by omega) hx ((kd x hx).1 e)
 ·rw [←List.countP_eq_length_filter];rfl
theorem ma.XP (h:ma m n):nU m n=true↔su (4*n) dA (da m):=by
 have j9:=sJ (sI n) h.jO (4*n) (zzA _);rw [Ee];constructor
 ·intro hr;refine ⟨sI n,h.jO,fun r k6 lV lF hV hF=>?_⟩;obtain ⟨u,hu,hc,jw⟩:=GO h.prd (a:=r/4) (by omega);have e0:=hr u hu ((jw u hu).2 (hc.symm h.prd hu));obtain ⟨⟨l1,t1,n1⟩,YZ⟩:=h.AH (a:=r/4) (by omega) jw rfl;obtain ⟨l2,t2,n2⟩:=h.TN (a:=r/4) (by omega) jw rfl;have e1:=hV.bK (SC.eqv (sI n)) t1;have e2:=hF.bK (SC.eqv j9) t2;have e3:=Nk h.jO (lB (sI n) h.jO k6).2
  omega
 ·intro hS c hc B0;obtain ⟨u,hu,Fm,jw⟩:=GO h.prd (a:=c) hc;have huc:(u:Int)=c:=by rw [←B0];exact ((jw c hc).2 (.refl _)).symm
  have K4:u=c:=by omega
  subst K4;obtain ⟨⟨l1,t1,n1⟩,YZ⟩:=h.AH (a:=u) hc jw (r:=4*u) (by omega);obtain ⟨l2,t2,n2⟩:=h.TN (a:=u) hc jw (r:=4*u) (by omega);have e0:=hS.eq (4*u) (by omega) l1 l2 t1 t2;have e3:=Nk h.jO (lB (sI n) h.jO (r:=4*u) (by omega)).2;omega
end
end Sp
namespace Sp
open Classical
section
variable {N N':Nat} {si al XQ MJ io:Nat->Nat}
end
end Sp
namespace Sp
open Classical
section
variable {N:Nat} {si al:Nat->Nat}
end
end Sp
namespace Sp
open Classical
theorem ij (c:Nat):bO false (4*c)=4*c+1/\bO false (4*c+1)=4*c/\bO false (4*c+2)=4*c+3/\bO false (4*c+3)=4*c+2:=by
 unfold bO;simp only [qJ,qd];refine ⟨?_,?_,?_,?_⟩<;>(split<;>rename_i h<;>simp at h<;>omega)
theorem X1 (c:Nat):bO true (4*c)=4*c+3/\bO true (4*c+1)=4*c+2/\bO true (4*c+2)=4*c+1/\bO true (4*c+3)=4*c:=by
 unfold bO;simp only [qJ,qd];refine ⟨?_,?_,?_,?_⟩<;>(split<;>rename_i h<;>simp at h<;>omega)
section
variable {m:List Int} {n c:Nat} {b:Bool}
end
end Sp
end Go.Proofs.YtmdjdekgakidhaaGreatDoor
