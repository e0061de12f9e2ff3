/- Maps on the sphere; a smoothed diagram stays on it. -/
import Derived.Test.YtjpbeacamoijhaaGreatDoorPl
set_option linter.unusedSimpArgs false
set_option linter.unusedVariables false
namespace Go.Proofs.YtjpbeacamoijhaaGreatDoor
namespace Sp
def itn (f:Nat->Nat):Nat->Nat->Nat
 |0,x=>x
 |k+1,x=>f (itn f k x)
theorem dL (f:Nat->Nat) (i:Nat): ∀j x,itn f (i+j) x=itn f i (itn f j x):=by
 induction i with
 |zero=>intro j x;simp [itn]
 |succ i ih=>intro j x;rw [Nat.succ_add];simp only [itn];rw [ih]
theorem B4 (f:Nat->Nat) (k x:Nat):itn f k (f x)=f (itn f k x):=by
 have h:=dL f k 1 x;rw [Nat.add_comm k 1,dL f 1 k x] at h;exact h.symm
structure aw (N:Nat) (f:Nat->Nat):Prop where
 lt: ∀x,x<N->f x<N
 inj: ∀x y,x<N->y<N->f x=f y->x=y
section
variable {N:Nat} {f:Nat->Nat}
theorem aw.bC (h:aw N f) {x:Nat} (hx:x<N): ∀k,itn f k x<N
 |0=>hx
 |k+1=>h.lt _ (h.bC hx k)
theorem aw.qN (h:aw N f) {x y:Nat} (hx:x<N) (hy:y<N): ∀k,itn f k x=itn f k y->x=y
 |0,e=>e
 |k+1,e=>h.qN hx hy k (h.inj _ _ (h.bC hx k) (h.bC hy k) e)
theorem y0k {l:List Nat} (hn:l.Nodup) (hl: ∀x∈l,x<N):l.length<=N:=by
 have: ∀(N:Nat) (l:List Nat),l.Nodup->(∀x∈l,x<N)->l.length<=N:=by
  intro N
  induction N with
  |zero=>intro l _ h;cases l with
   |nil=>simp
   |cons a l=>exact absurd (h a (by simp)) (by omega)
  |succ N ih=>
   intro l hn h;have h1:=ih (l.erase N) (hn.erase N) (fun x hx=>by
    have h2:=h x (List.mem_of_mem_erase hx);have h3:x≠N:=fun e=>by subst e;exact (List.Nodup.not_mem_erase hn) hx
    omega)
   have h4:=List.length_erase_le (a:=N) (l:=l);by_cases hm:N∈l
   ·have:=List.length_erase_of_mem hm;omega
   ·rw [List.erase_of_not_mem hm] at h1;omega
 exact this N l hn hl
theorem aw.back (h:aw N f) {x:Nat} (hx:x<N): ∃k,0<k/\itn f k x=x:=by
 apply zzT;intro eJ;have aA: ∀i j,i<j->itn f i x≠itn f j x:=fun i j kB e=>by
  refine eJ ⟨j-i,by omega,?_⟩;have e2:itn f i (itn f (j-i) x)=itn f i x:=by rw [<-dL,show i+(j-i)=j by omega];exact e.symm
  exact h.qN (h.bC hx _) hx i e2
 have hnd:((List.range (N+1)).map fun i=>itn f i x).Nodup:=by
  rw [List.Nodup,List.pairwise_map];refine List.Pairwise.imp_of_mem ?_ (List.pairwise_lt_range);intro i j _ _ kB;exact aA i j kB
 have:=y0k (N:=N) hnd (fun y hy=>by
  obtain ⟨i,_,rfl⟩:=List.mem_map.1 hy;exact h.bC hx i)
 simp at this;omega
def SC (f:Nat->Nat) (x y:Nat):Prop:= ∃k,itn f k x=y
theorem SC.refl (f:Nat->Nat) (x:Nat):SC f x x:=⟨0,rfl⟩
theorem SC.step (f:Nat->Nat) (x:Nat):SC f x (f x):=⟨1,rfl⟩
theorem SC.trans {x y z:Nat} (h:SC f x y) (k:SC f y z):SC f x z:=by
 obtain ⟨i,rfl⟩:=h;obtain ⟨j,rfl⟩:=k;exact ⟨j+i,dL f j i x⟩
theorem SC.symm (hp:aw N f) {x y:Nat} (hx:x<N) (h:SC f x y):SC f y x:=by
 obtain ⟨i,rfl⟩:=h;obtain ⟨p,rD,zk⟩:=hp.back hx;have hmul: ∀n,itn f (n*p) x=x:=fun n=>by
  induction n with
  |zero=>simp [itn]
  |succ n ih=>rw [Nat.succ_mul,dL,zk];exact ih
 refine ⟨(i+1)*p-i,?_⟩;rw [<-dL]
 have:i<=(i+1)*p:=by
  have:=Nat.mul_le_mul_left (i+1) rD;omega
 rw [show (i+1)*p-i+i=(i+1)*p by omega];exact hmul _
structure lW (N:Nat) (E:Nat->Nat->Prop):Prop where
 bW: ∀x,x<N->E x x
 symm: ∀x y,x<N->y<N->E x y->E y x
 trans: ∀x y z,x<N->y<N->z<N->E x y->E y z->E x z
theorem SC.eqv (hp:aw N f):lW N (SC f):=⟨fun x _=> .refl f x,fun _ _ hx _ h=>h.symm hp hx,fun _ _ _ _ _ _ h k=>h.trans k⟩
def jJ (E:Nat->Nat->Prop) (a b x y:Nat):Prop:=E x y\/(E x a/\E b y)\/(E x b/\E a y)
theorem jJ.eqv {E:Nat->Nat->Prop} (h:lW N E) {a b:Nat} (ha:a<N) (hb:b<N):lW N (jJ E a b):=by
 refine ⟨fun x hx=> .inl (h.bW x hx),fun x y hx hy e=>?_,fun x y z hx hy hz e e'=>?_⟩
 ·rcases e with e|⟨e1,e2⟩|⟨e1,e2⟩
  ·exact .inl (h.symm _ _ hx hy e)
  ·exact .inr (.inr ⟨h.symm _ _ hb hy e2,h.symm _ _ hx ha e1⟩)
  ·exact .inr (.inl ⟨h.symm _ _ ha hy e2,h.symm _ _ hx hb e1⟩)
 ·rcases e with e|⟨e1,e2⟩|⟨e1,e2⟩<;>rcases e' with e'|⟨e3,e4⟩|⟨e3,e4⟩
  ·exact .inl (h.trans _ _ _ hx hy hz e e')
  ·exact .inr (.inl ⟨h.trans _ _ _ hx hy ha e e3,e4⟩)
  ·exact .inr (.inr ⟨h.trans _ _ _ hx hy hb e e3,e4⟩)
  ·exact .inr (.inl ⟨e1,h.trans _ _ _ hb hy hz e2 e'⟩)
  ·exact .inr (.inl ⟨e1,e4⟩)
  ·exact .inl (h.trans _ _ _ hx ha hz e1 e4)
  ·exact .inr (.inr ⟨e1,h.trans _ _ _ ha hy hz e2 e'⟩)
  ·exact .inl (h.trans _ _ _ hx hb hz e1 e4)
  ·exact .inr (.inr ⟨e1,e4⟩)
def swp (f:Nat->Nat) (a b x:Nat):Nat:=if x=a then f b else if x=b then f a else f x
theorem zJ (f:Nat->Nat) (a b:Nat):swp (swp f a b) a b=f:=by
 funext x;unfold swp;by_cases h1:x=a
 ·subst h1;rw [zzJ rfl];by_cases h2:b=x
  ·subst h2;simp
  ·rw [zzI h2,zzJ rfl]
 ·rw [zzI h1];by_cases h2:x=b
  ·subst h2;rw [zzJ rfl,zzJ rfl]
  ·rw [zzI h2,zzI h1,zzI h2]
theorem vX (hp:aw N f) {a b:Nat} (ha:a<N) (hb:b<N):aw N (swp f a b):=by
 refine ⟨fun x hx=>?_,fun x y hx hy e=>?_⟩
 ·unfold swp;split
  ·exact hp.lt _ hb
  ·split
   ·exact hp.lt _ ha
   ·exact hp.lt _ hx
 ·unfold swp at e
  split at e<;>split at e<;>(try split at e)<;>(try split at e)<;>(have:=hp.inj _ _ (by assumption) (by assumption) e;omega)
theorem NB {a b x:Nat} (n:Nat) (h: ∀j,j<n->itn f j x≠a/\itn f j x≠b): ∀j,j<=n->itn (swp f a b) j x=itn f j x
 |0,_=>rfl
 |j+1,hj=>by
  simp only [itn];rw [NB n h j (by omega)]
  have:=h j (by omega)
  unfold swp;rw [zzI this.1,zzI this.2]
theorem y0l {x y:Nat} (h:SC f x y): ∃k,itn f k x=y/\ ∀j,j<k->itn f j x≠y:=by
 obtain ⟨k,hk⟩:=h
 induction k using Nat.strongRecOn with
 |ind k ih=>
  by_cases hj: ∃j,j<k/\itn f j x=y
  ·obtain ⟨j,h1,h2⟩:=hj;exact ih j h1 h2
  ·exact ⟨k,hk,fun j h1 h2=>hj ⟨j,h1,h2⟩⟩
theorem pt (hp:aw N f) {x:Nat} (hx:x<N): ∃k,0<k/\itn f k x=x/\ ∀j,0<j->j<k->itn f j x≠x:=by
 obtain ⟨k,h0,hk⟩:=hp.back hx
 induction k using Nat.strongRecOn with
 |ind k ih=>
  by_cases hj: ∃j,0<j/\j<k/\itn f j x=x
  ·obtain ⟨j,h1,h2,h3⟩:=hj;exact ih j h2 h1 h3
  ·exact ⟨k,h0,hk,fun j h1 h2 h3=>hj ⟨j,h1,h2,h3⟩⟩
theorem y0m (hp:aw N f) {a b:Nat} (hb:b<N) (eJ: ¬SC f a b):SC (swp f a b) a b:=by
 obtain ⟨k,h0,hk,hf⟩:=pt hp hb;obtain ⟨n,rfl⟩: ∃n,k=n+1:=⟨k-1,by omega⟩;have hs: ∀j,j<n->itn f j (f b)≠a/\itn f j (f b)≠b:=fun j hj=>by
  rw [B4];refine ⟨fun e=>eJ ?_,hf (j+1) (by omega) (by omega)⟩;exact (show SC f b a from ⟨j+1,e⟩).symm hp hb
 have h1:=NB (f:=f) (a:=a) (b:=b) n hs n (zzA _);refine ⟨n+1,?_⟩;have e:itn (swp f a b) (n+1) a=itn (swp f a b) n (swp f a b a):=by simp only [itn];rw [B4]
 rw [e,show swp f a b a=f b by unfold swp;rw [zzJ rfl],h1,B4];exact hk
theorem tc (hp:aw N f) {a b:Nat} (ha:a<N) (hb:b<N) (eJ: ¬SC f a b): ∀x y,x<N->y<N->(SC (swp f a b) x y↔jJ (SC f) a b x y):=by
 have l5:=vX hp ha hb;have mQ:=y0m hp hb eJ;have sG:SC (swp f a b) b a:=mQ.symm l5 ha;have hE:=SC.eqv hp;have hJ:=jJ.eqv hE ha hb;have xi: ∀x,SC (swp f a b) x (f x):=fun x=>by
  by_cases h1:x=a
  ·subst h1;refine mQ.trans ⟨1,?_⟩;show swp f x b b=f x;unfold swp;by_cases h2:b=x
   ·rw [zzJ h2,h2]
   ·rw [zzI h2,zzJ rfl]
  ·by_cases h2:x=b
   ·subst h2;refine sG.trans ⟨1,?_⟩;show swp f a x a=f x;unfold swp;rw [zzJ rfl]
   ·refine ⟨1,?_⟩;show swp f a b x=f x;unfold swp;rw [zzI h1,zzI h2]
 have GJ: ∀k x,SC (swp f a b) x (itn f k x):=fun k x=>by
  induction k with
  |zero=>exact .refl _ _
  |succ k ih=>exact ih.trans (xi _)
 have xg: ∀x y,SC f x y->SC (swp f a b) x y:=fun x y ⟨k,hk⟩=>hk▸GJ k x;intro x y hx hy;constructor
 ·rintro ⟨k,rfl⟩;clear hy
  induction k with
  |zero=>exact .inl (.refl _ _)
  |succ k ih=>
   have aD:=l5.bC hx k;refine hJ.trans _ _ _ hx aD (l5.lt _ aD) ih ?_;simp only [itn];generalize itn (swp f a b) k x=z;unfold swp
   split
   ·subst z;exact .inr (.inl ⟨.refl _ _, .step _ _⟩)
   ·split
    ·subst z;exact .inr (.inr ⟨.refl _ _, .step _ _⟩)
    ·exact .inl (.step _ _)
 ·rintro (h|⟨h1,h2⟩|⟨h1,h2⟩)
  ·exact xg _ _ h
  ·exact (xg _ _ h1).trans (mQ.trans (xg _ _ h2))
  ·exact (xg _ _ h1).trans (sG.trans (xg _ _ h2))
theorem zK (hp:aw N f) {a b:Nat} (ha:a<N) (mQ:a≠b) (hs:SC f a b): ¬SC (swp f a b) a b:=by
 obtain ⟨k,hk,hf⟩:=y0l (hs.symm hp ha);have xE:0<k:=by
  rcases Nat.eq_zero_or_pos k with h|h
  ·subst h;exact absurd hk.symm mQ
  ·exact h
 have wm: ∀j,0<j->j<=k->itn f j b≠b:=fun j h1 h2 e=>by
  have e2:itn f (k-j) b=a:=by
   have:itn f (k-j) (itn f j b)=a:=by rw [<-dL,show k-j+j=k by omega];exact hk
   rwa [e] at this
  exact hf (k-j) (by omega) e2
 obtain ⟨n,rfl⟩: ∃n,k=n+1:=⟨k-1,by omega⟩;have pM: ∀j,j<n->itn f j (f b)≠a/\itn f j (f b)≠b:=fun j hj=>by
  rw [B4];exact ⟨hf (j+1) (by omega),wm (j+1) (by omega) (by omega)⟩
 have h1:=NB (f:=f) (a:=a) (b:=b) n pM;have hsa:swp f a b a=f b:=by unfold swp;rw [zzJ rfl]
 have Ht: ∀j,j<=n->itn (swp f a b) (j+1) a=itn f (j+1) b:=fun j hj=>by
  have e:itn (swp f a b) (j+1) a=itn (swp f a b) j (swp f a b a):=by simp only [itn];rw [B4]
  rw [e,hsa,h1 j hj,B4];rfl
 have xR:itn (swp f a b) (n+1) a=a:=by rw [Ht n (zzA _)];exact hk
 have hmul: ∀q,itn (swp f a b) (q*(n+1)) a=a:=fun q=>by
  induction q with
  |zero=>simp [itn]
  |succ q ih=>rw [Nat.succ_mul,dL,xR];exact ih
 rintro ⟨i,hi⟩;have e:itn (swp f a b) (i %(n+1)) a=b:=by
  have:itn (swp f a b) (i %(n+1)+(i/(n+1))*(n+1)) a=b:=by
   rw [show i %(n+1)+i/(n+1)*(n+1)=i by rw [Nat.mul_comm];exact Nat.mod_add_div i (n+1)];exact hi
  rwa [dL,hmul] at this
 have aD:=Nat.mod_lt i (show n+1>0 by omega);rcases Nat.eq_zero_or_pos (i %(n+1)) with h|h
 ·rw [h] at e;exact mQ e
 ·obtain ⟨j,hj⟩: ∃j,i %(n+1)=j+1:=⟨i %(n+1)-1,by omega⟩;rw [hj,Ht j (by omega)] at e;exact wm (j+1) (by omega) (by omega) e
structure Tr (N:Nat) (U:Nat->Prop) (E:Nat->Nat->Prop) (l:List Nat):Prop where
 mem: ∀x∈l,x<N/\U x
 nodup:l.Nodup
 apart: ∀x∈l,∀y∈l,E x y->x=y
 all: ∀x,x<N->U x-> ∃y∈l,E x y
variable {U:Nat->Prop} {E E':Nat->Nat->Prop} {l l':List Nat}
theorem Cc {α β:Type} [DecidableEq β]: ∀(l:List α) (k:List β) (g:α->β),l.Nodup->(∀x∈l,g x∈k)->(∀x∈l,∀y∈l,g x=g y->x=y)->l.length<=k.length
 |[],k,g,_,_,_=>by simp
 |a::l,k,g,hn,hm,hi=>by
  have h1:=Cc l (k.erase (g a)) g (List.nodup_cons.1 hn).2 (fun x hx=>by
   have aA:g x≠g a:=fun e=>by
    have:=hi x (by simp [hx]) a (by simp) e
    subst this;exact (List.nodup_cons.1 hn).1 hx
   exact (List.mem_erase_of_ne aA).2 (hm x (by simp [hx]))) (fun x hx y hy=>hi x (by simp [hx]) y (by simp [hy]))
  have h2:=List.length_erase_of_mem (hm a (by simp));have h3:0<k.length:=List.length_pos_of_mem (hm a (by simp));simp only [zzG];omega
theorem Tr.le (hE:lW N E) (h:Tr N U E l) (h':Tr N U E l'):l.length<=l'.length:=by
 have hc: ∀x,∃y,x∈l->(y∈l'/\E x y):=fun x=>by
  by_cases hx:x∈l
  ·obtain ⟨y,h1,h2⟩:=h'.all x (h.mem x hx).1 (h.mem x hx).2;exact ⟨y,fun _=>⟨h1,h2⟩⟩
  ·exact ⟨0,fun h=>absurd h hx⟩
 obtain ⟨g,hg⟩:=Classical.axiomOfChoice hc;refine Cc l l' g h.nodup (fun x hx=>(hg x hx).1) fun x hx y hy e=>?_;have h1:=hg x hx;have h2:=hg y hy;rw [e] at h1;exact h.apart x hx y hy (hE.trans _ _ _ (h.mem x hx).1 (h'.mem _ h2.1).1 (h.mem y hy).1 h1.2 (hE.symm _ _ (h.mem y hy).1 (h'.mem _ h2.1).1 h2.2))
theorem Tr.bN (hE:lW N E) (h:Tr N U E l) (h':Tr N U E l'):l.length=l'.length:=Nat.le_antisymm (h.le hE h') (h'.le hE h)
theorem Tr.congr (h:Tr N U E l) (he: ∀x y,x<N->y<N->(E x y↔E' x y)):Tr N U E' l:=
 ⟨h.mem,h.nodup,fun x hx y hy e=>h.apart x hx y hy ((he x y (h.mem x hx).1 (h.mem y hy).1).2 e),fun x hx hU=>let ⟨y,h1,h2⟩:=h.all x hx hU;⟨y,h1,(he x y hx (h.mem y h1).1).1 h2⟩⟩
theorem Tr.exists (hE:lW N E) (U:Nat->Prop): ∃l,Tr N U E l:=by
 classical
 refine ⟨(List.range N).filter fun x=>decide (U x/\ ∀y,y<x->U y-> ¬E x y),?_,?_,?_,?_⟩
 ·intro x hx;have h:=List.mem_filter.1 hx;exact ⟨List.mem_range.1 h.1,(of_decide_eq_true h.2).1⟩
 ·exact List.nodup_range.filter _
 ·intro x hx y hy e;have h1:=List.mem_filter.1 hx;have h2:=List.mem_filter.1 hy;have k1:=of_decide_eq_true h1.2;have k2:=of_decide_eq_true h2.2;have l1:=List.mem_range.1 h1.1;have l2:=List.mem_range.1 h2.1;rcases Nat.lt_trichotomy x y with g|g|g
  ·exact absurd (hE.symm _ _ l1 l2 e) (k2.2 x g k1.1)
  ·exact g
  ·exact absurd e (k1.2 y g k2.1)
 ·intro x hx hU
  have: ∀n x,x<n->x<N->U x-> ∃y,y∈((List.range N).filter fun x=>decide (U x/\ ∀y,y<x->U y-> ¬E x y))/\E x y:=by
   intro n
   induction n with
   |zero=>intro x h;omega
   |succ n ih=>
    intro x hn hx hU;by_cases hl: ∃y,y<x/\U y/\E x y
    ·obtain ⟨y,h1,h2,h3⟩:=hl;obtain ⟨z,h4,h5⟩:=ih y (by omega) (by omega) h2;have hz:=List.mem_range.1 (List.mem_filter.1 h4).1;exact ⟨z,h4,hE.trans _ _ _ hx (by omega) hz h3 h5⟩
    ·exact ⟨x,List.mem_filter.2 ⟨List.mem_range.2 hx,decide_eq_true ⟨hU,fun y h1 h2 h3=>hl ⟨y,h1,h2,h3⟩⟩⟩,hE.bW x hx⟩
  exact this (x+1) x (by omega) hx hU
theorem Tr.join (hE:lW N E) (h:Tr N U E l) {a b:Nat} (ha:a<N) (hb:b<N) (xX:U a) (QD:U b) (eJ: ¬E a b) (h':Tr N U (jJ E a b) l'):l.length=l'.length+1:=by
 obtain ⟨x,hx,rG⟩:=h.all a ha xX;obtain ⟨y,hy,vG⟩:=h.all b hb QD;have lx:=(h.mem x hx).1;have ly:=(h.mem y hy).1;have vr:x≠y:=fun e=>by subst e;exact eJ (hE.trans _ _ _ ha lx hb rG (hE.symm _ _ hb lx vG))
 have key:Tr N U (jJ E a b) (l.erase y):=by
  refine ⟨fun z hz=>h.mem z (List.mem_of_mem_erase hz),h.nodup.erase y,fun z hz w hw e=>?_,fun z hz hU=>?_⟩
  ·have mz:=List.mem_of_mem_erase hz;have mw:=List.mem_of_mem_erase hw;have lz:=(h.mem z mz).1;have lw:=(h.mem w mw).1;have nz:z≠y:=fun e=>by subst e;exact List.Nodup.not_mem_erase h.nodup hz
   have nw:w≠y:=fun e=>by subst e;exact List.Nodup.not_mem_erase h.nodup hw
   rcases e with e|⟨e1,e2⟩|⟨e1,e2⟩
   ·exact h.apart z mz w mw e
   ·exact absurd (h.apart w mw y hy (hE.trans _ _ _ lw hb ly (hE.symm _ _ hb lw e2) vG)) nw
   ·exact absurd (h.apart z mz y hy (hE.trans _ _ _ lz hb ly e1 vG)) nz
  ·obtain ⟨w,hw,e⟩:=h.all z hz hU;by_cases X7:w=y
   ·subst X7;refine ⟨x,(List.mem_erase_of_ne vr).2 hx, .inr (.inr ⟨hE.trans _ _ _ hz ly hb e (hE.symm _ _ hb ly vG),rG⟩)⟩
   ·exact ⟨w,(List.mem_erase_of_ne X7).2 hw, .inl e⟩
 have e1:=key.bN (jJ.eqv hE ha hb) h';have e2:=List.length_erase_of_mem hy;have e3:0<l.length:=List.length_pos_of_mem hy;omega
theorem Tr.oT (hE:lW N E) (h:Tr N U E l) {a b:Nat} (hc: ∀x y,x<N->y<N->E x y->(U x↔U y)) (ha:a<N) (hb:b<N) (xX: ¬U a) (QD: ¬U b) (h':Tr N U (jJ E a b) l'):l.length=l'.length:=by
 have key:Tr N U (jJ E a b) l:=by
  refine ⟨h.mem,h.nodup,fun z hz w hw e=>?_,fun z hz hU=>?_⟩
  ·rcases e with e|⟨e1,e2⟩|⟨e1,e2⟩
   ·exact h.apart z hz w hw e
   ·exact absurd ((hc _ _ (h.mem z hz).1 ha e1).1 (h.mem z hz).2) xX
   ·exact absurd ((hc _ _ (h.mem z hz).1 hb e1).1 (h.mem z hz).2) QD
  ·obtain ⟨w,hw,e⟩:=h.all z hz hU;exact ⟨w,hw, .inl e⟩
 exact key.bN (jJ.eqv hE ha hb) h'
theorem UD (hE:lW N E) {a b:Nat} (ha:a<N) (hb:b<N) (mQ:E a b): ∀x y,x<N->y<N->(jJ E a b x y↔E x y):=fun x y hx hy=>by
 constructor
 ·rintro (e|⟨e1,e2⟩|⟨e1,e2⟩)
  ·exact e
  ·exact hE.trans _ _ _ hx ha hy e1 (hE.trans _ _ _ ha hb hy mQ e2)
  ·exact hE.trans _ _ _ hx hb hy e1 (hE.trans _ _ _ hb ha hy (hE.symm _ _ ha hb mQ) e2)
 ·exact .inl
end
end Sp
namespace Sp
open Classical
theorem wO {N:Nat} {f g:Nat->Nat} (hf:aw N f) (h: ∀x,x<N->f x=g x) {x y:Nat} (hx:x<N):SC f x y↔SC g x y:=by
 have: ∀k,itn f k x=itn g k x:=fun k=>by
  induction k with
  |zero=>rfl
  |succ k ih=>simp only [itn];rw [<-ih];exact h _ (hf.bC hx k)
 constructor
 ·rintro ⟨k,rfl⟩;exact ⟨k,(this k).symm⟩
 ·rintro ⟨k,rfl⟩;exact ⟨k,this k⟩
theorem aw.congr {N:Nat} {f g:Nat->Nat} (hf:aw N f) (h: ∀x,x<N->f x=g x):aw N g:=
 ⟨fun x hx=>by rw [<-h x hx];exact hf.lt x hx,fun x y hx hy e=>hf.inj x y hx hy (by rw [h x hx,h y hy];exact e)⟩
structure mX (N:Nat) (al:Nat->Nat):Prop where
 lt: ∀x,x<N->al x<N
 inv: ∀x,x<N->al (al x)=x
 ne: ∀x,x<N->al x≠x
def Dn (al:Nat->Nat) (k x:Nat):Nat:=if min x (al x)<k then al x else x
def bB (si al:Nat->Nat) (k x:Nat):Nat:=si (Dn al k x)
def KK (si al:Nat->Nat):Nat->Nat->Nat->Prop
 |0=>SC si
 |k+1=>if k<al k then jJ (KK si al k) k (al k) else KK si al k
section
variable {N:Nat} {si al:Nat->Nat} {U:Nat->Prop}
theorem TL (ha:mX N al) {k:Nat} (hk:k<N) (h:k<al k): ∀x,x<N->swp (bB si al k) k (al k) x=bB si al (k+1) x:=fun x hx=>by
 have hi:=ha.inv k hk;unfold swp bB Dn;by_cases h1:x=k
 ·subst h1;rw [zzJ rfl,hi];rw [zzI (by omega),zzJ (by omega)]
 ·rw [zzI h1];by_cases h2:x=al k
  ·subst h2;rw [zzJ rfl,hi,zzI (by omega),zzJ (by omega)]
  ·rw [zzI h2];have h3:al x≠k:=fun e=>h2 (by rw [<-e];exact (ha.inv x hx).symm);by_cases h4:min x (al x)<k
   ·rw [zzJ h4,zzJ (by omega)]
   ·rw [zzI h4,zzI (by omega)]
theorem TJ (ha:mX N al) {k:Nat} (hk:k<N) (h: ¬k<al k): ∀x,x<N->bB si al k x=bB si al (k+1) x:=fun x hx=>by
 unfold bB Dn;have aA:=ha.ne k hk;by_cases h4:min x (al x)<k
 ·rw [zzJ h4,zzJ (by omega)]
 ·rw [zzI h4];have h5: ¬min x (al x)<k+1:=fun h6=>by
   have h7:min x (al x)=k:=by omega
   by_cases h8:x<=al x
   ·have:x=k:=by omega
    subst this;omega
   ·have h9:al x=k:=by omega
    have:x=al k:=by rw [<-h9];exact (ha.inv x hx).symm
    omega
  rw [zzI h5]
theorem rA (hs:aw N si) (ha:mX N al): ∀k,k<=N->aw N (bB si al k)
 |0,_=>hs.congr fun x _=>by unfold bB Dn;rw [zzI (by omega)]
 |k+1,hk=>by
  have ih:=rA hs ha k (by omega);by_cases h:k<al k
  ·exact (vX ih (show k<N by omega) (ha.lt k (by omega))).congr (TL ha (by omega) h)
  ·exact ih.congr (TJ ha (by omega) h)
theorem E4 (hs:aw N si) (ha:mX N al): ∀k,k<=N->lW N (KK si al k)
 |0,_=>SC.eqv hs
 |k+1,hk=>by
  have ih:=E4 hs ha k (by omega);unfold KK
  split
  ·exact jJ.eqv ih (by omega) (ha.lt k (by omega))
  ·exact ih
theorem LQ {f:Nat->Nat} {E:Nat->Nat->Prop} (hf:aw N f) (hE:lW N E) (h: ∀x,x<N->E x (f x)) {x y:Nat} (hx:x<N) (hs:SC f x y):E x y:=by
 obtain ⟨k,rfl⟩:=hs
 induction k with
 |zero=>exact hE.bW x hx
 |succ k ih=>exact hE.trans _ _ _ hx (hf.bC hx k) (hf.lt _ (hf.bC hx k)) ih (h _ (hf.bC hx k))
theorem IP (hs:aw N si) (ha:mX N al): ∀k,k<=N-> ∀x,x<N->KK si al k x (si x)
 |0,_,x,_=>SC.step _ _
 |k+1,hk,x,hx=>by
  have ih:=IP hs ha k (by omega) x hx;unfold KK;split
  ·exact .inl ih
  ·exact ih
theorem Lu (hs:aw N si) (ha:mX N al): ∀k,k<=N-> ∀x,x<N->min x (al x)<k->KK si al k x (al x)
 |0,_,x,_,h=>by omega
 |k+1,hk,x,hx,h=>by
  by_cases h1:min x (al x)<k
  ·have ih:=Lu hs ha k (by omega) x hx h1;unfold KK;split
   ·exact .inl ih
   ·exact ih
  ·have hE:=E4 hs ha k (by omega);have bH:=ha.lt x hx;have hi:=ha.inv x hx;have aA:=ha.ne x hx;have h2:min x (al x)=k:=by omega
   unfold KK;by_cases h3:x<al x
   ·have:x=k:=by omega
    subst this;rw [zzJ h3];exact .inr (.inl ⟨hE.bW _ hx,hE.bW _ bH⟩)
   ·have h4:al x=k:=by omega
    have h5:al k=x:=by rw [<-h4];exact hi
    rw [zzJ (by omega)];refine .inr (.inr ⟨?_,?_⟩)
    ·rw [h5];exact hE.bW _ hx
    ·rw [h4];exact hE.bW _ (by omega)
theorem MW (hs:aw N si) (ha:mX N al) {R:Nat->Nat->Prop} (hR:lW N R) (h1: ∀x,x<N->R x (si x)) (h2: ∀x,x<N->R x (al x)): ∀k,k<=N-> ∀x y,x<N->y<N->KK si al k x y->R x y
 |0,_,x,y,hx,_,h=>LQ hs hR h1 hx h
 |k+1,hk,x,y,hx,hy,h=>by
  have ih:=MW hs ha hR h1 h2 k (by omega);have kX:k<N:=by omega
  have bH:=ha.lt k kX;unfold KK at h
  split at h
  ·rcases h with h|⟨e1,e2⟩|⟨e1,e2⟩
   ·exact ih x y hx hy h
   ·exact hR.trans _ _ _ hx kX hy (ih _ _ hx kX e1) (hR.trans _ _ _ kX bH hy (h2 k kX) (ih _ _ bH hy e2))
   ·exact hR.trans _ _ _ hx bH hy (ih _ _ hx bH e1) (hR.trans _ _ _ bH kX hy (hR.symm _ _ kX bH (h2 k kX)) (ih _ _ kX hy e2))
  ·exact ih x y hx hy h
theorem I8 (hs:aw N si) (ha:mX N al) {k:Nat} (hk:k<=N) {x y:Nat} (hx:x<N) (h:SC (bB si al k) x y):KK si al k x y:=by
 have hE:=E4 hs ha k hk;refine LQ (rA hs ha k hk) hE (fun x hx=>?_) hx h;have bH:=ha.lt x hx;unfold bB Dn
 split
 ·exact hE.trans _ _ _ hx bH (hs.lt _ bH) (Lu hs ha k hk x hx (by assumption)) (IP hs ha k hk _ bH)
 ·exact IP hs ha k hk x hx
noncomputable def eU (al:Nat->Nat) (U:Nat->Prop) (k:Nat):Nat:=(List.range k).countP fun h=>decide (U h/\h<al h)
theorem JF (al:Nat->Nat) (U:Nat->Prop) (k:Nat):eU al U (k+1)=eU al U k+if U k/\k<al k then 1 else 0:=by
 unfold eU;rw [List.range_succ,List.countP_append];by_cases h:U k/\k<al k
 ·simp [h]
 ·simp [h]
theorem Dr (hs:aw N si) (ha:mX N al) (h1: ∀x,x<N->(U x↔U (si x))) (h2: ∀x,x<N->(U x↔U (al x))) {k:Nat} (hk:k<=N) {x y:Nat} (hx:x<N) (hy:y<N) (h:KK si al k x y):U x↔U y:=
 MW (R:=fun x y=>U x↔U y) hs ha ⟨fun _ _=>Iff.rfl,fun _ _ _ _ h=>h.symm,fun _ _ _ _ _ _ h k=>h.trans k⟩ h1 h2 k hk x y hx hy h
theorem VX (hs:aw N si) (ha:mX N al) (h1: ∀x,x<N->(U x↔U (si x))) (h2: ∀x,x<N->(U x↔U (al x))): ∀k,k<=N-> ∀lV lF lK,Tr N U (SC si) lV->Tr N U (SC (bB si al k)) lF->Tr N U (KK si al k) lK->
  lV.length+lF.length<=2*lK.length+eU al U k
 |0,_,lV,lF,lK,hV,hF,hK=>by
  have e1:=hV.bN (SC.eqv hs) hK;have e2:=hV.bN (SC.eqv hs) (hF.congr (E':=SC si) (fun x y hx _=>(wO hs (g:=bB si al 0) (fun x _=>by unfold bB Dn;rw [zzI (by omega)]) hx).symm));omega
 |k+1,hk,lV,lF,lK,hV,hF,hK=>by
  have kX:k<N:=by omega
  have bH:=ha.lt k kX;have hE:=E4 hs ha k (by omega);have hP:=rA hs ha k (by omega);have KY:=SC.eqv hP;obtain ⟨Kz,EK⟩:=Tr.exists KY U;obtain ⟨lK0,HH⟩:=Tr.exists hE U;have ih:=VX hs ha h1 h2 k (by omega) lV Kz lK0 hV EK HH;rw [JF];by_cases aD:k<al k
  ·have aZ:=TL (si:=si) ha kX aD;have pL:=vX hP kX bH;have uN:Tr N U (SC (swp (bB si al k) k (al k))) lF:=hF.congr fun x y hx _=>(wO pL aZ hx).symm;have HG:Tr N U (jJ (KK si al k) k (al k)) lK:=by unfold KK at hK;rw [zzJ aD] at hK;exact hK
   by_cases hU:U k
   ·have xX:=(h2 k kX).1 hU;rw [zzJ ⟨hU,aD⟩];have QJ:lF.length<=Kz.length+1/\(¬SC (bB si al k) k (al k)->Kz.length=lF.length+1):=by
     by_cases jR:SC (bB si al k) k (al k)
     ·refine ⟨?_,fun h=>absurd jR h⟩;have eJ:=zK hP kX (by omega) jR;have hj:=tc pL kX bH eJ;rw [zJ] at hj
      have:=uN.join (SC.eqv pL) kX bH hU xX eJ (EK.congr hj)
      omega
     ·have:=EK.join KY kX bH hU xX jR (uN.congr (tc hP kX bH jR))
      exact ⟨by omega,fun _=>this⟩
    by_cases hke:KK si al k k (al k)
    ·have:=HH.bN hE (HG.congr (UD hE kX bH hke))
     omega
    ·have e1:=HH.join hE kX bH hU xX hke HG;have e2:=QJ.2 (fun jR=>hke (I8 hs ha (by omega) kX jR));omega
   ·have xX: ¬U (al k):=fun h=>hU ((h2 k kX).2 h);rw [zzI (fun h=>hU h.1)];have hcK: ∀x y,x<N->y<N->KK si al k x y->(U x↔U y):=fun x y hx hy h=>Dr hs ha h1 h2 (by omega) hx hy h;have e1:=HH.oT hE hcK kX bH hU xX HG;have e2:Kz.length=lF.length:=by
     by_cases jR:SC (bB si al k) k (al k)
     ·have eJ:=zK hP kX (by omega) jR;have hj:=tc pL kX bH eJ;rw [zJ] at hj;refine (uN.oT (SC.eqv pL) (fun x y hx hy h=>?_) kX bH hU xX (EK.congr hj)).symm;have h3:SC (bB si al (k+1)) x y:=(wO pL aZ hx).1 h;exact Dr hs ha h1 h2 hk hx hy (I8 hs ha hk hx h3)
     ·exact EK.oT KY (fun x y hx hy h=>Dr hs ha h1 h2 (by omega) hx hy (I8 hs ha (by omega) hx h)) kX bH hU xX (uN.congr (tc hP kX bH jR))
    omega
  ·rw [zzI (fun h=>aD h.2)];have HG:Tr N U (KK si al k) lK:=by unfold KK at hK;rw [zzI aD] at hK;exact hK
   have e1:=HH.bN hE HG;have e2:=EK.bN KY (hF.congr fun x y hx _=>(wO hP (TJ ha kX aD) hx).symm);omega
end
end Sp
namespace Sp
open Classical
section
variable {N:Nat} {si al:Nat->Nat} {U W:Nat->Prop} {E E':Nat->Nat->Prop} {l l':List Nat}
theorem Tr.ct (h:Tr N U E l) (hU: ∀x,x<N->(U x↔W x)) (he: ∀x y,x<N->y<N->U x->U y->(E x y↔E' x y)):Tr N W E' l:=
 ⟨fun x hx=>⟨(h.mem x hx).1,(hU x (h.mem x hx).1).1 (h.mem x hx).2⟩,h.nodup,fun x hx y hy e=>h.apart x hx y hy ((he x y (h.mem x hx).1 (h.mem y hy).1 (h.mem x hx).2 (h.mem y hy).2).2 e),fun x hx hW=>by
  have YU:=(hU x hx).2 hW;obtain ⟨y,h1,h2⟩:=h.all x hx YU;exact ⟨y,h1,(he x y hx (h.mem y h1).1 YU (h.mem y h1).2).1 h2⟩⟩
theorem Tr.append (h:Tr N U E l) (h':Tr N W E l') (eJ: ∀x y,x<N->y<N->U x->W y-> ¬E x y/\ ¬E y x) (aA: ∀x,x<N->U x-> ¬W x):Tr N (fun x=>U x\/W x) E (l++l'):=by
 refine ⟨fun x hx=>?_,?_,fun x hx y hy e=>?_,fun x hx hU=>?_⟩
 ·rcases List.mem_append.1 hx with g|g
  ·exact ⟨(h.mem x g).1, .inl (h.mem x g).2⟩
  ·exact ⟨(h'.mem x g).1, .inr (h'.mem x g).2⟩
 ·refine List.nodup_append.2 ⟨h.nodup,h'.nodup,fun x hx y hy e=>?_⟩;subst e;exact aA x (h.mem x hx).1 (h.mem x hx).2 (h'.mem x hy).2
 ·rcases List.mem_append.1 hx with g|g<;>rcases List.mem_append.1 hy with k|k
  ·exact h.apart x g y k e
  ·exact absurd e (eJ x y (h.mem x g).1 (h'.mem y k).1 (h.mem x g).2 (h'.mem y k).2).1
  ·exact absurd e (eJ y x (h.mem y k).1 (h'.mem x g).1 (h.mem y k).2 (h'.mem x g).2).2
  ·exact h'.apart x g y k e
 ·rcases hU with g|g
  ·obtain ⟨y,h1,h2⟩:=h.all x hx g;exact ⟨y,List.mem_append_left _ h1,h2⟩
  ·obtain ⟨y,h1,h2⟩:=h'.all x hx g;exact ⟨y,List.mem_append_right _ h1,h2⟩
theorem A9 {al':Nat->Nat} {k:Nat} (h: ∀x,x<k->((U x/\x<al x)↔(W x/\x<al' x))):eU al U k=eU al' W k:=by
 unfold eU;refine List.countP_congr fun x hx=>?_;simp only [decide_eq_true_eq];exact h x (List.mem_range.1 hx)
theorem H4 {k:Nat} (h: ∀x,x<k->U x-> ¬W x):eU al (fun x=>U x\/W x) k=eU al U k+eU al W k:=by
 induction k with
 |zero=>simp [eU]
 |succ k ih=>
  rw [JF,JF,JF,ih (fun x hx=>h x (by omega))]
  have:=h k (by omega)
  by_cases h1:U k<;>by_cases h2:W k<;>by_cases h3:k<al k<;>simp [h1,h2,h3]<;>first|omega|exact absurd h2 (this h1)
end
structure fq (N:Nat) (si al:Nat->Nat):Prop where
 perm:aw N si
 e7:mX N al
 eq: ∀r,r<N-> ∀lV lF,Tr N (KK si al N r) (SC si) lV->Tr N (KK si al N r) (SC (bB si al N)) lF->lV.length+lF.length=2+eU al (KK si al N r) N
section
variable {N:Nat} {si al:Nat->Nat}
theorem cD (ha:mX N al) {x:Nat} (hx:x<N):bB si al N x=si (al x):=by
 unfold bB Dn;rw [zzJ (by omega)]
theorem dD (hs:aw N si) (ha:mX N al):lW N (KK si al N):=E4 hs ha N (zzA _)
theorem iu (hs:aw N si) (ha:mX N al) {x:Nat} (hx:x<N):KK si al N x (si x):=IP hs ha N (zzA _) x hx
theorem dI (hs:aw N si) (ha:mX N al) {x:Nat} (hx:x<N):KK si al N x (al x):=Lu hs ha N (zzA _) x hx (by omega)
theorem ri (hs:aw N si) (ha:mX N al) {x y:Nat} (hx:x<N) (h:SC si x y):KK si al N x y:=LQ hs (dD hs ha) (fun _ hx=>iu hs ha hx) hx h
theorem tX (hs:aw N si) (ha:mX N al) {x y:Nat} (hx:x<N) (h:SC (bB si al N) x y):KK si al N x y:=I8 hs ha (zzA _) hx h
theorem bU (hs:aw N si) (ha:mX N al) {R:Nat->Nat->Prop} (hR:lW N R) (h1: ∀x,x<N->R x (si x)) (h2: ∀x,x<N->R x (al x)) {x y:Nat} (hx:x<N) (hy:y<N) (h:KK si al N x y):R x y:=MW hs ha hR h1 h2 N (zzA _) x y hx hy h
theorem iG (hs:aw N si) (ha:mX N al) {r:Nat} (hr:r<N):(∀x,x<N->(KK si al N r x↔KK si al N r (si x)))/\(∀x,x<N->(KK si al N r x↔KK si al N r (al x))):=by
 have hE:=dD hs ha;refine ⟨fun x hx=>?_,fun x hx=>?_⟩
 ·have h1:=iu hs ha hx;have h2:=hs.lt x hx;exact ⟨fun h=>hE.trans _ _ _ hr hx h2 h h1,fun h=>hE.trans _ _ _ hr h2 hx h (hE.symm _ _ hx h2 h1)⟩
 ·have h1:=dI hs ha hx;have h2:=ha.lt x hx;exact ⟨fun h=>hE.trans _ _ _ hr hx h2 h h1,fun h=>hE.trans _ _ _ hr h2 hx h (hE.symm _ _ hx h2 h1)⟩
theorem E3 (hs:aw N si) (ha:mX N al) {r:Nat} (hr:r<N) {lV lF:List Nat} (hV:Tr N (KK si al N r) (SC si) lV) (hF:Tr N (KK si al N r) (SC (bB si al N)) lF):lV.length+lF.length<=2+eU al (KK si al N r) N:=by
 have hE:=dD hs ha;have hK:Tr N (KK si al N r) (KK si al N) [r]:=by
  refine ⟨fun x hx=>?_,by simp,fun x hx y hy _=>?_,fun x hx h=>⟨r,by simp,hE.symm _ _ hr hx h⟩⟩
  ·simp at hx;subst hx;exact ⟨hr,hE.bW _ hr⟩
  ·simp at hx hy;rw [hx,hy]
 have:=VX hs ha (iG hs ha hr).1 (iG hs ha hr).2 N (zzA _) lV lF [r] hV hF hK
 simpa using this
theorem fq.split (h:fq N si al) {p q:Nat} (hp:p<N) (hq:q<N) (pN:p≠q) (jR:SC si p q):fq N (swp si p q) al:=by
 have hs:=h.perm;have ha:=h.e7;have bJ:=vX hs hp hq;have hE:=dD hs ha;have bK:=dD bJ ha;have CJ:=zK hs hp pN jR;have GM:=tc bJ hp hq CJ;rw [zJ] at GM;have ji:=ha.lt p hp;have qB:=ha.lt q hq;have jL:=rA hs ha N (zzA _);have jE:=rA bJ ha N (zzA _);have vz: ∀x,x<N->swp (bB si al N) (al p) (al q) x=bB (swp si p q) al N x:=fun x hx=>by
  rw [cD ha hx];unfold swp;have i1:=ha.inv x hx;by_cases h1:x=al p
  ·subst h1;rw [zzJ rfl,ha.inv p hp,zzJ rfl,cD ha qB,ha.inv q hq]
  ·rw [zzI h1];have n1:al x≠p:=fun e=>h1 (by rw [<-e,i1]);by_cases h2:x=al q
   ·subst h2;rw [zzJ rfl,ha.inv q hq,zzI (Ne.symm pN),zzJ rfl,cD ha ji,ha.inv p hp]
   ·rw [zzI h2];have n2:al x≠q:=fun e=>h2 (by rw [<-e,i1]);rw [zzI n1,zzI n2,cD ha hx]
 have KX:al p≠al q:=fun e=>pN (by rw [<-ha.inv p hp,<-ha.inv q hq,e]);have ot:KK si al N p q:=ri hs ha hp jR;have Af: ∀x,x<N->(x≠p/\x≠q/\swp si p q x=si x)\/(x=p/\swp si p q x=si q)\/(x=q/\swp si p q x=si p):=fun x _=>by
  unfold swp;by_cases h1:x=p
  ·exact .inr (.inl ⟨h1,by rw [zzJ h1]⟩)
  ·by_cases h2:x=q
   ·exact .inr (.inr ⟨h2,by rw [zzI h1,zzJ h2]⟩)
   ·exact .inl ⟨h1,h2,by rw [zzI h1,zzI h2]⟩
 have aN: ∀x y,x<N->y<N->KK (swp si p q) al N x y->KK si al N x y:=fun x y hx hy hk=>by
  refine bU bJ ha hE (fun x hx=>?_) (fun x hx=>dI hs ha hx) hx hy hk;rcases Af x hx with ⟨_,_,e⟩|⟨rfl,e⟩|⟨rfl,e⟩
  ·rw [e];exact iu hs ha hx
  ·rw [e];exact hE.trans _ _ _ hx hq (hs.lt _ hq) ot (iu hs ha hq)
  ·rw [e];exact hE.trans _ _ _ hx hp (hs.lt _ hp) (hE.symm _ _ hp hx ot) (iu hs ha hp)
 have EJ: ∀x y,x<N->y<N->(KK si al N x y↔jJ (KK (swp si p q) al N) p q x y):=fun x y hx hy=>by
  constructor
  ·intro hk;refine bU hs ha (jJ.eqv bK hp hq) (fun x hx=>?_) (fun x hx=> .inl (dI bJ ha hx)) hx hy hk;rcases Af x hx with ⟨_,_,e⟩|⟨rfl,_⟩|⟨rfl,_⟩
   ·rw [<-e];exact .inl (iu bJ ha hx)
   ·refine .inr (.inl ⟨bK.bW _ hx,?_⟩)
    have:=iu bJ ha hq
    rwa [show swp si x q q=si x by unfold swp;rw [zzI (Ne.symm pN),zzJ rfl]] at this
   ·refine .inr (.inr ⟨bK.bW _ hx,?_⟩)
    have:=iu bJ ha hp
    rwa [show swp si p x p=si x by unfold swp;rw [zzJ rfl]] at this
  ·rintro (e|⟨e1,e2⟩|⟨e1,e2⟩)
   ·exact aN x y hx hy e
   ·exact hE.trans _ _ _ hx hp hy (aN _ _ hx hp e1) (hE.trans _ _ _ hp hq hy ot (aN _ _ hq hy e2))
   ·exact hE.trans _ _ _ hx hq hy (aN _ _ hx hq e1) (hE.trans _ _ _ hq hp hy (hE.symm _ _ hp hq ot) (aN _ _ hp hy e2))
 obtain ⟨lV,hV⟩:=Tr.exists (SC.eqv hs) (KK si al N p);obtain ⟨lF,hF⟩:=Tr.exists (SC.eqv jL) (KK si al N p);have heq:=h.eq p hp lV lF hV hF;obtain ⟨Gt,qY⟩:=Tr.exists (SC.eqv bJ) (KK si al N p);obtain ⟨CA,Ay⟩:=Tr.exists (SC.eqv jE) (KK si al N p);have QC:KK si al N p p:=hE.bW _ hp;have hv1:Gt.length=lV.length+1:=qY.join (SC.eqv bJ) hp hq QC ot CJ (hV.congr GM)
 have xW:KK si al N p (al p):=dI hs ha hp;have xU:KK si al N p (al q):=hE.trans _ _ _ hp hq qB ot (dI hs ha hq);have od:=vX jL ji qB;have uN:Tr N (KK si al N p) (SC (swp (bB si al N) (al p) (al q))) CA:=Ay.congr fun x y hx _=>(wO od vz hx).symm;have Qh: ¬SC (bB (swp si p q) al N) (al p) (al q)->CA.length=lF.length+1:=fun eJ=>by
  have xv: ¬SC (swp (bB si al N) (al p) (al q)) (al p) (al q):=fun e=>eJ ((wO od vz ji).1 e);have hj:=tc od ji qB xv;rw [zJ] at hj;exact uN.join (SC.eqv od) ji qB xW xU xv (hF.congr hj)
 have hfle:lF.length<=CA.length+1:=by
  by_cases xp:SC (bB si al N) (al p) (al q)
  ·have eJ:=zK jL ji KX xp;have hj:=tc od ji qB eJ;rw [zJ] at hj
   have:=uN.join (SC.eqv od) ji qB xW xU eJ (hF.congr hj)
   omega
  ·have:=hF.join (SC.eqv jL) ji qB xW xU xp (uN.congr (tc jL ji qB xp))
   omega
 refine ⟨bJ,ha,fun r hr kV kF oJ nB=>?_⟩;by_cases hrp:KK si al N p r
 ·by_cases dW:KK (swp si p q) al N p q
  ·--nothing is parted
   have hKK: ∀x y,x<N->y<N->(KK si al N x y↔KK (swp si p q) al N x y):=fun x y hx hy=>(EJ x y hx hy).trans (UD bK hp hq dW x y hx hy);have bF: ∀x,x<N->(KK si al N p x↔KK (swp si p q) al N r x):=fun x hx=>by
    rw [<-hKK r x hr hx];exact ⟨fun e=>hE.trans _ _ _ hr hp hx (hE.symm _ _ hp hr hrp) e,fun e=>hE.trans _ _ _ hp hr hx hrp e⟩
   have e1:=(qY.ct bF (E':=SC (swp si p q)) (fun _ _ _ _ _ _=>Iff.rfl)).bN (SC.eqv bJ) oJ;have e2:=(Ay.ct bF (E':=SC (bB (swp si p q) al N)) (fun _ _ _ _ _ _=>Iff.rfl)).bN (SC.eqv jE) nB;have e3:eU al (KK si al N p) N=eU al (KK (swp si p q) al N r) N:=A9 fun x hx=>by rw [bF x hx]
   have e4:=E3 bJ ha hr oJ nB;omega
  ·--the class is parted
   have PR: ¬SC (bB (swp si p q) al N) (al p) (al q):=fun e=>dW (by
    have h1:=tX bJ ha ji e;exact bK.trans _ _ _ hp ji hq (dI bJ ha hp) (bK.trans _ _ _ ji qB hq h1 (bK.symm _ _ hq qB (dI bJ ha hq))))
   have YK:=Qh PR;obtain ⟨pV,PO⟩:=Tr.exists (SC.eqv bJ) (KK (swp si p q) al N p);obtain ⟨pF,PQ⟩:=Tr.exists (SC.eqv jE) (KK (swp si p q) al N p);obtain ⟨qV,PI⟩:=Tr.exists (SC.eqv bJ) (KK (swp si p q) al N q);obtain ⟨qF,PJ⟩:=Tr.exists (SC.eqv jE) (KK (swp si p q) al N q)
   have lg: ∀x,x<N->KK (swp si p q) al N p x-> ¬KK (swp si p q) al N q x:=fun x hx e1 e2=>dW (bK.trans _ _ _ hp hx hq e1 (bK.symm _ _ hq hx e2));have iD: ∀x,x<N->((KK (swp si p q) al N p x\/KK (swp si p q) al N q x)↔KK si al N p x):=fun x hx=>by
    rw [EJ p x hp hx];constructor
    ·rintro (e|e)
     ·exact .inl e
     ·exact .inr (.inl ⟨bK.bW _ hp,e⟩)
    ·rintro (e|⟨_,e⟩|⟨e,_⟩)
     ·exact .inl e
     ·exact .inr e
     ·exact absurd e dW
   have CU: ∀x y,x<N->y<N->KK (swp si p q) al N p x->KK (swp si p q) al N q y-> ¬SC (swp si p q) x y/\ ¬SC (swp si p q) y x:=fun x y hx hy e1 e2=>
    ⟨fun e=>lg y hy (bK.trans _ _ _ hp hx hy e1 (ri bJ ha hx e)) e2,fun e=>lg x hx e1 (bK.trans _ _ _ hq hy hx e2 (ri bJ ha hy e))⟩
   have CV: ∀x y,x<N->y<N->KK (swp si p q) al N p x->KK (swp si p q) al N q y-> ¬SC (bB (swp si p q) al N) x y/\ ¬SC (bB (swp si p q) al N) y x:=fun x y hx hy e1 e2=>
    ⟨fun e=>lg y hy (bK.trans _ _ _ hp hx hy e1 (tX bJ ha hx e)) e2,fun e=>lg x hx e1 (bK.trans _ _ _ hq hy hx e2 (tX bJ ha hy e))⟩
   have eV:=((PO.append PI CU lg).ct iD (E':=SC (swp si p q)) (fun _ _ _ _ _ _=>Iff.rfl)).bN (SC.eqv bJ) qY;have eF:=((PQ.append PJ CV lg).ct iD (E':=SC (bB (swp si p q) al N)) (fun _ _ _ _ _ _=>Iff.rfl)).bN (SC.eqv jE) Ay;rw [zzF] at eV eF;have eE:eU al (KK si al N p) N=eU al (KK (swp si p q) al N p) N+eU al (KK (swp si p q) al N q) N:=by
    rw [<-H4 (fun x hx e=>lg x hx e)];exact A9 fun x hx=>by rw [iD x hx]
   have ip:=E3 bJ ha hp PO PQ;have iq:=E3 bJ ha hq PI PJ;have nS:=(iD r hr).2 hrp;rcases nS with nS|nS
   ·have bF: ∀x,x<N->(KK (swp si p q) al N p x↔KK (swp si p q) al N r x):=fun x hx=>⟨fun e=>bK.trans _ _ _ hr hp hx (bK.symm _ _ hp hr nS) e,fun e=>bK.trans _ _ _ hp hr hx nS e⟩;have e1:=(PO.ct bF (E':=SC (swp si p q)) (fun _ _ _ _ _ _=>Iff.rfl)).bN (SC.eqv bJ) oJ;have e2:=(PQ.ct bF (E':=SC (bB (swp si p q) al N)) (fun _ _ _ _ _ _=>Iff.rfl)).bN (SC.eqv jE) nB
    have e3:eU al (KK (swp si p q) al N p) N=eU al (KK (swp si p q) al N r) N:=A9 fun x hx=>by rw [bF x hx]
    omega
   ·have bF: ∀x,x<N->(KK (swp si p q) al N q x↔KK (swp si p q) al N r x):=fun x hx=>⟨fun e=>bK.trans _ _ _ hr hq hx (bK.symm _ _ hq hr nS) e,fun e=>bK.trans _ _ _ hq hr hx nS e⟩;have e1:=(PI.ct bF (E':=SC (swp si p q)) (fun _ _ _ _ _ _=>Iff.rfl)).bN (SC.eqv bJ) oJ;have e2:=(PJ.ct bF (E':=SC (bB (swp si p q) al N)) (fun _ _ _ _ _ _=>Iff.rfl)).bN (SC.eqv jE) nB
    have e3:eU al (KK (swp si p q) al N q) N=eU al (KK (swp si p q) al N r) N:=A9 fun x hx=>by rw [bF x hx]
    omega
 ·--another component:as it was
  have KO: ∀x,x<N->KK si al N r x->x≠p/\x≠q:=fun x hx e=>⟨fun g=>by subst g;exact hrp (hE.symm _ _ hr hx e),fun g=>by
   subst g;exact hrp (hE.trans _ _ _ hp hx hr ot (hE.symm _ _ hr hx e))⟩
  have bF: ∀x,x<N->(KK (swp si p q) al N r x↔KK si al N r x):=fun x hx=>by
   refine ⟨aN r x hr hx,fun e=>?_⟩;rcases (EJ r x hr hx).1 e with e|⟨e1,_⟩|⟨e1,_⟩
   ·exact e
   ·exact absurd rfl (KO p hp (aN _ _ hr hp e1)).1
   ·exact absurd rfl (KO q hq (aN _ _ hr hq e1)).2
  have Hv: ∀{f:Nat->Nat} (_:aw N f) {g:Nat->Nat} (_: ∀x,x<N->KK si al N r x->f x=g x/\KK si al N r (f x)) (x y:Nat),x<N->KK si al N r x->(SC f x y↔SC g x y):=fun {f} hf {g} hfg x y hx hU=>by
   have hi: ∀k,KK si al N r (itn f k x)/\itn f k x=itn g k x:=fun k=>by
    induction k with
    |zero=>exact ⟨hU,rfl⟩
    |succ k ih=>
     have:=hfg _ (hf.bC hx k) ih.1
     exact ⟨this.2,by simp only [itn];rw [<-ih.2];exact this.1⟩
   constructor
   ·rintro ⟨k,rfl⟩;exact ⟨k,(hi k).2.symm⟩
   ·rintro ⟨k,rfl⟩;exact ⟨k,(hi k).2⟩
  have PD:=Hv bJ (g:=si) (fun x hx e=>by
   have hn:=KO x hx e;rcases Af x hx with ⟨_,_,g⟩|⟨g,_⟩|⟨g,_⟩
   ·rw [g];exact ⟨rfl,((iG hs ha hr).1 x hx).1 e⟩
   ·exact absurd g hn.1
   ·exact absurd g hn.2)
  have xp:=Hv jE (g:=bB si al N) (fun x hx e=>by
   have rG:=ha.lt x hx;have e1:=((iG hs ha hr).2 x hx).1 e;have hn:=KO (al x) rG e1;rw [cD ha hx,cD ha hx];rcases Af (al x) rG with ⟨_,_,g⟩|⟨g,_⟩|⟨g,_⟩
   ·rw [g];exact ⟨rfl,((iG hs ha hr).1 _ rG).1 e1⟩
   ·exact absurd g hn.1
   ·exact absurd g hn.2)
  have t1:Tr N (KK si al N r) (SC si) kV:=oJ.ct bF (fun x y hx _ hU _=>PD x y hx ((bF x hx).1 hU));have t2:Tr N (KK si al N r) (SC (bB si al N)) kF:=nB.ct bF (fun x y hx _ hU _=>xp x y hx ((bF x hx).1 hU))
  have:=h.eq r hr kV kF t1 t2
  rw [this];congr 1;exact A9 fun x hx=>by rw [bF x hx]
end
end Sp
namespace Sp
open Classical
noncomputable def cU (U:Nat->Prop) (N:Nat):Nat:=(List.range N).countP fun h=>decide (U h)
section
variable {N:Nat} {si al:Nat->Nat} {U W:Nat->Prop}
theorem u7 (U:Nat->Prop) (k:Nat):cU U (k+1)=cU U k+if U k then 1 else 0:=by
 unfold cU;rw [List.range_succ,List.countP_append];by_cases h:U k<;>simp [h]
theorem JU {k:Nat} (h: ∀x,x<k->(U x↔W x)):cU U k=cU W k:=by
 unfold cU;refine List.countP_congr fun x hx=>?_;simp only [decide_eq_true_eq];exact h x (List.mem_range.1 hx)
theorem IM {k:Nat} (h: ∀x,x<k->U x-> ¬W x):cU (fun x=>U x\/W x) k=cU U k+cU W k:=by
 induction k with
 |zero=>simp [cU]
 |succ k ih=>
  rw [u7,u7,u7,ih (fun x hx=>h x (by omega))]
  have:=h k (by omega)
  by_cases h1:U k<;>by_cases h2:W k<;>simp [h1,h2]<;>first|omega|exact absurd h2 (this h1)
theorem EZ {u:Nat}: ∀k,cU (fun x=>x=u) k=if u<k then 1 else 0
 |0=>by simp [cU]
 |k+1=>by
  rw [u7,EZ k];by_cases h1:u<k
  ·rw [zzJ h1,zzI (by omega),zzJ (by omega)]
  ·rw [zzI h1];by_cases h2:k=u
   ·rw [zzJ h2,zzJ (by omega)]
   ·rw [zzI h2,zzI (by omega)]
theorem wM (ha:mX N al) (hU: ∀x,x<N->(U x↔U (al x))):2*eU al U N=cU U N:=by
 have e1:eU al U N=((List.range N).filter fun h=>decide (U h/\h<al h)).length:=by unfold eU;rw [List.countP_eq_length_filter]
 have e2:cU U N=eU al U N+((List.range N).filter fun h=>decide (U h/\ ¬h<al h)).length:=by
  rw [<-List.countP_eq_length_filter];unfold cU eU;generalize List.range N=l
  induction l with
  |nil=>simp
  |cons x l ih=>
   simp only [List.countP_cons];rw [ih];by_cases h1:U x<;>by_cases h2:x<al x<;>simp [h1,h2]<;>omega
 have m1: ∀x,x∈((List.range N).filter fun h=>decide (U h/\h<al h))↔x<N/\U x/\x<al x:=fun x=>by simp [List.mem_filter]
 have m2: ∀x,x∈((List.range N).filter fun h=>decide (U h/\ ¬h<al h))↔x<N/\U x/\ ¬x<al x:=fun x=>by simp [List.mem_filter]
 have i1:=Cc ((List.range N).filter fun h=>decide (U h/\h<al h)) ((List.range N).filter fun h=>decide (U h/\ ¬h<al h)) al (List.nodup_range.filter _) (fun x hx=>by
  obtain ⟨h1,h2,h3⟩:=(m1 x).1 hx;exact (m2 _).2 ⟨ha.lt x h1,(hU x h1).1 h2,by rw [ha.inv x h1];omega⟩) (fun x hx y hy e=>by
  have h1:=((m1 x).1 hx).1;have h2:=((m1 y).1 hy).1;rw [<-ha.inv x h1,<-ha.inv y h2,e])
 have i2:=Cc ((List.range N).filter fun h=>decide (U h/\ ¬h<al h)) ((List.range N).filter fun h=>decide (U h/\h<al h)) al (List.nodup_range.filter _) (fun x hx=>by
  obtain ⟨h1,h2,h3⟩:=(m2 x).1 hx
  have:=ha.ne x h1
  exact (m1 _).2 ⟨ha.lt x h1,(hU x h1).1 h2,by rw [ha.inv x h1];omega⟩) (fun x hx y hy e=>by
  have h1:=((m2 x).1 hx).1;have h2:=((m2 y).1 hy).1;rw [<-ha.inv x h1,<-ha.inv y h2,e])
 omega
theorem MB {f:Nat->Nat} {x:Nat} (h:f x=x): ∀k,itn f k x=x
 |0=>rfl
 |k+1=>by simp only [itn];rw [MB h k];exact h
theorem TI {f:Nat->Nat} (hf:aw N f) {a v:Nat} (ha:a<N) (YQ:a≠v) (hs:f a=v):swp f a v v=v/\ ∀x y,x<N->y<N->x≠v->y≠v->(SC f x y↔SC (swp f a v) x y):=by
 have hv:v<N:=by rw [<-hs];exact hf.lt a ha
 have vE:swp f a v v=v:=by unfold swp;rw [zzI (Ne.symm YQ),zzJ rfl];exact hs
 refine ⟨vE,fun x y hx hy nx ny=>?_⟩;have jR:SC f a v:=⟨1,hs⟩;have l5:=vX hf ha hv;have eJ:=zK hf ha YQ jR;have hj:=tc l5 ha hv eJ x y hx hy;rw [zJ] at hj;rw [hj];have X9: ∀z,SC (swp f a v) v z->z=v:=fun z ⟨k,hk⟩=>hk▸MB vE k;constructor
 ·rintro (e|⟨_,e⟩|⟨e,_⟩)
  ·exact e
  ·exact absurd (X9 _ e) ny
  ·exact absurd (X9 _ (e.symm l5 hx)) nx
 ·exact .inl
def iU (al:Nat->Nat) (u v x:Nat):Nat:=if x=u then v else if x=v then u else if x=al u then al v else if x=al v then al u else al x
theorem fq.tM (h:fq N si al) {u v:Nat} (hu:u<N) (hv:v<N) (vt:u≠v) (s1:si u=v) (s2:si v=u) (aA:al u≠v):fq N si (iU al u v):=by
 have hs:=h.perm;have ha:=h.e7;obtain ⟨a,ea⟩: ∃a,al u=a:=⟨_,rfl⟩;obtain ⟨b,eb⟩: ∃b,al v=b:=⟨_,rfl⟩;have la:a<N:=by rw [<-ea];exact ha.lt u hu
 have lb:b<N:=by rw [<-eb];exact ha.lt v hv
 have ia:al a=u:=by rw [<-ea];exact ha.inv u hu
 have ib:al b=v:=by rw [<-eb];exact ha.inv v hv
 have Bk:a≠u:=by rw [<-ea];exact ha.ne u hu
 have Bi:b≠v:=by rw [<-eb];exact ha.ne v hv
 have Bj:a≠v:=by rw [<-ea];exact aA
 have Cw:b≠u:=fun e=>Bj (by rw [<-ea,<-e,ib]);have Gp:a≠b:=fun e=>vt (by rw [<-ia,<-ib,e]);have du:iU al u v u=v:=by unfold iU;rw [zzJ rfl]
 have dv:iU al u v v=u:=by unfold iU;rw [zzI (Ne.symm vt),zzJ rfl]
 have BH:iU al u v a=b:=by unfold iU;rw [zzI Bk,zzI Bj,ea,zzJ rfl,eb]
 have Dh:iU al u v b=a:=by unfold iU;rw [zzI Cw,zzI Bi,ea,zzI (Ne.symm Gp),eb,zzJ rfl]
 have dx: ∀x,x≠u->x≠v->x≠a->x≠b->iU al u v x=al x:=fun x h1 h2 h3 h4=>by unfold iU;rw [zzI h1,zzI h2,ea,zzI h3,eb,zzI h4]
 have dc: ∀x,x=u\/x=v\/x=a\/x=b\/(x≠u/\x≠v/\x≠a/\x≠b):=fun x=>by omega
 have Di: ∀x,x<N->x≠u->x≠v->x≠a->x≠b->al x≠u/\al x≠v/\al x≠a/\al x≠b:=fun x hx h1 h2 h3 h4=>by
  have i:=ha.inv x hx;refine ⟨fun e=>h3 (by rw [<-i,e,ea]),fun e=>h4 (by rw [<-i,e,eb]),fun e=>h1 (by rw [<-i,e,ia]),fun e=>h2 (by rw [<-i,e,ib])⟩
 have cG:mX N (iU al u v):=by
  refine ⟨fun x hx=>?_,fun x hx=>?_,fun x hx=>?_⟩
  ·rcases dc x with rfl|rfl|rfl|rfl|⟨h1,h2,h3,h4⟩
   ·rw [du];exact hv
   ·rw [dv];exact hu
   ·rw [BH];exact lb
   ·rw [Dh];exact la
   ·rw [dx x h1 h2 h3 h4];exact ha.lt x hx
  ·rcases dc x with rfl|rfl|rfl|rfl|⟨h1,h2,h3,h4⟩
   ·rw [du,dv]
   ·rw [dv,du]
   ·rw [BH,Dh]
   ·rw [Dh,BH]
   ·obtain ⟨k1,k2,k3,k4⟩:=Di x hx h1 h2 h3 h4;rw [dx x h1 h2 h3 h4,dx _ k1 k2 k3 k4];exact ha.inv x hx
  ·rcases dc x with rfl|rfl|rfl|rfl|⟨h1,h2,h3,h4⟩
   ·rw [du];exact Ne.symm vt
   ·rw [dv];exact vt
   ·rw [BH];exact Ne.symm Gp
   ·rw [Dh];exact Gp
   ·rw [dx x h1 h2 h3 h4];exact ha.ne x hx
 have hE:=dD hs ha;have bK:=dD hs cG;have Ep:KK si al N u v:=by have:=iu hs ha hu;rwa [s1] at this
 have Pc:KK si al N u a:=by have:=dI hs ha hu;rwa [ea] at this
 have Pb:KK si al N v b:=by have:=dI hs ha hv;rwa [eb] at this
 have ze:KK si al N a b:=hE.trans _ _ _ la hu lb (hE.symm _ _ hu la Pc) (hE.trans _ _ _ hu hv lb Ep Pb);have aN: ∀x y,x<N->y<N->KK si (iU al u v) N x y->KK si al N x y:=fun x y hx hy hk=>by
  refine bU hs cG hE (fun x hx=>iu hs ha hx) (fun x hx=>?_) hx hy hk;rcases dc x with rfl|rfl|rfl|rfl|⟨h1,h2,h3,h4⟩
  ·rw [du];exact Ep
  ·rw [dv];exact hE.symm _ _ hu hv Ep
  ·rw [BH];exact ze
  ·rw [Dh];exact hE.symm _ _ la lb ze
  ·rw [dx x h1 h2 h3 h4];exact dI hs ha hx
 have Gz:KK si (iU al u v) N a b:=by have:=dI hs cG la;rwa [BH] at this
 have Cl: ∀x,x<N->((x=u\/x=v)↔(si x=u\/si x=v)):=fun x hx=>by
  constructor
  ·rintro (rfl|rfl)
   ·exact .inr s1
   ·exact .inl s2
  ·rintro (e|e)
   ·exact .inr (hs.inj x v hx hv (by rw [e,s2]))
   ·exact .inl (hs.inj x u hx hu (by rw [e,s1]))
 have vw: ∀x y,x<N->y<N->x≠u->x≠v->y≠u->y≠v->KK si al N x y->KK si (iU al u v) N x y:=fun x y hx hy x1 x2 y1 y2 hk=>by
  obtain ⟨r,hr⟩: ∃r:Nat->Nat,∀x,r x=if x=u then a else if x=v then b else x:=⟨_,fun _=>rfl⟩;have ru:r u=a:=by rw [hr,zzJ rfl]
  have rv:r v=b:=by rw [hr,zzI (Ne.symm vt),zzJ rfl]
  have ro: ∀x,x≠u->x≠v->r x=x:=fun x h1 h2=>by rw [hr,zzI h1,zzI h2]
  have rl: ∀x,x<N->r x<N:=fun x hx=>by
   rw [hr];split
   ·exact la
   ·split
    ·exact lb
    ·exact hx
  have key:KK si (iU al u v) N (r x) (r y):=by
   refine bU (R:=fun x y=>KK si (iU al u v) N (r x) (r y)) hs ha ⟨fun x hx=>bK.bW _ (rl x hx),fun x y hx hy e=>bK.symm _ _ (rl x hx) (rl y hy) e,fun x y z hx hy hz e1 e2=>bK.trans _ _ _ (rl x hx) (rl y hy) (rl z hz) e1 e2⟩ (fun x hx=>?_) (fun x hx=>?_) hx hy hk
   ·by_cases h1:x=u
    ·subst h1;rw [s1,ru,rv];exact Gz
    ·by_cases h2:x=v
     ·subst h2;rw [s2,ru,rv];exact bK.symm _ _ la lb Gz
     ·have:=Cl x hx
      have h3: ¬(si x=u\/si x=v):=fun e=>by have:=this.2 e;omega
      rw [ro x h1 h2,ro (si x) (fun e=>h3 (.inl e)) (fun e=>h3 (.inr e))];exact iu hs cG hx
   ·rcases dc x with rfl|rfl|rfl|rfl|⟨h1,h2,h3,h4⟩
    ·rw [ea,ru,ro a Bk Bj];exact bK.bW _ la
    ·rw [eb,rv,ro b Cw Bi];exact bK.bW _ lb
    ·rw [ia,ru,ro x Bk Bj];exact bK.bW _ la
    ·rw [ib,rv,ro x Cw Bi];exact bK.bW _ lb
    ·obtain ⟨k1,k2,_,_⟩:=Di x hx h1 h2 h3 h4;rw [ro x h1 h2,ro _ k1 k2]
     have:=dI hs cG hx
     rwa [dx x h1 h2 h3 h4] at this
  rwa [ro x x1 x2,ro y y1 y2] at key
 have GN: ∀x y,x<N->y<N->KK si (iU al u v) N x y->((x=u\/x=v)↔(y=u\/y=v)):=fun x y hx hy hk=>by
  refine bU (R:=fun x y=>((x=u\/x=v)↔(y=u\/y=v))) hs cG ⟨fun _ _=>Iff.rfl,fun _ _ _ _ e=>e.symm,fun _ _ _ _ _ _ e1 e2=>e1.trans e2⟩ (fun x hx=>Cl x hx) (fun x hx=>?_) hx hy hk;rcases dc x with rfl|rfl|rfl|rfl|⟨h1,h2,h3,h4⟩
  ·rw [du];simp
  ·rw [dv];simp
  ·rw [BH];simp [Bk,Bj,Cw,Bi]
  ·rw [Dh];simp [Bk,Bj,Cw,Bi]
  ·obtain ⟨k1,k2,_,_⟩:=Di x hx h1 h2 h3 h4;rw [dx x h1 h2 h3 h4];simp [h1,h2,k1,k2]
 have jL:=rA hs ha N (zzA _);have jE:=rA hs cG N (zzA _);have fa:bB si al N a=v:=by rw [cD ha la,ia,s1]
 obtain ⟨fx1,fx2⟩:=TI jL la Bj fa;have hq:=vX jL la hv;have fb:swp (bB si al N) a v b=u:=by unfold swp;rw [zzI (Ne.symm Gp),zzI Bi,cD ha lb,ib,s2]
 obtain ⟨fx3,fx4⟩:=TI hq lb Cw fb;have oY:=vX hq lb hu;have vz: ∀x,x<N->swp (swp (bB si al N) a v) b u x=bB si (iU al u v) N x:=fun x hx=>by
  rw [cD cG hx];rcases dc x with rfl|rfl|rfl|rfl|⟨h1,h2,h3,h4⟩
  ·rw [du,s2];exact fx3
  ·rw [dv,s1];unfold swp;rw [zzI (Ne.symm Bi),zzI (Ne.symm vt)];exact fx1
  ·rw [BH];unfold swp;rw [zzI Gp,zzI Bk,zzJ rfl,cD ha hv,eb]
  ·rw [Dh];unfold swp;rw [zzJ rfl,zzI (Ne.symm Bk),zzI vt,cD ha hu,ea]
  ·rw [dx x h1 h2 h3 h4];unfold swp;rw [zzI h4,zzI h1,zzI h3,zzI h2,cD ha hx]
 have jR: ∀x y,x<N->y<N->x≠u->x≠v->y≠u->y≠v->(SC (bB si al N) x y↔SC (bB si (iU al u v) N) x y):=fun x y hx hy x1 x2 y1 y2=>
  (fx2 x y hx hy x2 y2).trans ((fx4 x y hx hy x1 y1).trans (wO oY vz hx))
 refine ⟨hs,cG,fun r hr kV kF oJ nB=>?_⟩;by_cases tu:r=u\/r=v
 ·--the circle of the two darts
  have bF: ∀x,x<N->(KK si (iU al u v) N r x↔(x=u\/x=v)):=fun x hx=>by
   refine ⟨fun e=>(GN r x hr hx e).1 tu,fun e=>?_⟩;have Gx:KK si (iU al u v) N u v:=by have:=iu hs cG hu;rwa [s1] at this
   rcases tu with rfl|rfl<;>rcases e with rfl|rfl
   ·exact bK.bW _ hr
   ·exact Gx
   ·exact bK.symm _ _ hx hr Gx
   ·exact bK.bW _ hr
  have tV:Tr N (KK si (iU al u v) N r) (SC si) [u]:=by
   refine ⟨fun x hx=>?_,by simp,fun x hx y hy _=>?_,fun x hx e=>⟨u,by simp,?_⟩⟩
   ·simp at hx;subst hx;exact ⟨hu,(bF _ hu).2 (.inl rfl)⟩
   ·simp at hx hy;rw [hx,hy]
   ·rcases (bF x hx).1 e with rfl|rfl
    ·exact .refl _ _
    ·exact ⟨1,s2⟩
  have QV:bB si (iU al u v) N u=u:=by rw [cD cG hu,du,s2]
  have QU:bB si (iU al u v) N v=v:=by rw [cD cG hv,dv,s1]
  have BE: ∀x y,bB si (iU al u v) N x=x->SC (bB si (iU al u v) N) x y->y=x:=fun x y hf ⟨k,hk⟩=>hk▸MB hf k;have tF:Tr N (KK si (iU al u v) N r) (SC (bB si (iU al u v) N)) [u,v]:=by
   refine ⟨fun x hx=>?_,by simp [vt],fun x hx y hy e=>?_,fun x hx e=>?_⟩
   ·simp at hx;rcases hx with rfl|rfl
    ·exact ⟨hu,(bF _ hu).2 (.inl rfl)⟩
    ·exact ⟨hv,(bF _ hv).2 (.inr rfl)⟩
   ·simp at hx;rcases hx with rfl|rfl
    ·exact (BE _ _ QV e).symm
    ·exact (BE _ _ QU e).symm
   ·rcases (bF x hx).1 e with rfl|rfl
    ·exact ⟨x,by simp, .refl _ _⟩
    ·exact ⟨x,by simp, .refl _ _⟩
  have e1:=tV.bN (SC.eqv hs) oJ;have e2:=tF.bN (SC.eqv jE) nB;have e3:=wM cG (iG hs cG hr).2;have e4:cU (KK si (iU al u v) N r) N=2:=by
   rw [JU bF,IM (fun x _ e1 e2=>vt (e1.symm.trans e2)),EZ,EZ,zzJ hu,zzJ hv]
  simp at e1 e2;omega
 ·have r1:r≠u:=fun e=>tu (.inl e);have r2:r≠v:=fun e=>tu (.inr e);have CT: ∀x,x<N->KK si (iU al u v) N r x->x≠u/\x≠v:=fun x hx e=>by
   have:=(GN r x hr hx e)
   exact ⟨fun g=>tu (this.2 (.inl g)),fun g=>tu (this.2 (.inr g))⟩
  have bF: ∀x,x<N->x≠u->x≠v->(KK si (iU al u v) N r x↔KK si al N r x):=fun x hx x1 x2=>⟨aN r x hr hx,vw r x hr hx r1 r2 x1 x2⟩;by_cases Bs:KK si al N r u
  ·have Yn:=hE.trans _ _ _ hr hu hv Bs Ep;have hra:=hE.trans _ _ _ hr hu la Bs Pc;have hrb:=hE.trans _ _ _ hr hv lb Yn Pb;have tV:Tr N (KK si al N r) (SC si) (u::kV):=by
    refine ⟨fun x hx=>?_,?_,fun x hx y hy e=>?_,fun x hx e=>?_⟩
    ·rcases List.mem_cons.1 hx with rfl|g
     ·exact ⟨hu,Bs⟩
     ·exact ⟨(oJ.mem x g).1,aN r x hr (oJ.mem x g).1 (oJ.mem x g).2⟩
    ·exact List.nodup_cons.2 ⟨fun g=>(CT u hu (oJ.mem u g).2).1 rfl,oJ.nodup⟩
    ·have PC: ∀k,itn si k u=u\/itn si k u=v:=fun k=>by
      induction k with
      |zero=>exact .inl rfl
      |succ k ih=>exact (Cl _ (hs.bC hu k)).1 ih
     have GS: ∀z,SC si u z->z=u\/z=v:=fun z ⟨k,hk⟩=>hk▸PC k;rcases List.mem_cons.1 hx with rfl|g<;>rcases List.mem_cons.1 hy with rfl|k
     ·rfl
     ·have:=CT y (oJ.mem y k).1 (oJ.mem y k).2
      have:=GS y e
      omega
     ·have:=CT x (oJ.mem x g).1 (oJ.mem x g).2
      have:=GS x (e.symm hs (oJ.mem x g).1)
      omega
     ·exact oJ.apart x g y k e
    ·by_cases x1:x=u
     ·exact ⟨u,by simp,by rw [x1];exact .refl _ _⟩
     ·by_cases x2:x=v
      ·exact ⟨u,by simp,by rw [x2];exact ⟨1,s2⟩⟩
      ·obtain ⟨y,h1,h2⟩:=oJ.all x hx ((bF x hx x1 x2).2 e);exact ⟨y,by simp [h1],h2⟩
   have tF:Tr N (KK si al N r) (SC (bB si al N)) kF:=by
    refine ⟨fun x hx=>⟨(nB.mem x hx).1,aN r x hr (nB.mem x hx).1 (nB.mem x hx).2⟩,nB.nodup,fun x hx y hy e=>?_,fun x hx e=>?_⟩
    ·have nx:=CT x (nB.mem x hx).1 (nB.mem x hx).2;have ny:=CT y (nB.mem y hy).1 (nB.mem y hy).2;exact nB.apart x hx y hy ((jR x y (nB.mem x hx).1 (nB.mem y hy).1 nx.1 nx.2 ny.1 ny.2).1 e)
    ·have step: ∀z,z<N->z≠u->z≠v->KK si al N r z-> ∃y,y∈kF/\SC (bB si al N) z y:=fun z hz z1 z2 ez=>by
      obtain ⟨y,h1,h2⟩:=nB.all z hz ((bF z hz z1 z2).2 ez);have ny:=CT y (nB.mem y h1).1 (nB.mem y h1).2;exact ⟨y,h1,(jR z y hz (nB.mem y h1).1 z1 z2 ny.1 ny.2).2 h2⟩
     by_cases x1:x=u
     ·obtain ⟨y,h1,h2⟩:=step b lb Cw Bi hrb;refine ⟨y,h1,?_⟩
      have:SC (bB si al N) b u:=⟨1,by show bB si al N b=u;rw [cD ha lb,ib,s2]⟩
      rw [x1];exact (this.symm jL lb).trans h2
     ·by_cases x2:x=v
      ·obtain ⟨y,h1,h2⟩:=step a la Bk Bj hra;refine ⟨y,h1,?_⟩
       have:SC (bB si al N) a v:=⟨1,fa⟩
       rw [x2];exact (this.symm jL la).trans h2
      ·exact step x hx x1 x2 e
   have e0:=h.eq r hr _ _ tV tF;have e1:=wM ha (iG hs ha hr).2;have e2:=wM cG (iG hs cG hr).2;have e3:cU (KK si al N r) N=cU (KK si (iU al u v) N r) N+2:=by
    have c1:cU (KK si al N r) N=cU (fun x=>KK si (iU al u v) N r x\/(x=u\/x=v)) N:=JU fun x hx=>by
     by_cases x1:x=u
     ·subst x1;exact ⟨fun _=> .inr (.inl rfl),fun _=>Bs⟩
     ·by_cases x2:x=v
      ·subst x2;exact ⟨fun _=> .inr (.inr rfl),fun _=>Yn⟩
      ·rw [bF x hx x1 x2];simp [x1,x2]
    rw [c1,IM (fun x hx e1 e2=>by have:=CT x hx e1;omega),IM (fun x _ e1 e2=>vt (e1.symm.trans e2)),EZ,EZ,zzJ hu,zzJ hv]
   simp only [zzG] at e0;omega
  ·have qa: ∀x,x<N->KK si al N r x->x≠u/\x≠v/\x≠a/\x≠b:=fun x hx e=>by
    refine ⟨fun g=>?_,fun g=>?_,fun g=>?_,fun g=>?_⟩
    ·subst g;exact Bs e
    ·subst g;exact Bs (hE.trans _ _ _ hr hx hu e (hE.symm _ _ hu hx Ep))
    ·subst g;exact Bs (hE.trans _ _ _ hr hx hu e (hE.symm _ _ hu hx Pc))
    ·subst g;exact Bs (hE.trans _ _ _ hr hx hu e (hE.trans _ _ _ hx hv hu (hE.symm _ _ hv hx Pb) (hE.symm _ _ hu hv Ep)))
   have sD: ∀x,x<N->(KK si (iU al u v) N r x↔KK si al N r x):=fun x hx=>by
    refine ⟨aN r x hr hx,fun e=>?_⟩
    have:=qa x hx e
    exact (bF x hx this.1 this.2.1).2 e
   have tV:Tr N (KK si al N r) (SC si) kV:=oJ.ct sD (fun _ _ _ _ _ _=>Iff.rfl);have tF:Tr N (KK si al N r) (SC (bB si al N)) kF:=nB.ct sD (fun x y hx hy e1 e2=>by
    have n1:=qa x hx ((sD x hx).1 e1);have n2:=qa y hy ((sD y hy).1 e2);exact (jR x y hx hy n1.1 n1.2.1 n2.1 n2.2.1).symm)
   have e0:=h.eq r hr _ _ tV tF;rw [e0];congr 1;exact A9 fun x hx=>by
    rw [sD x hx];constructor
    ·rintro ⟨g1,g2⟩
     have:=qa x hx g1
     exact ⟨g1,by rw [dx x this.1 this.2.1 this.2.2.1 this.2.2.2];exact g2⟩
    ·rintro ⟨g1,g2⟩
     have:=qa x hx g1
     exact ⟨g1,by rw [dx x this.1 this.2.1 this.2.2.1 this.2.2.2] at g2;exact g2⟩
end
end Sp
namespace Sp
open Classical
def bt (x:Nat):Nat:=x-x % 4+(x % 4+3)% 4
def aW (m:List Int) (x:Nat):Nat:=(m.getD x 0).toNat
theorem kg (x:Nat):bt x/4=x/4:=by unfold bt;omega
theorem aO (n:Nat):aw (4*n) bt:=⟨fun x hx=>by unfold bt;omega,fun x y hx hy e=>by unfold bt at e;omega⟩
theorem nr {x y:Nat}:SC bt x y↔x/4=y/4:=by
 constructor
 ·rintro ⟨k,rfl⟩
  induction k with
  |zero=>rfl
  |succ k ih=>simp only [itn];rw [kg];exact ih
 ·intro e;refine ⟨(x % 4+4-y % 4)% 4,?_⟩;have h4:x % 4=0\/x % 4=1\/x % 4=2\/x % 4=3:=by omega
  have k4:y % 4=0\/y % 4=1\/y % 4=2\/y % 4=3:=by omega
  rcases h4 with h|h|h|h<;>rcases k4 with k|k|k|k<;>rw [h,k]<;>first|(simp only [itn,bt];omega)|(show x=y;omega)
section
variable {m:List Int} {n:Nat}
structure oA (m:List Int) (n:Nat):Prop where
 dw:iv m n
 ne: ∀h:Nat,h<4*n->m.getD h 0≠h
theorem oA.cast (h:oA m n) {x:Nat} (hx:x<4*n):((aW m x:Nat):Int)=m.getD x 0:=by
 have:=h.dw.ok.2 x hx;unfold aW;omega
theorem oA.e7 (h:oA m n):mX (4*n) (aW m):=by
 refine ⟨fun x hx=>?_,fun x hx=>?_,fun x hx=>?_⟩
 ·have:=h.dw.ok.2 x hx;unfold aW;omega
 ·have:=h.dw.inv x hx;unfold aW;rw [this];simp
 ·intro e;exact h.ne x hx (by rw [<-h.cast hx,e])
theorem oA.conn (h:oA m n) {x y:Nat} (hx:x<4*n) (hy:y<4*n):KK bt (aW m) (4*n) x y↔bT m (x/4) (y/4):=by
 have hs:=aO n;have ha:=h.e7;have hE:=dD hs ha;constructor
 ·refine fun hk=>bU (R:=fun x y=>bT m (x/4) (y/4)) hs ha ⟨fun _ _=> .refl _,fun x y hx _ e=>e.symm h.dw (by omega),fun _ _ _ _ _ _ e1 e2=>e1.trans e2⟩ (fun x _=>?_) (fun x hx=>?_) hx hy hk
  ·rw [kg];exact .refl _
  ·have:aW m x/4=nb m (x/4) (x % 4):=by
    unfold nb aW;rw [show 4*(x/4)+x % 4=x by omega]
    have:=h.dw.ok.2 x hx
    omega
   rw [this];exact .step _ (by omega) (.refl _)
 ·have key: ∀{a b:Nat},bT m a b->a<n-> ∀x y,x/4=a->y/4=b->KK bt (aW m) (4*n) x y:=fun {a b} hc KW=>by
   induction hc with
   |refl=>intro x y hx hy;exact ri hs ha (by omega) (nr.2 (by omega))
   | @step b s h4 hc ih=>
     intro x y hx hy;have hb:=hc.lt h.dw KW;have h1:=ih x (4*b+s) hx (by omega);have h2:=dI hs ha (x:=4*b+s) (by omega);have hl:=ha.lt (4*b+s) (by omega);have h3:aW m (4*b+s)/4=nb m b s:=by
      unfold nb aW
      have:=h.dw.ok.2 (4*b+s) (by omega)
      omega
     have qx:y<4*n:=by omega
     exact hE.trans _ _ _ (by omega) (by omega) qx h1 (hE.trans _ _ _ (by omega) hl qx h2 (ri hs ha hl (nr.2 (by omega))))
  intro hc;exact key hc (by omega) x y rfl rfl
theorem oA.it (h:oA m n) {x:Nat} (hx:x<4*n): ∀k,it (cm m) k x=(itn (bB bt (aW m) (4*n)) k x:Nat)
 |0=>rfl
 |k+1=>by
  have hl:=(rA (aO n) h.e7 (4*n) (zzA _)).bC hx k;simp only [itn,Go.Proofs.YtjpbeacamoijhaaGreatDoor.it];rw [h.it hx k,cD h.e7 hl];generalize itn (bB bt (aW m) (4*n)) k x=z at*;unfold cm;rw [zzC,sQ,<-h.cast hl];unfold bt;omega
theorem oA.nD (h:oA m n) {x y:Nat} (hx:x<4*n):(y:Int)∈af (cm m) m.length x↔SC (bB bt (aW m) (4*n)) x y:=by
 have iR:=h.dw.ok.1;have ho:=(A5 (Kc h.dw) (x:=x) (by unfold av;omega)).1 y;rw [iR,ho];constructor
 ·rintro ⟨j,e⟩;rw [h.it hx j] at e;exact ⟨j,by omega⟩
 ·rintro ⟨j,e⟩;exact ⟨j,by rw [h.it hx j,e]⟩
theorem Sr (P:Nat->Prop): ∀n,cU (fun x=>P (x/4)) (4*n)=4*cU P n
 |0=>by simp [cU]
 |n+1=>by
  rw [show 4*(n+1)=4*n+1+1+1+1 by omega,u7,u7,u7,u7,Sr P n,u7];rw [show 4*n/4=n by omega,show (4*n+1)/4=n by omega,show (4*n+1+1)/4=n by omega,show (4*n+1+1+1)/4=n by omega]
  split<;>omega
theorem oA.wR (h:oA m n) {a:Nat} (ha:a<n) {u:Int} (hu: ∀b,b<n->((bX m n n).getD b 0=u↔bT m a b)) {r:Nat} (hr:r/4=a):
  (∃l,Tr (4*n) (KK bt (aW m) (4*n) r) (SC bt) l/\l.length=dF (bX m n n) n u)/\cU (KK bt (aW m) (4*n) r) (4*n)=4*dF (bX m n n) n u:=by
 have qO:r<4*n:=by omega
 have qb: ∀x,x<4*n->(KK bt (aW m) (4*n) r x↔(bX m n n).getD (x/4) 0=u):=fun x hx=>by
  rw [h.conn qO hx,hr,hu (x/4) (by omega)]
 refine ⟨⟨((List.range n).filter fun c=>(bX m n n).getD c 0==u).map (4* ·),⟨fun x hx=>?_,?_,fun x hx y hy e=>?_,fun x hx e=>?_⟩,?_⟩,?_⟩
 ·obtain ⟨c,hc,rfl⟩:=List.mem_map.1 hx;have h1:=List.mem_filter.1 hc;have h2:=List.mem_range.1 h1.1;refine ⟨by omega,(qb _ (by omega)).2 ?_⟩;rw [show 4*c/4=c by omega];simpa using h1.2
 ·exact List.Pairwise.map _ (fun a b mQ e=>mQ (by omega)) (List.nodup_range.filter _)
 ·obtain ⟨c,_,rfl⟩:=List.mem_map.1 hx;obtain ⟨d,_,rfl⟩:=List.mem_map.1 hy
  have:=nr.1 e
  omega
 ·refine ⟨4*(x/4),List.mem_map.2 ⟨x/4,List.mem_filter.2 ⟨List.mem_range.2 (by omega),by simpa using (qb x hx).1 e⟩,rfl⟩,nr.2 (by omega)⟩
 ·rw [List.length_map,<-List.countP_eq_length_filter];rfl
 ·rw [JU qb,Sr (fun c=>(bX m n n).getD c 0=u)];congr 1;unfold cU dF;refine List.countP_congr fun c _=>?_;simp
theorem oA.Za (h:oA m n) {a:Nat} (ha:a<n) {u:Int} (hu: ∀b,b<n->((bX m n n).getD b 0=u↔bT m a b)) {r:Nat} (hr:r/4=a):
  ∃l,Tr (4*n) (KK bt (aW m) (4*n) r) (SC (bB bt (aW m) (4*n))) l/\l.length=jl m (bX m n n) (4*n) u:=by
 have qO:r<4*n:=by omega
 have qb: ∀x,x<4*n->(KK bt (aW m) (4*n) r x↔(bX m n n).getD (x/4) 0=u):=fun x hx=>by
  rw [h.conn qO hx,hr,hu (x/4) (by omega)]
 have jL:=rA (aO n) h.e7 (4*n) (zzA _);have uL: ∀x,x<4*n->(fl m x=true↔ ∀y,SC (bB bt (aW m) (4*n)) x y->x<=y):=fun x hx=>by
  unfold fl;rw [zO];constructor
  ·intro hl y hy
   have:=hl y ((h.nD hx).2 hy)
   omega
  ·intro hl y hy;have CE:=(A5 (Kc h.dw) (x:=x) (by unfold av;omega)).2.1 y (by rw [h.dw.ok.1] at hy;exact hy);unfold av at CE;obtain ⟨z,rfl⟩: ∃z:Nat,y=z:=⟨y.toNat,by omega⟩
   have:=hl z ((h.nD hx).1 hy)
   omega
 refine ⟨(List.range (4*n)).filter fun i=>fl m i&&(bX m n n).getD (i/4) 0==u,⟨fun x hx=>?_,List.nodup_range.filter _,fun x hx y hy e=>?_,fun x hx e=>?_⟩,?_⟩
 ·have h1:=List.mem_filter.1 hx;have h2:=List.mem_range.1 h1.1;refine ⟨h2,(qb x h2).2 ?_⟩
  have:=h1.2
  rw [zzS] at this;simpa using this.2
 ·have h1:=List.mem_filter.1 hx;have h2:=List.mem_filter.1 hy;have l1:=List.mem_range.1 h1.1;have l2:=List.mem_range.1 h2.1;have f1:=(uL x l1).1 ((zzS _ _▸h1.2).1);have f2:=(uL y l2).1 ((zzS _ _▸h2.2).1)
  have:=f1 y e
  have:=f2 x (e.symm jL l1)
  omega
 ·have key: ∀k x,x<k->x<4*n->(bX m n n).getD (x/4) 0=u-> ∃y,y∈((List.range (4*n)).filter fun i=>fl m i&&(bX m n n).getD (i/4) 0==u)/\SC (bB bt (aW m) (4*n)) x y:=fun k=>by
   induction k with
   |zero=>intro x h;omega
   |succ k ih=>
    intro x hk hx Yc;by_cases hl: ∃y,SC (bB bt (aW m) (4*n)) x y/\y<x
    ·obtain ⟨y,h1,h2⟩:=hl;have qx:y<4*n:=by omega
     have huy:(bX m n n).getD (y/4) 0=u:=by
      have Bz:=tX (aO n) h.e7 hx h1
      have:=(qb x hx).2 Yc
      exact (qb y qx).1 ((dD (aO n) h.e7).trans _ _ _ qO hx qx this Bz)
     obtain ⟨z,h3,h4⟩:=ih y (by omega) qx huy;exact ⟨z,h3,h1.trans h4⟩
    ·refine ⟨x,List.mem_filter.2 ⟨List.mem_range.2 hx,?_⟩, .refl _ _⟩;rw [zzS];exact ⟨(uL x hx).2 fun y hy=>Nat.le_of_not_lt fun aD=>hl ⟨y,hy,aD⟩,by simpa using Yc⟩
  exact key (x+1) x (by omega) hx ((qb x hx).1 e)
 ·rw [<-List.countP_eq_length_filter];rfl
theorem oA.te (h:oA m n):qI m n=true↔fq (4*n) bt (aW m):=by
 have jL:=rA (aO n) h.e7 (4*n) (zzA _);rw [JW];constructor
 ·intro hr;refine ⟨aO n,h.e7,fun r qO lV lF hV hF=>?_⟩;obtain ⟨u,hu,hc,o8⟩:=Mr h.dw (a:=r/4) (by omega);have e0:=hr u hu ((o8 u hu).2 (hc.symm h.dw hu));obtain ⟨⟨l1,t1,n1⟩,hcU⟩:=h.wR (a:=r/4) (by omega) o8 rfl;obtain ⟨l2,t2,n2⟩:=h.Za (a:=r/4) (by omega) o8 rfl;have e1:=hV.bN (SC.eqv (aO n)) t1;have e2:=hF.bN (SC.eqv jL) t2
  have e3:=wM h.e7 (iG (aO n) h.e7 qO).2;omega
 ·intro hS c hc Hb;obtain ⟨u,hu,hcc,o8⟩:=Mr h.dw (a:=c) hc;have Ye:(u:Int)=c:=by rw [<-Hb];exact ((o8 c hc).2 (.refl _)).symm
  have Pw:u=c:=by omega
  subst Pw;obtain ⟨⟨l1,t1,n1⟩,hcU⟩:=h.wR (a:=u) hc o8 (r:=4*u) (by omega);obtain ⟨l2,t2,n2⟩:=h.Za (a:=u) hc o8 (r:=4*u) (by omega);have e0:=hS.eq (4*u) (by omega) l1 l2 t1 t2;have e3:=wM h.e7 (iG (aO n) h.e7 (r:=4*u) (by omega)).2;omega
end
end Sp
namespace Sp
open Classical
section
variable {N N':Nat} {si al si' al' io:Nat->Nat}
def HY (N:Nat) (si al:Nat->Nat) (r:Nat):Prop:= ∀lV lF,Tr N (KK si al N r) (SC si) lV->Tr N (KK si al N r) (SC (bB si al N)) lF->lV.length+lF.length=2+eU al (KK si al N r) N
theorem MV (hs:aw N si) (ha:mX N al) (il: ∀x,x<N'->io x<N) (ii: ∀x y,x<N'->y<N'->io x=io y->x=y) (ls: ∀x,x<N'->si' x<N') (la: ∀x,x<N'->al' x<N')
  (es: ∀x,x<N'->io (si' x)=si (io x)) (ea: ∀x,x<N'->io (al' x)=al (io x)):aw N' si'/\mX N' al'/\ ∀r,r<N'->(HY N si al (io r)↔HY N' si' al' r):=by
 have bJ:aw N' si':=⟨ls,fun x y hx hy e=>ii x y hx hy (hs.inj _ _ (il x hx) (il y hy) (by rw [<-es x hx,<-es y hy,e]))⟩;have cG:mX N' al':=by
  refine ⟨la,fun x hx=>ii _ _ (la _ (la x hx)) hx (by rw [ea _ (la x hx),ea x hx];exact ha.inv _ (il x hx)),fun x hx e=>ha.ne _ (il x hx) (by rw [<-ea x hx,e])⟩
 have hE:=dD hs ha;have bK:=dD bJ cG;have jL:=rA hs ha N (zzA _);have jE:=rA bJ cG N' (zzA _);have Am: ∀{f f':Nat->Nat} (_: ∀x,x<N'->f' x<N') (_: ∀x,x<N'->io (f' x)=f (io x)) (x y:Nat),x<N'->y<N'->(SC f' x y↔SC f (io x) (io y)):=fun {f f'} hl he x y hx hy=>by
  have hk: ∀k,itn f' k x<N'/\io (itn f' k x)=itn f k (io x):=fun k=>by
   induction k with
   |zero=>exact ⟨hx,rfl⟩
   |succ k ih=>exact ⟨hl _ ih.1,by simp only [itn];rw [he _ ih.1,ih.2]⟩
  constructor
  ·rintro ⟨k,rfl⟩;exact ⟨k,(hk k).2.symm⟩
  ·rintro ⟨k,e⟩;exact ⟨k,ii _ _ (hk k).1 hy (by rw [(hk k).2,e])⟩
 have Yk:=Am ls es;have vz:=Am (f:=bB si al N) (f':=bB si' al' N') (fun x hx=>jE.lt x hx) (fun x hx=>by
  rw [cD cG hx,cD ha (il x hx),es _ (la x hx),ea x hx])
 have EC: ∀u,u<N->((∃x,x<N'/\io x=u)↔(∃x,x<N'/\io x=si u)):=fun u hu=>by
  constructor
  ·rintro ⟨x,hx,rfl⟩;exact ⟨si' x,ls x hx,es x hx⟩
  ·rintro ⟨x,hx,e⟩;obtain ⟨k,hk⟩:=(SC.step si u).symm hs hu;rw [<-e] at hk
   have: ∀k,∃y,y<N'/\io y=itn si k (io x):=fun k=>by
    induction k with
    |zero=>exact ⟨x,hx,rfl⟩
    |succ k ih=>obtain ⟨y,hy,e⟩:=ih;exact ⟨si' y,ls y hy,by rw [es y hy,e];rfl⟩
   obtain ⟨y,hy,e2⟩:=this k;exact ⟨y,hy,by rw [e2,hk]⟩
 have YF: ∀u,u<N->((∃x,x<N'/\io x=u)↔(∃x,x<N'/\io x=al u)):=fun u hu=>by
  constructor
  ·rintro ⟨x,hx,rfl⟩;exact ⟨al' x,la x hx,ea x hx⟩
  ·rintro ⟨x,hx,e⟩;exact ⟨al' x,la x hx,by rw [ea x hx,e];exact ha.inv u hu⟩
 have hKR:lW N (fun u v=>((∃x,x<N'/\io x=u)↔(∃y,y<N'/\io y=v))/\ ∀x y,x<N'->y<N'->io x=u->io y=v->KK si' al' N' x y):=by
  refine ⟨fun u _=>⟨Iff.rfl,fun x y hx hy e1 e2=>?_⟩,fun u v _ _ e=>⟨e.1.symm,fun x y hx hy e1 e2=>bK.symm _ _ hy hx (e.2 y x hy hx e2 e1)⟩,fun u v w _ _ _ e1 e2=>⟨e1.1.trans e2.1,fun x y hx hy g1 g2=>?_⟩⟩
  ·have:=ii x y hx hy (by rw [e1,e2]);subst this;exact bK.bW _ hx
  ·obtain ⟨z,hz,e⟩:=e1.1.1 ⟨x,hx,g1⟩;exact bK.trans _ _ _ hx hz hy (e1.2 x z hx hz g1 e) (e2.2 z y hz hy e g2)
 have hK: ∀x y,x<N'->y<N'->(KK si' al' N' x y↔KK si al N (io x) (io y)):=fun x y hx hy=>by
  constructor
  ·refine fun hk=>bU (R:=fun x y=>KK si al N (io x) (io y)) bJ cG ⟨fun x hx=>hE.bW _ (il x hx),fun x y hx hy e=>hE.symm _ _ (il x hx) (il y hy) e,fun x y z hx hy hz e1 e2=>hE.trans _ _ _ (il x hx) (il y hy) (il z hz) e1 e2⟩ (fun x hx=>?_) (fun x hx=>?_) hx hy hk
   ·rw [es x hx];exact iu hs ha (il x hx)
   ·rw [ea x hx];exact dI hs ha (il x hx)
  ·intro hk;refine (bU hs ha hKR (fun u hu=>⟨EC u hu,fun x y hx hy e1 e2=>?_⟩) (fun u hu=>⟨YF u hu,fun x y hx hy e1 e2=>?_⟩) (il x hx) (il y hy) hk).2 x y hx hy rfl rfl
   ·have:y=si' x:=ii _ _ hy (ls x hx) (by rw [e2,es x hx,e1])
    subst this;exact iu bJ cG hx
   ·have:y=al' x:=ii _ _ hy (la x hx) (by rw [e2,ea x hx,e1])
    subst this;exact dI bJ cG hx
 have iD: ∀r,r<N'-> ∀u,u<N->KK si al N (io r) u-> ∃x,x<N'/\io x=u:=fun r hr u hu hk=>
  (bU (R:=fun u v=>((∃x,x<N'/\io x=u)↔(∃y,y<N'/\io y=v))) hs ha ⟨fun _ _=>Iff.rfl,fun _ _ _ _ e=>e.symm,fun _ _ _ _ _ _ e1 e2=>e1.trans e2⟩ EC YF (il r hr) hu hk).1 ⟨r,hr,rfl⟩
 have CL: ∀{E E':Nat->Nat->Prop} (_: ∀x y,x<N'->y<N'->(E' x y↔E (io x) (io y))) (r:Nat) (l:List Nat),r<N'->Tr N' (KK si' al' N' r) E' l->Tr N (KK si al N (io r)) E (l.map io):=fun {E E'} he r l hr ht=>by
  refine ⟨fun u hu=>?_,?_,fun u hu v hv e=>?_,fun u hu hk=>?_⟩
  ·obtain ⟨x,hx,rfl⟩:=List.mem_map.1 hu;exact ⟨il x (ht.mem x hx).1,(hK r x hr (ht.mem x hx).1).1 (ht.mem x hx).2⟩
  ·rw [List.Nodup,List.pairwise_map];refine List.Pairwise.imp_of_mem ?_ ht.nodup;intro x y hx hy aA e;exact aA (ii x y (ht.mem x hx).1 (ht.mem y hy).1 e)
  ·obtain ⟨x,hx,rfl⟩:=List.mem_map.1 hu;obtain ⟨y,hy,rfl⟩:=List.mem_map.1 hv;rw [ht.apart x hx y hy ((he x y (ht.mem x hx).1 (ht.mem y hy).1).2 e)]
  ·obtain ⟨x,hx,rfl⟩:=iD r hr u hu hk;obtain ⟨y,h1,h2⟩:=ht.all x hx ((hK r x hr hx).2 hk);exact ⟨io y,List.mem_map.2 ⟨y,h1,rfl⟩,(he x y hx (ht.mem y h1).1).1 h2⟩
 refine ⟨bJ,cG,fun r hr=>?_⟩;have e1:=wM ha (iG hs ha (il r hr)).2;have e2:=wM cG (iG bJ cG hr).2;have e3:cU (KK si al N (io r)) N=cU (KK si' al' N' r) N':=by
  unfold cU;rw [List.countP_eq_length_filter,List.countP_eq_length_filter];have m1: ∀u,u∈((List.range N).filter fun x=>decide (KK si al N (io r) x))↔u<N/\KK si al N (io r) u:=fun u=>by simp [List.mem_filter]
  have m2: ∀u,u∈((List.range N').filter fun x=>decide (KK si' al' N' r x))↔u<N'/\KK si' al' N' r u:=fun u=>by simp [List.mem_filter]
  refine Nat.le_antisymm ?_ ?_
  ·have pe: ∀u,∃x,(u<N/\KK si al N (io r) u)->(x<N'/\io x=u):=fun u=>by
    by_cases hu:u<N/\KK si al N (io r) u
    ·obtain ⟨x,h1,h2⟩:=iD r hr u hu.1 hu.2;exact ⟨x,fun _=>⟨h1,h2⟩⟩
    ·exact ⟨0,fun e=>absurd e hu⟩
   obtain ⟨g,hg⟩:=Classical.axiomOfChoice pe;refine Cc _ _ g (List.nodup_range.filter _) (fun u hu=>?_) (fun u hu v hv e=>?_)
   ·have h1:=(m1 u).1 hu;have h2:=hg u h1;exact (m2 _).2 ⟨h2.1,(hK r _ hr h2.1).2 (by rw [h2.2];exact h1.2)⟩
   ·have h1:=hg u ((m1 u).1 hu);have h2:=hg v ((m1 v).1 hv);rw [<-h1.2,<-h2.2,e]
  ·refine Cc _ _ io (List.nodup_range.filter _) (fun x hx=>?_) (fun x hx y hy e=>ii x y ((m2 x).1 hx).1 ((m2 y).1 hy).1 e);have h1:=(m2 x).1 hx;exact (m1 _).2 ⟨il x h1.1,(hK r x hr h1.1).1 h1.2⟩
 constructor
 ·intro h lV lF hV hF;have e0:=h _ _ (CL Yk r lV hr hV) (CL vz r lF hr hF);rw [List.length_map,List.length_map] at e0;omega
 ·intro h lV lF hV hF;obtain ⟨Gt,qY⟩:=Tr.exists (SC.eqv bJ) (KK si' al' N' r);obtain ⟨CA,Ay⟩:=Tr.exists (SC.eqv jE) (KK si' al' N' r);have e0:=h _ _ qY Ay;have g1:=hV.bN (SC.eqv hs) (CL Yk r Gt hr qY);have g2:=hF.bN (SC.eqv jL) (CL vz r CA hr Ay);rw [List.length_map] at g1 g2;omega
theorem fq.BF (h:fq N si al) (il: ∀x,x<N'->io x<N) (ii: ∀x y,x<N'->y<N'->io x=io y->x=y) (ls: ∀x,x<N'->si' x<N') (la: ∀x,x<N'->al' x<N')
  (es: ∀x,x<N'->io (si' x)=si (io x)) (ea: ∀x,x<N'->io (al' x)=al (io x)):fq N' si' al':=by
 obtain ⟨h1,h2,h3⟩:=MV h.perm h.e7 il ii ls la es ea;exact ⟨h1,h2,fun r hr=>(h3 r hr).1 (h.eq (io r) (il r hr))⟩
end
end Sp
namespace Sp
open Classical
def wB (al:Nat->Nat) (u v x:Nat):Nat:=if x=u then al v else if x=v then al u else x
def iT (al:Nat->Nat) (u v:Nat):Nat->Nat:=if al u=v then al else iU al u v
section
variable {N:Nat} {si al:Nat->Nat}
theorem TH (ha:mX N al) {u v h:Nat} (hu:u<N) (hv:v<N) (vt:u≠v) (hh:h<N) (h1:h≠u) (h2:h≠v):iT al u v h=wB al u v (al h):=by
 have ih:=ha.inv h hh;unfold iT wB;by_cases e:al u=v
 ·rw [zzJ e];have n1:al h≠u:=fun g=>h2 (by rw [<-ih,g,e]);have n2:al h≠v:=fun g=>h1 (by rw [<-ih,g,<-e,ha.inv u hu]);rw [zzI n1,zzI n2]
 ·rw [zzI e];unfold iU;rw [zzI h1,zzI h2];by_cases g1:h=al u
  ·rw [zzJ g1,zzJ (by rw [g1,ha.inv u hu])]
  ·rw [zzI g1];have n1:al h≠u:=fun g=>g1 (by rw [<-ih,g]);rw [zzI n1];by_cases g2:h=al v
   ·rw [zzJ g2,zzJ (by rw [g2,ha.inv v hv])]
   ·rw [zzI g2,zzI (fun g=>g2 (by rw [<-ih,g]))]
theorem fq.iT (h:fq N si al) {u v:Nat} (hu:u<N) (hv:v<N) (vt:u≠v) (s1:si u=v) (s2:si v=u):fq N si (iT al u v):=by
 unfold Sp.iT;by_cases e:al u=v
 ·rw [zzJ e];exact h
 ·rw [zzI e];exact h.tM hu hv vt s1 s2 e
end
theorem follow {u1 v1 u2 v2 h:Nat} {al T:Nat->Nat} {O:Nat->Prop} (i: ∀x,x=u1\/x=v1\/x=u2\/x=v2\/x=h->al (al x)=x/\al x≠x) (d:u1≠v1/\u1≠u2/\u1≠v2/\v1≠u2/\v1≠v2/\u2≠v2)
  (hh:h≠u1/\h≠v1/\h≠u2/\h≠v2) (T1:T u1=al v1) (T2:T v1=al u1) (T3:T u2=al v2) (T4:T v2=al u2) (TO: ∀x,x≠u1->x≠v1->x≠u2->x≠v2->T x=x):
  (if wB al u1 v1 (al h)=u2 then wB al u1 v1 (al v2) else if wB al u1 v1 (al h)=v2 then wB al u1 v1 (al u2) else wB al u1 v1 (al h))=T (T (T (T (T (al h))))):=by
 obtain ⟨d1,d2,d3,d4,d5,d6⟩:=d;obtain ⟨k1,k2,k3,k4⟩:=hh;have j1:=i u1 (by simp);have j2:=i v1 (by simp);have j3:=i u2 (by simp);have j4:=i v2 (by simp);have j5:=i h (by simp);have inj: ∀x y,(x=u1\/x=v1\/x=u2\/x=v2\/x=h)->(y=u1\/y=v1\/y=u2\/y=v2\/y=h)->al x=y->al y=x:=fun x y hx _ e=>by rw [<-e];exact (i x hx).1
 have stay: ∀x,x≠u1->x≠v1->x≠u2->x≠v2->T (T (T (T (T x))))=x/\T (T (T (T x)))=x/\T (T (T x))=x:=fun x a1 a2 a3 a4=>by
  have:=TO x a1 a2 a3 a4;simp only [this];simp
 unfold wB;by_cases c1:al h=u1
 ·have b1:al u1=h:=inj h u1 (by simp) (by simp) c1;rw [zzJ c1,c1,T1];have y1:al v1≠u1:=fun e=>k2 (by rw [<-b1];exact inj v1 u1 (by simp) (by simp) e);have y2:al v1≠v1:=j2.2;by_cases c2:al v1=u2
  ·have b2:al u2=v1:=inj v1 u2 (by simp) (by simp) c2;have z1:al v2≠u1:=fun e=>k4 (by rw [<-b1];exact inj v2 u1 (by simp) (by simp) e);have z2:al v2≠v1:=fun e=>d6 (by rw [<-c2];exact inj v2 v1 (by simp) (by simp) e);have z3:al v2≠u2:=fun e=>d5 (by rw [<-b2];exact inj v2 u2 (by simp) (by simp) e);rw [zzJ c2,zzI z1,zzI z2,c2,T3,(stay _ z1 z2 z3 j4.2).2.2]
  ·by_cases c3:al v1=v2
   ·have b2:al v2=v1:=inj v1 v2 (by simp) (by simp) c3;have z1:al u2≠u1:=fun e=>k3 (by rw [<-b1];exact inj u2 u1 (by simp) (by simp) e);have z2:al u2≠v1:=fun e=>d6 (by rw [<-c3];exact (inj u2 v1 (by simp) (by simp) e).symm);have z4:al u2≠v2:=fun e=>d4 (by rw [<-b2];exact inj u2 v2 (by simp) (by simp) e);rw [zzI c2,zzJ c3,zzI z1,zzI z2,c3,T4,(stay _ z1 z2 j3.2 z4).2.2]
   ·rw [zzI c2,zzI c3,(stay _ y1 y2 c2 c3).2.1]
 ·rw [zzI c1];by_cases Ie:al h=v1
  ·have b1:al v1=h:=inj h v1 (by simp) (by simp) Ie;rw [zzJ Ie,Ie,T2];have y1:al u1≠v1:=fun e=>k1 (by rw [<-b1];exact inj u1 v1 (by simp) (by simp) e);have y2:al u1≠u1:=j1.2;by_cases c2:al u1=u2
   ·have b2:al u2=u1:=inj u1 u2 (by simp) (by simp) c2;have z1:al v2≠v1:=fun e=>k4 (by rw [<-b1];exact inj v2 v1 (by simp) (by simp) e);have z2:al v2≠u1:=fun e=>d6 (by rw [<-c2];exact inj v2 u1 (by simp) (by simp) e);have z3:al v2≠u2:=fun e=>d3 (by rw [<-b2];exact inj v2 u2 (by simp) (by simp) e);rw [zzJ c2,zzI z2,zzI z1,c2,T3,(stay _ z2 z1 z3 j4.2).2.2]
   ·by_cases c3:al u1=v2
    ·have b2:al v2=u1:=inj u1 v2 (by simp) (by simp) c3;have z1:al u2≠v1:=fun e=>k3 (by rw [<-b1];exact inj u2 v1 (by simp) (by simp) e);have z2:al u2≠u1:=fun e=>d6 (by rw [<-c3];exact (inj u2 u1 (by simp) (by simp) e).symm);have z4:al u2≠v2:=fun e=>d2 (by rw [<-b2];exact inj u2 v2 (by simp) (by simp) e);rw [zzI c2,zzJ c3,zzI z2,zzI z1,c3,T4,(stay _ z2 z1 j3.2 z4).2.2]
    ·rw [zzI c2,zzI c3,(stay _ y2 y1 c2 c3).2.1]
  ·rw [zzI Ie];by_cases c4:al h=u2
   ·have b1:al u2=h:=inj h u2 (by simp) (by simp) c4;rw [zzJ c4,c4,T3];have y3:al v2≠u2:=fun e=>k4 (by rw [<-b1];exact inj v2 u2 (by simp) (by simp) e);by_cases c2:al v2=u1
    ·have b2:al u1=v2:=inj v2 u1 (by simp) (by simp) c2;have z1:al v1≠u1:=fun e=>d5 (by rw [<-b2];exact (inj v1 u1 (by simp) (by simp) e).symm);have z3:al v1≠u2:=fun e=>k2 (by rw [<-b1];exact inj v1 u2 (by simp) (by simp) e);have z4:al v1≠v2:=fun e=>d1 (by rw [<-c2];exact inj v1 v2 (by simp) (by simp) e);rw [zzJ c2,c2,T1,(stay _ z1 j2.2 z3 z4).2.2]
    ·by_cases c3:al v2=v1
     ·have b2:al v1=v2:=inj v2 v1 (by simp) (by simp) c3;have z2:al u1≠v1:=fun e=>d3 (by rw [<-b2];exact (inj u1 v1 (by simp) (by simp) e).symm);have z3:al u1≠u2:=fun e=>k1 (by rw [<-b1];exact inj u1 u2 (by simp) (by simp) e);have z4:al u1≠v2:=fun e=>d1 (by rw [<-c3];exact (inj u1 v2 (by simp) (by simp) e).symm);rw [zzI c2,zzJ c3,c3,T2,(stay _ j1.2 z2 z3 z4).2.2]
     ·rw [zzI c2,zzI c3,(stay _ c2 c3 y3 j4.2).2.1]
   ·rw [zzI c4];by_cases c5:al h=v2
    ·have b1:al v2=h:=inj h v2 (by simp) (by simp) c5;rw [zzJ c5,c5,T4];have y3:al u2≠v2:=fun e=>k3 (by rw [<-b1];exact inj u2 v2 (by simp) (by simp) e);by_cases c2:al u2=u1
     ·have b2:al u1=u2:=inj u2 u1 (by simp) (by simp) c2;have z1:al v1≠u1:=fun e=>d4 (by rw [<-b2];exact (inj v1 u1 (by simp) (by simp) e).symm);have z3:al v1≠v2:=fun e=>k2 (by rw [<-b1];exact inj v1 v2 (by simp) (by simp) e);have z4:al v1≠u2:=fun e=>d1 (by rw [<-c2];exact inj v1 u2 (by simp) (by simp) e);rw [zzJ c2,c2,T1,(stay _ z1 j2.2 z4 z3).2.2]
     ·by_cases c3:al u2=v1
      ·have b2:al v1=u2:=inj u2 v1 (by simp) (by simp) c3;have z2:al u1≠v1:=fun e=>d2 (by rw [<-b2];exact (inj u1 v1 (by simp) (by simp) e).symm);have z3:al u1≠v2:=fun e=>k1 (by rw [<-b1];exact inj u1 v2 (by simp) (by simp) e);have z4:al u1≠u2:=fun e=>d1 (by rw [<-c3];exact (inj u1 u2 (by simp) (by simp) e).symm);rw [zzI c2,zzJ c3,c3,T2,(stay _ j1.2 z2 z4 z3).2.2]
      ·rw [zzI c2,zzI c3,(stay _ c2 c3 j3.2 y3).2.1]
    ·rw [zzI c5,(stay _ c1 Ie c4 c5).1]
end Sp
namespace Sp
open Classical
theorem Ci (l k:List Int) (i:Nat) (h:i<l.length):(l++k).getD i 0=l.getD i 0:=by
 rw [zzB,zzB,List.getElem?_append_left h]
theorem Ch (l k:List Int) (i:Nat) (h:l.length<=i):(l++k).getD i 0=k.getD (i-l.length) 0:=by
 rw [zzB,zzB,List.getElem?_append_right h]
theorem mn {E:List Int} {c:Nat}: ∀k,(cO E c k).length=4*(if c<k then k-1 else k)/\ ∀x,x<4*(if c<k then k-1 else k)->(cO E c k).getD x 0=dq E c (if x/4<c then x else x+4)
 |0=>by simp [cO]
 |k+1=>by
  obtain ⟨h1,h2⟩:=mn (E:=E) (c:=c) k;by_cases hk:k=c
  ·have e:cO E c (k+1)=cO E c k:=by simp [cO,hk]
   rw [e,zzJ (by omega)];rw [zzI (by omega)] at h1 h2;exact ⟨by omega,fun x hx=>h2 x (by omega)⟩
  ·have e:cO E c (k+1)=cO E c k++[dq E c (4*k),dq E c (4*k+1),dq E c (4*k+2),dq E c (4*k+3)]:=by simp [cO,dP,hk]
   rw [e];by_cases jT:c<k
   ·rw [zzJ jT] at h1 h2;rw [zzJ (by omega)];refine ⟨by simp [h1];omega,fun x hx=>?_⟩;by_cases zi:x<4*(k-1)
    ·rw [Ci _ _ _ (by omega)];exact h2 x zi
    ·rw [Ch _ _ _ (by omega),h1];have Po:x=4*(k-1)\/x=4*(k-1)+1\/x=4*(k-1)+2\/x=4*(k-1)+3:=by omega
     rw [zzI (by omega)];rcases Po with rfl|rfl|rfl|rfl
     ·rw [show 4*(k-1)-4*(k-1)=0 by omega,show 4*(k-1)+4=4*k by omega];rfl
     ·rw [show 4*(k-1)+1-4*(k-1)=1 by omega,show 4*(k-1)+1+4=4*k+1 by omega];rfl
     ·rw [show 4*(k-1)+2-4*(k-1)=2 by omega,show 4*(k-1)+2+4=4*k+2 by omega];rfl
     ·rw [show 4*(k-1)+3-4*(k-1)=3 by omega,show 4*(k-1)+3+4=4*k+3 by omega];rfl
   ·rw [zzI jT] at h1 h2;rw [zzI (by omega)];refine ⟨by simp [h1];omega,fun x hx=>?_⟩;by_cases zi:x<4*k
    ·rw [Ci _ _ _ (by omega)];exact h2 x zi
    ·rw [Ch _ _ _ (by omega),h1];have Po:x=4*k\/x=4*k+1\/x=4*k+2\/x=4*k+3:=by omega
     rw [zzJ (by omega)];rcases Po with rfl|rfl|rfl|rfl
     ·rw [show 4*k-4*k=0 by omega];rfl
     ·rw [show 4*k+1-4*k=1 by omega];rfl
     ·rw [show 4*k+2-4*k=2 by omega];rfl
     ·rw [show 4*k+3-4*k=3 by omega];rfl
theorem XX (c:Nat):aI false (4*c)=4*c+1/\aI false (4*c+1)=4*c/\aI false (4*c+2)=4*c+3/\aI false (4*c+3)=4*c+2:=by
 unfold aI;simp only [s6,sQ];refine ⟨?_,?_,?_,?_⟩<;>(split<;>rename_i h<;>simp at h<;>omega)
theorem XW (c:Nat):aI true (4*c)=4*c+3/\aI true (4*c+1)=4*c+2/\aI true (4*c+2)=4*c+1/\aI true (4*c+3)=4*c:=by
 unfold aI;simp only [s6,sQ];refine ⟨?_,?_,?_,?_⟩<;>(split<;>rename_i h<;>simp at h<;>omega)
theorem Ab (c:Nat):(aI false ((4*c:Nat):Int)).toNat=4*c+1/\(aI false ((4*c+1:Nat):Int)).toNat=4*c/\(aI false ((4*c+2:Nat):Int)).toNat=4*c+3/\(aI false ((4*c+3:Nat):Int)).toNat=4*c+2:=by
 obtain ⟨h1,h2,h3,h4⟩:=XX c;refine ⟨?_,?_,?_,?_⟩
 ·rw [show ((4*c:Nat):Int)=4*c by omega,h1];omega
 ·rw [show ((4*c+1:Nat):Int)=4*c+1 by omega,h2];omega
 ·rw [show ((4*c+2:Nat):Int)=4*c+2 by omega,h3];omega
 ·rw [show ((4*c+3:Nat):Int)=4*c+3 by omega,h4];omega
theorem Aa (c:Nat):(aI true ((4*c:Nat):Int)).toNat=4*c+3/\(aI true ((4*c+1:Nat):Int)).toNat=4*c+2/\(aI true ((4*c+2:Nat):Int)).toNat=4*c+1/\(aI true ((4*c+3:Nat):Int)).toNat=4*c:=by
 obtain ⟨h1,h2,h3,h4⟩:=XW c;refine ⟨?_,?_,?_,?_⟩
 ·rw [show ((4*c:Nat):Int)=4*c by omega,h1];omega
 ·rw [show ((4*c+1:Nat):Int)=4*c+1 by omega,h2];omega
 ·rw [show ((4*c+2:Nat):Int)=4*c+2 by omega,h3];omega
 ·rw [show ((4*c+3:Nat):Int)=4*c+3 by omega,h4];omega
section
variable {m:List Int} {n c:Nat} {b:Bool}
def vZ (m:List Int) (b:Bool) (c x:Nat):Nat:=if x/4=c then aW m (aI b x).toNat else x
theorem LP (h:oA m n) (hc:c<n): ∀f x:Nat,x<4*n->dn m b c f x=(itn (vZ m b c) f x:Nat)
 |0,x,_=>rfl
 |f+1,x,hx=>by
  simp only [itn];rw [<-B4 (vZ m b c) f x];by_cases uD:x/4=c
  ·have hj:=qG b (x:Int);have hl:(aI b (x:Int)).toNat<4*n:=by omega
   have e1:vZ m b c x=aW m (aI b x).toNat:=by unfold vZ;rw [zzJ uD]
   rw [e1,Fj (by omega),<-h.cast hl];exact LP h hc f _ (h.e7.lt _ hl)
  ·have e1:vZ m b c x=x:=by unfold vZ;rw [zzI uD]
   rw [e1,<-LP h hc f x hx,BX (by omega),BX (by omega)]
theorem yx4 (h:oA m n) (hc:c<n) (iw:qI m n=true):oA (cO (fv m b c (4*n)) c n) (n-1)/\qI (cO (fv m b c (4*n)) c n) (n-1)=true:=by
 have iR:=h.dw.ok.1;have hS:=h.te.1 iw;have ha:=h.e7;obtain ⟨u1,tp⟩: ∃u,u=4*c:=⟨_,rfl⟩;obtain ⟨u2,wh⟩: ∃u,u=4*c+2:=⟨_,rfl⟩;obtain ⟨v1,hv1⟩: ∃v,v=if b then 4*c+3 else 4*c+1:=⟨_,rfl⟩;obtain ⟨v2,hv2⟩: ∃v,v=if b then 4*c+1 else 4*c+3:=⟨_,rfl⟩;obtain ⟨p,hp⟩: ∃p,p=if b then 4*c+1 else 4*c:=⟨_,rfl⟩;obtain ⟨q,hq⟩: ∃q,q=if b then 4*c+3 else 4*c+2:=⟨_,rfl⟩
 have hb:(v1=4*c+3/\v2=4*c+1/\p=4*c+1/\q=4*c+3/\b=true)\/(v1=4*c+1/\v2=4*c+3/\p=4*c/\q=4*c+2/\b=false):=by
  cases b
  ·exact .inr ⟨hv1,hv2,hp,hq,rfl⟩
  ·exact .inl ⟨hv1,hv2,hp,hq,rfl⟩
 have KZ:=hS.split (p:=p) (q:=q) (by omega) (by omega) (by omega) (nr.2 (by omega));have sj:swp bt p q u1=v1/\swp bt p q v1=u1/\swp bt p q u2=v2/\swp bt p q v2=u2:=by
  unfold swp bt;rcases hb with ⟨e1,e2,e3,e4,_⟩|⟨e1,e2,e3,e4,_⟩<;>subst tp wh e1 e2 e3 e4<;>refine ⟨?_,?_,?_,?_⟩<;>(repeat' split)<;>omega
 have so: ∀x,x/4≠c->swp bt p q x=bt x:=fun x hx=>by unfold swp;rw [zzI (by omega),zzI (by omega)]
 have HE:=KZ.iT (u:=u1) (v:=v1) (by omega) (by omega) (by omega) sj.1 sj.2.1;have hS3:=HE.iT (u:=u2) (v:=v2) (by omega) (by omega) (by omega) sj.2.2.1 sj.2.2.2;have f1: ∀x,x<4*n->x≠u1->x≠v1->iT (aW m) u1 v1 x=wB (aW m) u1 v1 (aW m x):=fun x hx h1 h2=>TH ha (by omega) (by omega) (by omega) hx h1 h2
 have G5: ∀x,x<4*n->x/4≠c->((iT (iT (aW m) u1 v1) u2 v2 x:Nat):Int)=dn m b c 5 (m.getD x 0):=fun x hx uD=>by
  have bH:=ha.lt x hx;rw [<-h.cast hx,LP h hc 5 _ bH];congr 1;rw [TH HE.e7 (by omega) (by omega) (by omega) hx (by omega) (by omega)];rw [f1 x hx (by omega) (by omega)]
  have key:=follow (u1:=u1) (v1:=v1) (u2:=u2) (v2:=v2) (h:=x) (al:=aW m) (T:=vZ m b c) (O:=fun _=>True)
   (fun y hy=>⟨ha.inv y (by omega),ha.ne y (by omega)⟩) (by omega) (by omega)
   (by
    unfold vZ;rw [zzJ (by omega)];congr 1;rcases hb with ⟨e1,_,_,_,rfl⟩|⟨e1,_,_,_,rfl⟩
    ·rw [tp,(Aa c).1,e1]
    ·rw [tp,(Ab c).1,e1])
   (by
    unfold vZ;rw [zzJ (by omega)];congr 1;rcases hb with ⟨e1,_,_,_,rfl⟩|⟨e1,_,_,_,rfl⟩
    ·rw [e1,(Aa c).2.2.2,tp]
    ·rw [e1,(Ab c).2.1,tp])
   (by
    unfold vZ;rw [zzJ (by omega)];congr 1;rcases hb with ⟨_,e2,_,_,rfl⟩|⟨_,e2,_,_,rfl⟩
    ·rw [wh,(Aa c).2.2.1,e2]
    ·rw [wh,(Ab c).2.2.1,e2])
   (by
    unfold vZ;rw [zzJ (by omega)];congr 1;rcases hb with ⟨_,e2,_,_,rfl⟩|⟨_,e2,_,_,rfl⟩
    ·rw [e2,(Aa c).2.1,wh]
    ·rw [e2,(Ab c).2.2.2,wh])
   (fun y h1 h2 h3 h4=>by unfold vZ;rw [zzI (by omega)])
  show (if wB (aW m) u1 v1 (aW m x)=u2 then iT (aW m) u1 v1 v2 else if wB (aW m) u1 v1 (aW m x)=v2 then iT (aW m) u1 v1 u2 else wB (aW m) u1 v1 (aW m x))=_;rw [f1 v2 (by omega) (by omega) (by omega),f1 u2 (by omega) (by omega) (by omega)];exact key
 obtain ⟨wl,wg⟩:=mn (E:=fv m b c (4*n)) (c:=c) n;rw [zzJ hc] at wl wg;obtain ⟨io,uK⟩: ∃io:Nat->Nat,∀x,io x=if x/4<c then x else x+4:=⟨_,fun _=>rfl⟩;have Pf: ∀x,x<4*(n-1)->io x<4*n/\io x/4≠c:=fun x hx=>by rw [uK];split<;>omega
 have hget: ∀x,x<4*(n-1)-> ∃y:Nat,y<4*n/\y/4≠c/\iT (iT (aW m) u1 v1) u2 v2 (io x)=y/\(cO (fv m b c (4*n)) c n).getD x 0=((if c<y/4 then y-4 else y:Nat):Int):=fun x hx=>by
  have hi:=Pf x hx;have e1:=G5 (io x) hi.1 hi.2;have qP:=Eb (b:=b) h.dw hc hi.1 hi.2;have CR:=MY (b:=b) h.dw hc 5 (m.getD (io x) 0) (by have:=h.dw.ok.2 (io x) hi.1;unfold av;omega);unfold av at CR;refine ⟨iT (iT (aW m) u1 v1) u2 v2 (io x),by omega,by omega,rfl,?_⟩;rw [wg x hx,<-uK x];have e2:(fv m b c (4*n)).getD (io x) 0=dn m b c 5 (m.getD (io x) 0):=by
   have: ∀k,k<=m.length->io x<k->(fv m b c k).getD (io x) 0=dn m b c 5 (m.getD (io x) 0):=fun k=>by
    induction k with
    |zero=>intro _ h;omega
    |succ k ih=>
     intro hk aD;have hl:=Mq (m:=m) (b:=b) (c:=c) k;simp only [fv];by_cases oi:k/4=c
     ·rw [zzJ oi]
      have:io x≠k:=fun e=>hi.2 (by rw [e];exact oi)
      exact ih (by omega) (by omega)
     ·rw [zzI oi];by_cases e:k=io x
      ·rw [<-e,nY (by omega)]
      ·rw [nZ e];exact ih (by omega) (by omega)
   exact this (4*n) (by omega) hi.1
  unfold dq;rw [e2,<-e1];generalize iT (iT (aW m) u1 v1) u2 v2 (io x)=y at*;by_cases hy:c<y/4
  ·rw [zzJ hy,zzJ (by omega)];omega
  ·rw [zzI hy,zzI (by omega)]
 have vH: ∀x,x<4*(n-1)->aW (cO (fv m b c (4*n)) c n) x<4*(n-1)/\io (aW (cO (fv m b c (4*n)) c n) x)=iT (iT (aW m) u1 v1) u2 v2 (io x)/\((aW (cO (fv m b c (4*n)) c n) x:Nat):Int)=(cO (fv m b c (4*n)) c n).getD x 0:=fun x hx=>by
  obtain ⟨y,y1,y2,y3,y4⟩:=hget x hx;have e:aW (cO (fv m b c (4*n)) c n) x=if c<y/4 then y-4 else y:=by unfold aW;rw [y4,zzC]
  rw [e,y3];refine ⟨by split<;>omega,?_,y4.symm⟩;rw [uK];by_cases hy:c<y/4
  ·rw [zzJ hy,zzI (by omega)];omega
  ·rw [zzI hy,zzJ (by omega)]
 have QE:fq (4*(n-1)) bt (aW (cO (fv m b c (4*n)) c n)):=by
  refine hS3.BF (io:=io) (fun x hx=>(Pf x hx).1) (fun x y hx hy e=>?_) (fun x hx=>(aO (n-1)).lt x hx) (fun x hx=>(vH x hx).1) (fun x hx=>?_) (fun x hx=>(vH x hx).2.1)
  ·rw [uK,uK] at e;by_cases h1:x/4<c<;>by_cases h2:y/4<c
   ·rw [zzJ h1,zzJ h2] at e;exact e
   ·rw [zzJ h1,zzI h2] at e;omega
   ·rw [zzI h1,zzJ h2] at e;omega
   ·rw [zzI h1,zzI h2] at e;omega
  ·rw [so _ (Pf x hx).2,uK,uK,kg];by_cases h1:x/4<c
   ·rw [zzJ h1,zzJ h1]
   ·rw [zzI h1,zzI h1];unfold bt;omega
 have hD:oA (cO (fv m b c (4*n)) c n) (n-1):=by
  refine ⟨⟨⟨wl,fun i hi=>?_⟩,fun x hx=>?_⟩,fun x hx e=>?_⟩
  ·have:=vH i hi;omega
  ·have h1:=vH x hx;have h2:=QE.e7.inv x hx;have h3:=vH _ h1.1;rw [h2] at h3;rw [<-h1.2.2,zzC,<-h3.2.2]
  ·have h1:=vH x hx;exact QE.e7.ne x hx (by omega)
 exact ⟨hD,hD.te.2 QE⟩
end
end Sp
end Go.Proofs.YtjpbeacamoijhaaGreatDoor
