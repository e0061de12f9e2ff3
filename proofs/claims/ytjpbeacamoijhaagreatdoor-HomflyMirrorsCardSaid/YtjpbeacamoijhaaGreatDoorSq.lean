/- Maps on the sphere; a smoothed diagram stays on it. -/
import Derived.Test.YtjpbeacamoijhaaGreatDoorPl
set_option linter.unusedSimpArgs false
set_option linter.unusedVariables false
namespace Go.Proofs.YtjpbeacamoijhaaGreatDoor
namespace Sp
def itn (f:Nat->Nat):Nat->Nat->Nat
 |0,x=>x
 |k+1,x=>f (itn f k x)
theorem dC (f:Nat->Nat) (i:Nat): ∀j x,itn f (i+j) x=itn f i (itn f j x):=by
 induction i with
 |zero=>intro j x;simp [itn]
 |succ i ih=>intro j x;rw [Nat.succ_add];simp only [itn];rw [ih]
theorem Bj (f:Nat->Nat) (k x:Nat):itn f k (f x)=f (itn f k x):=by
 have h:=dC f k 1 x;rw [Nat.add_comm k 1,dC f 1 k x] at h;exact h.symm
structure aw (N:Nat) (f:Nat->Nat):Prop where
 lt: ∀x,x<N->f x<N
 inj: ∀x y,x<N->y<N->f x=f y->x=y
section
variable {N:Nat} {f:Nat->Nat}
theorem aw.a7 (h:aw N f) {x:Nat} (hx:x<N): ∀k,itn f k x<N
 |0=>hx
 |k+1=>h.lt _ (h.a7 hx k)
theorem aw.qq (h:aw N f) {x y:Nat} (hx:x<N) (hy:y<N): ∀k,itn f k x=itn f k y->x=y
 |0,e=>e
 |k+1,e=>h.qq hx hy k (h.inj _ _ (h.a7 hx k) (h.a7 hy k) e)
theorem XC {l:List Nat} (hn:l.Nodup) (hl: ∀x∈l,x<N):l.length<=N:=by
 have: ∀(N:Nat) (l:List Nat),l.Nodup->(∀x∈l,x<N)->l.length<=N:=by
  intro N
  induction N with
  |zero=>intro l _ h;cases l with
   |nil=>simp
   |cons a l=>exact absurd (h a (by simp)) (by omega)
  |succ N ih=>
   intro l hn h;have h1:=ih (l.erase N) (hn.erase N) (fun x hx=>by
    have h2:=h x (List.mem_of_mem_erase hx);have h3:x≠N:=fun e=>by subst e;exact (List.Nodup.not_mem_erase hn) hx
    omega)
   have h4:=List.length_erase_le (a:=N) (l:=l);by_cases hm:N∈l
   ·have:=List.length_erase_of_mem hm;omega
   ·rw [List.erase_of_not_mem hm] at h1;omega
 exact this N l hn hl
theorem aw.back (h:aw N f) {x:Nat} (hx:x<N): ∃k,0<k/\itn f k x=x:=by
 apply Classical.byContradiction;intro iy;have ax: ∀i j,i<j->itn f i x≠itn f j x:=fun i j ke e=>by
  refine iy ⟨j-i,by omega,?_⟩;have e2:itn f i (itn f (j-i) x)=itn f i x:=by rw [←dC,show i+(j-i)=j by omega];exact e.symm
  exact h.qq (h.a7 hx _) hx i e2
 have hnd:((List.range (N+1)).map fun i=>itn f i x).Nodup:=by
  rw [List.Nodup,List.pairwise_map];refine List.Pairwise.imp_of_mem ?_ (List.pairwise_lt_range);intro i j _ _ ke;exact ax i j ke
 have:=XC (N:=N) hnd (fun y hy=>by
  obtain ⟨i,_,rfl⟩:=List.mem_map.1 hy;exact h.a7 hx i)
 simp at this;omega
def SC (f:Nat->Nat) (x y:Nat):Prop:= ∃k,itn f k x=y
theorem SC.refl (f:Nat->Nat) (x:Nat):SC f x x:=⟨0,rfl⟩
theorem SC.step (f:Nat->Nat) (x:Nat):SC f x (f x):=⟨1,rfl⟩
theorem SC.trans {x y z:Nat} (h:SC f x y) (k:SC f y z):SC f x z:=by
 obtain ⟨i,rfl⟩:=h;obtain ⟨j,rfl⟩:=k;exact ⟨j+i,dC f j i x⟩
theorem SC.symm (hp:aw N f) {x y:Nat} (hx:x<N) (h:SC f x y):SC f y x:=by
 obtain ⟨i,rfl⟩:=h;obtain ⟨p,ud,yt⟩:=hp.back hx;have hmul: ∀n,itn f (n*p) x=x:=fun n=>by
  induction n with
  |zero=>simp [itn]
  |succ n ih=>rw [Nat.succ_mul,dC,yt];exact ih
 refine ⟨(i+1)*p-i,?_⟩;rw [←dC]
 have:i<=(i+1)*p:=by
  have:=Nat.mul_le_mul_left (i+1) ud;omega
 rw [show (i+1)*p-i+i=(i+1)*p by omega];exact hmul _
structure jM (N:Nat) (E:Nat->Nat->Prop):Prop where
 cw: ∀x,x<N->E x x
 symm: ∀x y,x<N->y<N->E x y->E y x
 trans: ∀x y z,x<N->y<N->z<N->E x y->E y z->E x z
theorem SC.eqv (hp:aw N f):jM N (SC f):=⟨fun x _=> .refl f x,fun _ _ hx _ h=>h.symm hp hx,fun _ _ _ _ _ _ h k=>h.trans k⟩
def j8 (E:Nat->Nat->Prop) (a b x y:Nat):Prop:=E x y\/(E x a/\E b y)\/(E x b/\E a y)
theorem j8.eqv {E:Nat->Nat->Prop} (h:jM N E) {a b:Nat} (ha:a<N) (hb:b<N):jM N (j8 E a b):=by
 refine ⟨fun x hx=> .inl (h.cw x hx),fun x y hx hy e=>?_,fun x y z hx hy hz e e'=>?_⟩
 ·rcases e with e|⟨e1,e2⟩|⟨e1,e2⟩
  ·exact .inl (h.symm _ _ hx hy e)
  ·exact .inr (.inr ⟨h.symm _ _ hb hy e2,h.symm _ _ hx ha e1⟩)
  ·exact .inr (.inl ⟨h.symm _ _ ha hy e2,h.symm _ _ hx hb e1⟩)
 ·rcases e with e|⟨e1,e2⟩|⟨e1,e2⟩<;>rcases e' with e'|⟨e3,e4⟩|⟨e3,e4⟩
  ·exact .inl (h.trans _ _ _ hx hy hz e e')
  ·exact .inr (.inl ⟨h.trans _ _ _ hx hy ha e e3,e4⟩)
  ·exact .inr (.inr ⟨h.trans _ _ _ hx hy hb e e3,e4⟩)
  ·exact .inr (.inl ⟨e1,h.trans _ _ _ hb hy hz e2 e'⟩)
  ·exact .inr (.inl ⟨e1,e4⟩)
  ·exact .inl (h.trans _ _ _ hx ha hz e1 e4)
  ·exact .inr (.inr ⟨e1,h.trans _ _ _ ha hy hz e2 e'⟩)
  ·exact .inl (h.trans _ _ _ hx hb hz e1 e4)
  ·exact .inr (.inr ⟨e1,e4⟩)
def swp (f:Nat->Nat) (a b x:Nat):Nat:=if x=a then f b else if x=b then f a else f x
theorem Ab (f:Nat->Nat) (a b:Nat):swp (swp f a b) a b=f:=by
 funext x;unfold swp;by_cases h1:x=a
 ·subst h1;rw [if_pos rfl];by_cases h2:b=x
  ·subst h2;simp
  ·rw [if_neg h2,if_pos rfl]
 ·rw [if_neg h1];by_cases h2:x=b
  ·subst h2;rw [if_pos rfl,if_pos rfl]
  ·rw [if_neg h2,if_neg h1,if_neg h2]
theorem yg (hp:aw N f) {a b:Nat} (ha:a<N) (hb:b<N):aw N (swp f a b):=by
 refine ⟨fun x hx=>?_,fun x y hx hy e=>?_⟩
 ·unfold swp;split
  ·exact hp.lt _ hb
  ·split
   ·exact hp.lt _ ha
   ·exact hp.lt _ hx
 ·unfold swp at e
  split at e<;>split at e<;>(try split at e)<;>(try split at e)<;>(have:=hp.inj _ _ (by assumption) (by assumption) e;omega)
theorem Mj {a b x:Nat} (n:Nat) (h: ∀j,j<n->itn f j x≠a/\itn f j x≠b): ∀j,j<=n->itn (swp f a b) j x=itn f j x
 |0,_=>rfl
 |j+1,hj=>by
  simp only [itn];rw [Mj n h j (by omega)]
  have:=h j (by omega)
  unfold swp;rw [if_neg this.1,if_neg this.2]
theorem XB {x y:Nat} (h:SC f x y): ∃k,itn f k x=y/\ ∀j,j<k->itn f j x≠y:=by
 obtain ⟨k,hk⟩:=h
 induction k using Nat.strongRecOn with
 |ind k ih=>
  by_cases hj: ∃j,j<k/\itn f j x=y
  ·obtain ⟨j,h1,h2⟩:=hj;exact ih j h1 h2
  ·exact ⟨k,hk,fun j h1 h2=>hj ⟨j,h1,h2⟩⟩
theorem oO (hp:aw N f) {x:Nat} (hx:x<N): ∃k,0<k/\itn f k x=x/\ ∀j,0<j->j<k->itn f j x≠x:=by
 obtain ⟨k,h0,hk⟩:=hp.back hx
 induction k using Nat.strongRecOn with
 |ind k ih=>
  by_cases hj: ∃j,0<j/\j<k/\itn f j x=x
  ·obtain ⟨j,h1,h2,h3⟩:=hj;exact ih j h2 h1 h3
  ·exact ⟨k,h0,hk,fun j h1 h2 h3=>hj ⟨j,h1,h2,h3⟩⟩
theorem XA (hp:aw N f) {a b:Nat} (hb:b<N) (iy: ¬SC f a b):SC (swp f a b) a b:=by
 obtain ⟨k,h0,hk,hf⟩:=oO hp hb;obtain ⟨n,rfl⟩: ∃n,k=n+1:=⟨k-1,by omega⟩;have hs: ∀j,j<n->itn f j (f b)≠a/\itn f j (f b)≠b:=fun j hj=>by
  rw [Bj];refine ⟨fun e=>iy ?_,hf (j+1) (by omega) (by omega)⟩;exact (show SC f b a from ⟨j+1,e⟩).symm hp hb
 have h1:=Mj (f:=f) (a:=a) (b:=b) n hs n (Nat.le_refl _);refine ⟨n+1,?_⟩;have e:itn (swp f a b) (n+1) a=itn (swp f a b) n (swp f a b a):=by simp only [itn];rw [Bj]
 rw [e,show swp f a b a=f b by unfold swp;rw [if_pos rfl],h1,Bj];exact hk
theorem vy (hp:aw N f) {a b:Nat} (ha:a<N) (hb:b<N) (iy: ¬SC f a b): ∀x y,x<N->y<N->(SC (swp f a b) x y↔j8 (SC f) a b x y):=by
 have kb:=yg hp ha hb;have lW:=XA hp hb iy;have rK:SC (swp f a b) b a:=lW.symm kb ha;have hE:=SC.eqv hp;have hJ:=j8.eqv hE ha hb;have wC: ∀x,SC (swp f a b) x (f x):=fun x=>by
  by_cases h1:x=a
  ·subst h1;refine lW.trans ⟨1,?_⟩;show swp f x b b=f x;unfold swp;by_cases h2:b=x
   ·rw [if_pos h2,h2]
   ·rw [if_neg h2,if_pos rfl]
  ·by_cases h2:x=b
   ·subst h2;refine rK.trans ⟨1,?_⟩;show swp f a x a=f x;unfold swp;rw [if_pos rfl]
   ·refine ⟨1,?_⟩;show swp f a b x=f x;unfold swp;rw [if_neg h1,if_neg h2]
 have FT: ∀k x,SC (swp f a b) x (itn f k x):=fun k x=>by
  induction k with
  |zero=>exact .refl _ _
  |succ k ih=>exact ih.trans (wC _)
 have wv: ∀x y,SC f x y->SC (swp f a b) x y:=fun x y ⟨k,hk⟩=>hk▸FT k x;intro x y hx hy;constructor
 ·rintro ⟨k,rfl⟩;clear hy
  induction k with
  |zero=>exact .inl (.refl _ _)
  |succ k ih=>
   have ay:=kb.a7 hx k;refine hJ.trans _ _ _ hx ay (kb.lt _ ay) ih ?_;simp only [itn];generalize itn (swp f a b) k x=z;unfold swp
   split
   ·subst z;exact .inr (.inl ⟨.refl _ _, .step _ _⟩)
   ·split
    ·subst z;exact .inr (.inr ⟨.refl _ _, .step _ _⟩)
    ·exact .inl (.step _ _)
 ·rintro (h|⟨h1,h2⟩|⟨h1,h2⟩)
  ·exact wv _ _ h
  ·exact (wv _ _ h1).trans (lW.trans (wv _ _ h2))
  ·exact (wv _ _ h1).trans (rK.trans (wv _ _ h2))
theorem Ag (hp:aw N f) {a b:Nat} (ha:a<N) (lW:a≠b) (hs:SC f a b): ¬SC (swp f a b) a b:=by
 obtain ⟨k,hk,hf⟩:=XB (hs.symm hp ha);have yz:0<k:=by
  rcases Nat.eq_zero_or_pos k with h|h
  ·subst h;exact absurd hk.symm lW
  ·exact h
 have vK: ∀j,0<j->j<=k->itn f j b≠b:=fun j h1 h2 e=>by
  have e2:itn f (k-j) b=a:=by
   have:itn f (k-j) (itn f j b)=a:=by rw [←dC,show k-j+j=k by omega];exact hk
   rwa [e] at this
  exact hf (k-j) (by omega) e2
 obtain ⟨n,rfl⟩: ∃n,k=n+1:=⟨k-1,by omega⟩;have o9: ∀j,j<n->itn f j (f b)≠a/\itn f j (f b)≠b:=fun j hj=>by
  rw [Bj];exact ⟨hf (j+1) (by omega),vK (j+1) (by omega) (by omega)⟩
 have h1:=Mj (f:=f) (a:=a) (b:=b) n o9;have hsa:swp f a b a=f b:=by unfold swp;rw [if_pos rfl]
 have GB: ∀j,j<=n->itn (swp f a b) (j+1) a=itn f (j+1) b:=fun j hj=>by
  have e:itn (swp f a b) (j+1) a=itn (swp f a b) j (swp f a b a):=by simp only [itn];rw [Bj]
  rw [e,hsa,h1 j hj,Bj];rfl
 have xc:itn (swp f a b) (n+1) a=a:=by rw [GB n (Nat.le_refl _)];exact hk
 have hmul: ∀q,itn (swp f a b) (q*(n+1)) a=a:=fun q=>by
  induction q with
  |zero=>simp [itn]
  |succ q ih=>rw [Nat.succ_mul,dC,xc];exact ih
 rintro ⟨i,hi⟩;have e:itn (swp f a b) (i %(n+1)) a=b:=by
  have:itn (swp f a b) (i %(n+1)+(i/(n+1))*(n+1)) a=b:=by
   rw [show i %(n+1)+i/(n+1)*(n+1)=i by rw [Nat.mul_comm];exact Nat.mod_add_div i (n+1)];exact hi
  rwa [dC,hmul] at this
 have ay:=Nat.mod_lt i (show n+1>0 by omega);rcases Nat.eq_zero_or_pos (i %(n+1)) with h|h
 ·rw [h] at e;exact lW e
 ·obtain ⟨j,hj⟩: ∃j,i %(n+1)=j+1:=⟨i %(n+1)-1,by omega⟩;rw [hj,GB j (by omega)] at e;exact vK (j+1) (by omega) (by omega) e
structure Tr (N:Nat) (U:Nat->Prop) (E:Nat->Nat->Prop) (l:List Nat):Prop where
 mem: ∀x∈l,x<N/\U x
 nodup:l.Nodup
 apart: ∀x∈l,∀y∈l,E x y->x=y
 all: ∀x,x<N->U x-> ∃y∈l,E x y
variable {U:Nat->Prop} {E E':Nat->Nat->Prop} {l l':List Nat}
theorem Ba {α β:Type} [DecidableEq β]: ∀(l:List α) (k:List β) (g:α->β),l.Nodup->(∀x∈l,g x∈k)->(∀x∈l,∀y∈l,g x=g y->x=y)->l.length<=k.length
 |[],k,g,_,_,_=>by simp
 |a::l,k,g,hn,hm,hi=>by
  have h1:=Ba l (k.erase (g a)) g (List.nodup_cons.1 hn).2 (fun x hx=>by
   have ax:g x≠g a:=fun e=>by
    have:=hi x (by simp [hx]) a (by simp) e
    subst this;exact (List.nodup_cons.1 hn).1 hx
   exact (List.mem_erase_of_ne ax).2 (hm x (by simp [hx]))) (fun x hx y hy=>hi x (by simp [hx]) y (by simp [hy]))
  have h2:=List.length_erase_of_mem (hm a (by simp));have h3:0<k.length:=List.length_pos_of_mem (hm a (by simp));simp only [List.length_cons];omega
theorem Tr.le (hE:jM N E) (h:Tr N U E l) (h':Tr N U E l'):l.length<=l'.length:=by
 have hc: ∀x,∃y,x∈l->(y∈l'/\E x y):=fun x=>by
  by_cases hx:x∈l
  ·obtain ⟨y,h1,h2⟩:=h'.all x (h.mem x hx).1 (h.mem x hx).2;exact ⟨y,fun _=>⟨h1,h2⟩⟩
  ·exact ⟨0,fun h=>absurd h hx⟩
 obtain ⟨g,hg⟩:=Classical.axiomOfChoice hc;refine Ba l l' g h.nodup (fun x hx=>(hg x hx).1) fun x hx y hy e=>?_;have h1:=hg x hx;have h2:=hg y hy;rw [e] at h1;exact h.apart x hx y hy (hE.trans _ _ _ (h.mem x hx).1 (h'.mem _ h2.1).1 (h.mem y hy).1 h1.2 (hE.symm _ _ (h.mem y hy).1 (h'.mem _ h2.1).1 h2.2))
theorem Tr.bF (hE:jM N E) (h:Tr N U E l) (h':Tr N U E l'):l.length=l'.length:=Nat.le_antisymm (h.le hE h') (h'.le hE h)
theorem Tr.congr (h:Tr N U E l) (he: ∀x y,x<N->y<N->(E x y↔E' x y)):Tr N U E' l:=
 ⟨h.mem,h.nodup,fun x hx y hy e=>h.apart x hx y hy ((he x y (h.mem x hx).1 (h.mem y hy).1).2 e),fun x hx hU=>let ⟨y,h1,h2⟩:=h.all x hx hU;⟨y,h1,(he x y hx (h.mem y h1).1).1 h2⟩⟩
theorem Tr.exists (hE:jM N E) (U:Nat->Prop): ∃l,Tr N U E l:=by
 classical
 refine ⟨(List.range N).filter fun x=>decide (U x/\ ∀y,y<x->U y-> ¬E x y),?_,?_,?_,?_⟩
 ·intro x hx;have h:=List.mem_filter.1 hx;exact ⟨List.mem_range.1 h.1,(of_decide_eq_true h.2).1⟩
 ·exact List.nodup_range.filter _
 ·intro x hx y hy e;have h1:=List.mem_filter.1 hx;have h2:=List.mem_filter.1 hy;have k1:=of_decide_eq_true h1.2;have k2:=of_decide_eq_true h2.2;have l1:=List.mem_range.1 h1.1;have l2:=List.mem_range.1 h2.1;rcases Nat.lt_trichotomy x y with g|g|g
  ·exact absurd (hE.symm _ _ l1 l2 e) (k2.2 x g k1.1)
  ·exact g
  ·exact absurd e (k1.2 y g k2.1)
 ·intro x hx hU
  have: ∀n x,x<n->x<N->U x-> ∃y,y∈((List.range N).filter fun x=>decide (U x/\ ∀y,y<x->U y-> ¬E x y))/\E x y:=by
   intro n
   induction n with
   |zero=>intro x h;omega
   |succ n ih=>
    intro x hn hx hU;by_cases hl: ∃y,y<x/\U y/\E x y
    ·obtain ⟨y,h1,h2,h3⟩:=hl;obtain ⟨z,h4,h5⟩:=ih y (by omega) (by omega) h2;have hz:=List.mem_range.1 (List.mem_filter.1 h4).1;exact ⟨z,h4,hE.trans _ _ _ hx (by omega) hz h3 h5⟩
    ·exact ⟨x,List.mem_filter.2 ⟨List.mem_range.2 hx,decide_eq_true ⟨hU,fun y h1 h2 h3=>hl ⟨y,h1,h2,h3⟩⟩⟩,hE.cw x hx⟩
  exact this (x+1) x (by omega) hx hU
theorem Tr.join (hE:jM N E) (h:Tr N U E l) {a b:Nat} (ha:a<N) (hb:b<N) (xi:U a) (OP:U b) (iy: ¬E a b) (h':Tr N U (j8 E a b) l'):l.length=l'.length+1:=by
 obtain ⟨x,hx,qQ⟩:=h.all a ha xi;obtain ⟨y,hy,uY⟩:=h.all b hb OP;have lx:=(h.mem x hx).1;have ly:=(h.mem y hy).1;have BF:x≠y:=fun e=>by subst e;exact iy (hE.trans _ _ _ ha lx hb qQ (hE.symm _ _ hb lx uY))
 have key:Tr N U (j8 E a b) (l.erase y):=by
  refine ⟨fun z hz=>h.mem z (List.mem_of_mem_erase hz),h.nodup.erase y,fun z hz w hw e=>?_,fun z hz hU=>?_⟩
  ·have mz:=List.mem_of_mem_erase hz;have mw:=List.mem_of_mem_erase hw;have lz:=(h.mem z mz).1;have lw:=(h.mem w mw).1;have nz:z≠y:=fun e=>by subst e;exact List.Nodup.not_mem_erase h.nodup hz
   have nw:w≠y:=fun e=>by subst e;exact List.Nodup.not_mem_erase h.nodup hw
   rcases e with e|⟨e1,e2⟩|⟨e1,e2⟩
   ·exact h.apart z mz w mw e
   ·exact absurd (h.apart w mw y hy (hE.trans _ _ _ lw hb ly (hE.symm _ _ hb lw e2) uY)) nw
   ·exact absurd (h.apart z mz y hy (hE.trans _ _ _ lz hb ly e1 uY)) nz
  ·obtain ⟨w,hw,e⟩:=h.all z hz hU;by_cases VT:w=y
   ·subst VT;refine ⟨x,(List.mem_erase_of_ne BF).2 hx, .inr (.inr ⟨hE.trans _ _ _ hz ly hb e (hE.symm _ _ hb ly uY),qQ⟩)⟩
   ·exact ⟨w,(List.mem_erase_of_ne VT).2 hw, .inl e⟩
 have e1:=key.bF (j8.eqv hE ha hb) h';have e2:=List.length_erase_of_mem hy;have e3:0<l.length:=List.length_pos_of_mem hy;omega
theorem Tr.og (hE:jM N E) (h:Tr N U E l) {a b:Nat} (hc: ∀x y,x<N->y<N->E x y->(U x↔U y)) (ha:a<N) (hb:b<N) (xi: ¬U a) (OP: ¬U b) (h':Tr N U (j8 E a b) l'):l.length=l'.length:=by
 have key:Tr N U (j8 E a b) l:=by
  refine ⟨h.mem,h.nodup,fun z hz w hw e=>?_,fun z hz hU=>?_⟩
  ·rcases e with e|⟨e1,e2⟩|⟨e1,e2⟩
   ·exact h.apart z hz w hw e
   ·exact absurd ((hc _ _ (h.mem z hz).1 ha e1).1 (h.mem z hz).2) xi
   ·exact absurd ((hc _ _ (h.mem z hz).1 hb e1).1 (h.mem z hz).2) OP
  ·obtain ⟨w,hw,e⟩:=h.all z hz hU;exact ⟨w,hw, .inl e⟩
 exact key.bF (j8.eqv hE ha hb) h'
theorem SI (hE:jM N E) {a b:Nat} (ha:a<N) (hb:b<N) (lW:E a b): ∀x y,x<N->y<N->(j8 E a b x y↔E x y):=fun x y hx hy=>by
 constructor
 ·rintro (e|⟨e1,e2⟩|⟨e1,e2⟩)
  ·exact e
  ·exact hE.trans _ _ _ hx ha hy e1 (hE.trans _ _ _ ha hb hy lW e2)
  ·exact hE.trans _ _ _ hx hb hy e1 (hE.trans _ _ _ hb ha hy (hE.symm _ _ ha hb lW) e2)
 ·exact .inl
end
end Sp
namespace Sp
open Classical
theorem yf {N:Nat} {f g:Nat->Nat} (hf:aw N f) (h: ∀x,x<N->f x=g x) {x y:Nat} (hx:x<N):SC f x y↔SC g x y:=by
 have: ∀k,itn f k x=itn g k x:=fun k=>by
  induction k with
  |zero=>rfl
  |succ k ih=>simp only [itn];rw [←ih];exact h _ (hf.a7 hx k)
 constructor
 ·rintro ⟨k,rfl⟩;exact ⟨k,(this k).symm⟩
 ·rintro ⟨k,rfl⟩;exact ⟨k,this k⟩
theorem aw.congr {N:Nat} {f g:Nat->Nat} (hf:aw N f) (h: ∀x,x<N->f x=g x):aw N g:=
 ⟨fun x hx=>by rw [←h x hx];exact hf.lt x hx,fun x y hx hy e=>hf.inj x y hx hy (by rw [h x hx,h y hy];exact e)⟩
structure mQ (N:Nat) (al:Nat->Nat):Prop where
 lt: ∀x,x<N->al x<N
 inv: ∀x,x<N->al (al x)=x
 ne: ∀x,x<N->al x≠x
def Cx (al:Nat->Nat) (k x:Nat):Nat:=if min x (al x)<k then al x else x
def ba (si al:Nat->Nat) (k x:Nat):Nat:=si (Cx al k x)
def KK (si al:Nat->Nat):Nat->Nat->Nat->Prop
 |0=>SC si
 |k+1=>if k<al k then j8 (KK si al k) k (al k) else KK si al k
section
variable {N:Nat} {si al:Nat->Nat} {U:Nat->Prop}
theorem R4 (ha:mQ N al) {k:Nat} (hk:k<N) (h:k<al k): ∀x,x<N->swp (ba si al k) k (al k) x=ba si al (k+1) x:=fun x hx=>by
 have hi:=ha.inv k hk;unfold swp ba Cx;by_cases h1:x=k
 ·subst h1;rw [if_pos rfl,hi];rw [if_neg (by omega),if_pos (by omega)]
 ·rw [if_neg h1];by_cases h2:x=al k
  ·subst h2;rw [if_pos rfl,hi,if_neg (by omega),if_pos (by omega)]
  ·rw [if_neg h2];have h3:al x≠k:=fun e=>h2 (by rw [←e];exact (ha.inv x hx).symm);by_cases h4:min x (al x)<k
   ·rw [if_pos h4,if_pos (by omega)]
   ·rw [if_neg h4,if_neg (by omega)]
theorem R3 (ha:mQ N al) {k:Nat} (hk:k<N) (h: ¬k<al k): ∀x,x<N->ba si al k x=ba si al (k+1) x:=fun x hx=>by
 unfold ba Cx;have ax:=ha.ne k hk;by_cases h4:min x (al x)<k
 ·rw [if_pos h4,if_pos (by omega)]
 ·rw [if_neg h4];have h5: ¬min x (al x)<k+1:=fun h6=>by
   have h7:min x (al x)=k:=by omega
   by_cases h8:x<=al x
   ·have:x=k:=by omega
    subst this;omega
   ·have h9:al x=k:=by omega
    have:x=al k:=by rw [←h9];exact (ha.inv x hx).symm
    omega
  rw [if_neg h5]
theorem qL (hs:aw N si) (ha:mQ N al): ∀k,k<=N->aw N (ba si al k)
 |0,_=>hs.congr fun x _=>by unfold ba Cx;rw [if_neg (by omega)]
 |k+1,hk=>by
  have ih:=qL hs ha k (by omega);by_cases h:k<al k
  ·exact (yg ih (show k<N by omega) (ha.lt k (by omega))).congr (R4 ha (by omega) h)
  ·exact ih.congr (R3 ha (by omega) h)
theorem Ed (hs:aw N si) (ha:mQ N al): ∀k,k<=N->jM N (KK si al k)
 |0,_=>SC.eqv hs
 |k+1,hk=>by
  have ih:=Ed hs ha k (by omega);unfold KK
  split
  ·exact j8.eqv ih (by omega) (ha.lt k (by omega))
  ·exact ih
theorem Da {f:Nat->Nat} {E:Nat->Nat->Prop} (hf:aw N f) (hE:jM N E) (h: ∀x,x<N->E x (f x)) {x y:Nat} (hx:x<N) (hs:SC f x y):E x y:=by
 obtain ⟨k,rfl⟩:=hs
 induction k with
 |zero=>exact hE.cw x hx
 |succ k ih=>exact hE.trans _ _ _ hx (hf.a7 hx k) (hf.lt _ (hf.a7 hx k)) ih (h _ (hf.a7 hx k))
theorem HK (hs:aw N si) (ha:mQ N al): ∀k,k<=N-> ∀x,x<N->KK si al k x (si x)
 |0,_,x,_=>SC.step _ _
 |k+1,hk,x,hx=>by
  have ih:=HK hs ha k (by omega) x hx;unfold KK;split
  ·exact .inl ih
  ·exact ih
theorem Kw (hs:aw N si) (ha:mQ N al): ∀k,k<=N-> ∀x,x<N->min x (al x)<k->KK si al k x (al x)
 |0,_,x,_,h=>by omega
 |k+1,hk,x,hx,h=>by
  by_cases h1:min x (al x)<k
  ·have ih:=Kw hs ha k (by omega) x hx h1;unfold KK;split
   ·exact .inl ih
   ·exact ih
  ·have hE:=Ed hs ha k (by omega);have bZ:=ha.lt x hx;have hi:=ha.inv x hx;have ax:=ha.ne x hx;have h2:min x (al x)=k:=by omega
   unfold KK;by_cases h3:x<al x
   ·have:x=k:=by omega
    subst this;rw [if_pos h3];exact .inr (.inl ⟨hE.cw _ hx,hE.cw _ bZ⟩)
   ·have h4:al x=k:=by omega
    have h5:al k=x:=by rw [←h4];exact hi
    rw [if_pos (by omega)];refine .inr (.inr ⟨?_,?_⟩)
    ·rw [h5];exact hE.cw _ hx
    ·rw [h4];exact hE.cw _ (by omega)
theorem LO (hs:aw N si) (ha:mQ N al) {R:Nat->Nat->Prop} (hR:jM N R) (h1: ∀x,x<N->R x (si x)) (h2: ∀x,x<N->R x (al x)): ∀k,k<=N-> ∀x y,x<N->y<N->KK si al k x y->R x y
 |0,_,x,y,hx,_,h=>Da hs hR h1 hx h
 |k+1,hk,x,y,hx,hy,h=>by
  have ih:=LO hs ha hR h1 h2 k (by omega);have kk:k<N:=by omega
  have bZ:=ha.lt k kk;unfold KK at h
  split at h
  ·rcases h with h|⟨e1,e2⟩|⟨e1,e2⟩
   ·exact ih x y hx hy h
   ·exact hR.trans _ _ _ hx kk hy (ih _ _ hx kk e1) (hR.trans _ _ _ kk bZ hy (h2 k kk) (ih _ _ bZ hy e2))
   ·exact hR.trans _ _ _ hx bZ hy (ih _ _ hx bZ e1) (hR.trans _ _ _ bZ kk hy (hR.symm _ _ kk bZ (h2 k kk)) (ih _ _ kk hy e2))
  ·exact ih x y hx hy h
theorem H7 (hs:aw N si) (ha:mQ N al) {k:Nat} (hk:k<=N) {x y:Nat} (hx:x<N) (h:SC (ba si al k) x y):KK si al k x y:=by
 have hE:=Ed hs ha k hk;refine Da (qL hs ha k hk) hE (fun x hx=>?_) hx h;have bZ:=ha.lt x hx;unfold ba Cx
 split
 ·exact hE.trans _ _ _ hx bZ (hs.lt _ bZ) (Kw hs ha k hk x hx (by assumption)) (HK hs ha k hk _ bZ)
 ·exact HK hs ha k hk x hx
noncomputable def eU (al:Nat->Nat) (U:Nat->Prop) (k:Nat):Nat:=(List.range k).countP fun h=>decide (U h/\h<al h)
theorem IB (al:Nat->Nat) (U:Nat->Prop) (k:Nat):eU al U (k+1)=eU al U k+if U k/\k<al k then 1 else 0:=by
 unfold eU;rw [List.range_succ,List.countP_append];by_cases h:U k/\k<al k
 ·simp [h]
 ·simp [h]
theorem CB (hs:aw N si) (ha:mQ N al) (h1: ∀x,x<N->(U x↔U (si x))) (h2: ∀x,x<N->(U x↔U (al x))) {k:Nat} (hk:k<=N) {x y:Nat} (hx:x<N) (hy:y<N) (h:KK si al k x y):U x↔U y:=
 LO (R:=fun x y=>U x↔U y) hs ha ⟨fun _ _=>Iff.rfl,fun _ _ _ _ h=>h.symm,fun _ _ _ _ _ _ h k=>h.trans k⟩ h1 h2 k hk x y hx hy h
theorem Uo (hs:aw N si) (ha:mQ N al) (h1: ∀x,x<N->(U x↔U (si x))) (h2: ∀x,x<N->(U x↔U (al x))): ∀k,k<=N-> ∀lV lF lK,Tr N U (SC si) lV->Tr N U (SC (ba si al k)) lF->Tr N U (KK si al k) lK->
  lV.length+lF.length<=2*lK.length+eU al U k
 |0,_,lV,lF,lK,hV,hF,hK=>by
  have e1:=hV.bF (SC.eqv hs) hK;have e2:=hV.bF (SC.eqv hs) (hF.congr (E':=SC si) (fun x y hx _=>(yf hs (g:=ba si al 0) (fun x _=>by unfold ba Cx;rw [if_neg (by omega)]) hx).symm));omega
 |k+1,hk,lV,lF,lK,hV,hF,hK=>by
  have kk:k<N:=by omega
  have bZ:=ha.lt k kk;have hE:=Ed hs ha k (by omega);have hP:=qL hs ha k (by omega);have J5:=SC.eqv hP;obtain ⟨JE,DU⟩:=Tr.exists J5 U;obtain ⟨lK0,GO⟩:=Tr.exists hE U;have ih:=Uo hs ha h1 h2 k (by omega) lV JE lK0 hV DU GO;rw [IB];by_cases ay:k<al k
  ·have aR:=R4 (si:=si) ha kk ay;have o8:=yg hP kk bZ;have yB:Tr N U (SC (swp (ba si al k) k (al k))) lF:=hF.congr fun x y hx _=>(yf o8 aR hx).symm;have GN:Tr N U (j8 (KK si al k) k (al k)) lK:=by unfold KK at hK;rw [if_pos ay] at hK;exact hK
   by_cases hU:U k
   ·have xi:=(h2 k kk).1 hU;rw [if_pos ⟨hU,ay⟩];have OX:lF.length<=JE.length+1/\(¬SC (ba si al k) k (al k)->JE.length=lF.length+1):=by
     by_cases lN:SC (ba si al k) k (al k)
     ·refine ⟨?_,fun h=>absurd lN h⟩;have iy:=Ag hP kk (by omega) lN;have hj:=vy o8 kk bZ iy;rw [Ab] at hj
      have:=yB.join (SC.eqv o8) kk bZ hU xi iy (DU.congr hj)
      omega
     ·have:=DU.join J5 kk bZ hU xi lN (yB.congr (vy hP kk bZ lN))
      exact ⟨by omega,fun _=>this⟩
    by_cases hke:KK si al k k (al k)
    ·have:=GO.bF hE (GN.congr (SI hE kk bZ hke))
     omega
    ·have e1:=GO.join hE kk bZ hU xi hke GN;have e2:=OX.2 (fun lN=>hke (H7 hs ha (by omega) kk lN));omega
   ·have xi: ¬U (al k):=fun h=>hU ((h2 k kk).2 h);rw [if_neg (fun h=>hU h.1)];have hcK: ∀x y,x<N->y<N->KK si al k x y->(U x↔U y):=fun x y hx hy h=>CB hs ha h1 h2 (by omega) hx hy h;have e1:=GO.og hE hcK kk bZ hU xi GN;have e2:JE.length=lF.length:=by
     by_cases lN:SC (ba si al k) k (al k)
     ·have iy:=Ag hP kk (by omega) lN;have hj:=vy o8 kk bZ iy;rw [Ab] at hj;refine (yB.og (SC.eqv o8) (fun x y hx hy h=>?_) kk bZ hU xi (DU.congr hj)).symm;have h3:SC (ba si al (k+1)) x y:=(yf o8 aR hx).1 h;exact CB hs ha h1 h2 hk hx hy (H7 hs ha hk hx h3)
     ·exact DU.og J5 (fun x y hx hy h=>CB hs ha h1 h2 (by omega) hx hy (H7 hs ha (by omega) hx h)) kk bZ hU xi (yB.congr (vy hP kk bZ lN))
    omega
  ·rw [if_neg (fun h=>ay h.2)];have GN:Tr N U (KK si al k) lK:=by unfold KK at hK;rw [if_neg ay] at hK;exact hK
   have e1:=GO.bF hE GN;have e2:=DU.bF J5 (hF.congr fun x y hx _=>(yf hP (R3 ha kk ay) hx).symm);omega
end
end Sp
namespace Sp
open Classical
section
variable {N:Nat} {si al:Nat->Nat} {U W:Nat->Prop} {E E':Nat->Nat->Prop} {l l':List Nat}
theorem Tr.cy (h:Tr N U E l) (hU: ∀x,x<N->(U x↔W x)) (he: ∀x y,x<N->y<N->U x->U y->(E x y↔E' x y)):Tr N W E' l:=
 ⟨fun x hx=>⟨(h.mem x hx).1,(hU x (h.mem x hx).1).1 (h.mem x hx).2⟩,h.nodup,fun x hx y hy e=>h.apart x hx y hy ((he x y (h.mem x hx).1 (h.mem y hy).1 (h.mem x hx).2 (h.mem y hy).2).2 e),fun x hx hW=>by
  have WJ:=(hU x hx).2 hW;obtain ⟨y,h1,h2⟩:=h.all x hx WJ;exact ⟨y,h1,(he x y hx (h.mem y h1).1 WJ (h.mem y h1).2).1 h2⟩⟩
theorem Tr.append (h:Tr N U E l) (h':Tr N W E l') (iy: ∀x y,x<N->y<N->U x->W y-> ¬E x y/\ ¬E y x) (ax: ∀x,x<N->U x-> ¬W x):Tr N (fun x=>U x\/W x) E (l++l'):=by
 refine ⟨fun x hx=>?_,?_,fun x hx y hy e=>?_,fun x hx hU=>?_⟩
 ·rcases List.mem_append.1 hx with g|g
  ·exact ⟨(h.mem x g).1, .inl (h.mem x g).2⟩
  ·exact ⟨(h'.mem x g).1, .inr (h'.mem x g).2⟩
 ·refine List.nodup_append.2 ⟨h.nodup,h'.nodup,fun x hx y hy e=>?_⟩;subst e;exact ax x (h.mem x hx).1 (h.mem x hx).2 (h'.mem x hy).2
 ·rcases List.mem_append.1 hx with g|g<;>rcases List.mem_append.1 hy with k|k
  ·exact h.apart x g y k e
  ·exact absurd e (iy x y (h.mem x g).1 (h'.mem y k).1 (h.mem x g).2 (h'.mem y k).2).1
  ·exact absurd e (iy y x (h.mem y k).1 (h'.mem x g).1 (h.mem y k).2 (h'.mem x g).2).2
  ·exact h'.apart x g y k e
 ·rcases hU with g|g
  ·obtain ⟨y,h1,h2⟩:=h.all x hx g;exact ⟨y,List.mem_append_left _ h1,h2⟩
  ·obtain ⟨y,h1,h2⟩:=h'.all x hx g;exact ⟨y,List.mem_append_right _ h1,h2⟩
theorem Af {mv:Nat->Nat} {k:Nat} (h: ∀x,x<k->((U x/\x<al x)↔(W x/\x<mv x))):eU al U k=eU mv W k:=by
 unfold eU;refine List.countP_congr fun x hx=>?_;simp only [decide_eq_true_eq];exact h x (List.mem_range.1 hx)
theorem G3 {k:Nat} (h: ∀x,x<k->U x-> ¬W x):eU al (fun x=>U x\/W x) k=eU al U k+eU al W k:=by
 induction k with
 |zero=>simp [eU]
 |succ k ih=>
  rw [IB,IB,IB,ih (fun x hx=>h x (by omega))]
  have:=h k (by omega)
  by_cases h1:U k<;>by_cases h2:W k<;>by_cases h3:k<al k<;>simp [h1,h2,h3]<;>first|omega|exact absurd h2 (this h1)
end
structure eY (N:Nat) (si al:Nat->Nat):Prop where
 perm:aw N si
 ki:mQ N al
 eq: ∀r,r<N-> ∀lV lF,Tr N (KK si al N r) (SC si) lV->Tr N (KK si al N r) (SC (ba si al N)) lF->lV.length+lF.length=2+eU al (KK si al N r) N
section
variable {N:Nat} {si al:Nat->Nat}
theorem da (ha:mQ N al) {x:Nat} (hx:x<N):ba si al N x=si (al x):=by
 unfold ba Cx;rw [if_pos (by omega)]
theorem sa (hs:aw N si) (ha:mQ N al):jM N (KK si al N):=Ed hs ha N (Nat.le_refl _)
theorem iC (hs:aw N si) (ha:mQ N al) {x:Nat} (hx:x<N):KK si al N x (si x):=HK hs ha N (Nat.le_refl _) x hx
theorem e7 (hs:aw N si) (ha:mQ N al) {x:Nat} (hx:x<N):KK si al N x (al x):=Kw hs ha N (Nat.le_refl _) x hx (by omega)
theorem rT (hs:aw N si) (ha:mQ N al) {x y:Nat} (hx:x<N) (h:SC si x y):KK si al N x y:=Da hs (sa hs ha) (fun _ hx=>iC hs ha hx) hx h
theorem zP (hs:aw N si) (ha:mQ N al) {x y:Nat} (hx:x<N) (h:SC (ba si al N) x y):KK si al N x y:=H7 hs ha (Nat.le_refl _) hx h
theorem sJ (hs:aw N si) (ha:mQ N al) {R:Nat->Nat->Prop} (hR:jM N R) (h1: ∀x,x<N->R x (si x)) (h2: ∀x,x<N->R x (al x)) {x y:Nat} (hx:x<N) (hy:y<N) (h:KK si al N x y):R x y:=LO hs ha hR h1 h2 N (Nat.le_refl _) x y hx hy h
theorem ji (hs:aw N si) (ha:mQ N al) {r:Nat} (hr:r<N):(∀x,x<N->(KK si al N r x↔KK si al N r (si x)))/\(∀x,x<N->(KK si al N r x↔KK si al N r (al x))):=by
 have hE:=sa hs ha;refine ⟨fun x hx=>?_,fun x hx=>?_⟩
 ·have h1:=iC hs ha hx;have h2:=hs.lt x hx;exact ⟨fun h=>hE.trans _ _ _ hr hx h2 h h1,fun h=>hE.trans _ _ _ hr h2 hx h (hE.symm _ _ hx h2 h1)⟩
 ·have h1:=e7 hs ha hx;have h2:=ha.lt x hx;exact ⟨fun h=>hE.trans _ _ _ hr hx h2 h h1,fun h=>hE.trans _ _ _ hr h2 hx h (hE.symm _ _ hx h2 h1)⟩
theorem H6 (hs:aw N si) (ha:mQ N al) {r:Nat} (hr:r<N) {lV lF:List Nat} (hV:Tr N (KK si al N r) (SC si) lV) (hF:Tr N (KK si al N r) (SC (ba si al N)) lF):lV.length+lF.length<=2+eU al (KK si al N r) N:=by
 have hE:=sa hs ha;have hK:Tr N (KK si al N r) (KK si al N) [r]:=by
  refine ⟨fun x hx=>?_,by simp,fun x hx y hy _=>?_,fun x hx h=>⟨r,by simp,hE.symm _ _ hr hx h⟩⟩
  ·simp at hx;subst hx;exact ⟨hr,hE.cw _ hr⟩
  ·simp at hx hy;rw [hx,hy]
 have:=Uo hs ha (ji hs ha hr).1 (ji hs ha hr).2 N (Nat.le_refl _) lV lF [r] hV hF hK
 simpa using this
theorem eY.split (h:eY N si al) {p q:Nat} (hp:p<N) (hq:q<N) (pa:p≠q) (lN:SC si p q):eY N (swp si p q) al:=by
 have hs:=h.perm;have ha:=h.ki;have aX:=yg hs hp hq;have hE:=sa hs ha;have cn:=sa aX ha;have BL:=Ag hs hp pa lN;have FW:=vy aX hp hq BL;rw [Ab] at FW;have iR:=ha.lt p hp;have p8:=ha.lt q hq;have jA:=qL hs ha N (Nat.le_refl _);have gY:=qL aX ha N (Nat.le_refl _);have wM: ∀x,x<N->swp (ba si al N) (al p) (al q) x=ba (swp si p q) al N x:=fun x hx=>by
  rw [da ha hx];unfold swp;have i1:=ha.inv x hx;by_cases h1:x=al p
  ·subst h1;rw [if_pos rfl,ha.inv p hp,if_pos rfl,da ha p8,ha.inv q hq]
  ·rw [if_neg h1];have n1:al x≠p:=fun e=>h1 (by rw [←e,i1]);by_cases h2:x=al q
   ·subst h2;rw [if_pos rfl,ha.inv q hq,if_neg (Ne.symm pa),if_pos rfl,da ha iR,ha.inv p hp]
   ·rw [if_neg h2];have n2:al x≠q:=fun e=>h2 (by rw [←e,i1]);rw [if_neg n1,if_neg n2,da ha hx]
 have J4:al p≠al q:=fun e=>pa (by rw [←ha.inv p hp,←ha.inv q hq,e]);have nJ:KK si al N p q:=rT hs ha hp lN;have zg: ∀x,x<N->(x≠p/\x≠q/\swp si p q x=si x)\/(x=p/\swp si p q x=si q)\/(x=q/\swp si p q x=si p):=fun x _=>by
  unfold swp;by_cases h1:x=p
  ·exact .inr (.inl ⟨h1,by rw [if_pos h1]⟩)
  ·by_cases h2:x=q
   ·exact .inr (.inr ⟨h2,by rw [if_neg h1,if_pos h2]⟩)
   ·exact .inl ⟨h1,h2,by rw [if_neg h1,if_neg h2]⟩
 have aJ: ∀x y,x<N->y<N->KK (swp si p q) al N x y->KK si al N x y:=fun x y hx hy hk=>by
  refine sJ aX ha hE (fun x hx=>?_) (fun x hx=>e7 hs ha hx) hx hy hk;rcases zg x hx with ⟨_,_,e⟩|⟨rfl,e⟩|⟨rfl,e⟩
  ·rw [e];exact iC hs ha hx
  ·rw [e];exact hE.trans _ _ _ hx hq (hs.lt _ hq) nJ (iC hs ha hq)
  ·rw [e];exact hE.trans _ _ _ hx hp (hs.lt _ hp) (hE.symm _ _ hp hx nJ) (iC hs ha hp)
 have OU: ∀x y,x<N->y<N->(KK si al N x y↔j8 (KK (swp si p q) al N) p q x y):=fun x y hx hy=>by
  constructor
  ·intro hk;refine sJ hs ha (j8.eqv cn hp hq) (fun x hx=>?_) (fun x hx=> .inl (e7 aX ha hx)) hx hy hk;rcases zg x hx with ⟨_,_,e⟩|⟨rfl,_⟩|⟨rfl,_⟩
   ·rw [←e];exact .inl (iC aX ha hx)
   ·refine .inr (.inl ⟨cn.cw _ hx,?_⟩)
    have:=iC aX ha hq
    rwa [show swp si x q q=si x by unfold swp;rw [if_neg (Ne.symm pa),if_pos rfl]] at this
   ·refine .inr (.inr ⟨cn.cw _ hx,?_⟩)
    have:=iC aX ha hp
    rwa [show swp si p x p=si x by unfold swp;rw [if_pos rfl]] at this
  ·rintro (e|⟨e1,e2⟩|⟨e1,e2⟩)
   ·exact aJ x y hx hy e
   ·exact hE.trans _ _ _ hx hp hy (aJ _ _ hx hp e1) (hE.trans _ _ _ hp hq hy nJ (aJ _ _ hq hy e2))
   ·exact hE.trans _ _ _ hx hq hy (aJ _ _ hx hq e1) (hE.trans _ _ _ hq hp hy (hE.symm _ _ hp hq nJ) (aJ _ _ hp hy e2))
 obtain ⟨lV,hV⟩:=Tr.exists (SC.eqv hs) (KK si al N p);obtain ⟨lF,hF⟩:=Tr.exists (SC.eqv jA) (KK si al N p);have heq:=h.eq p hp lV lF hV hF;obtain ⟨FE,xf⟩:=Tr.exists (SC.eqv aX) (KK si al N p);obtain ⟨BB,xj⟩:=Tr.exists (SC.eqv gY) (KK si al N p);have OO:KK si al N p p:=hE.cw _ hp;have tY:FE.length=lV.length+1:=xf.join (SC.eqv aX) hp hq OO nJ BL (hV.congr FW)
 have xh:KK si al N p (al p):=e7 hs ha hp;have xg:KK si al N p (al q):=hE.trans _ _ _ hp hq p8 nJ (e7 hs ha hq);have nD:=yg jA iR p8;have yB:Tr N (KK si al N p) (SC (swp (ba si al N) (al p) (al q))) BB:=xj.congr fun x y hx _=>(yf nD wM hx).symm;have Ow: ¬SC (ba (swp si p q) al N) (al p) (al q)->BB.length=lF.length+1:=fun iy=>by
  have wO: ¬SC (swp (ba si al N) (al p) (al q)) (al p) (al q):=fun e=>iy ((yf nD wM iR).1 e);have hj:=vy nD iR p8 wO;rw [Ab] at hj;exact yB.join (SC.eqv nD) iR p8 xh xg wO (hF.congr hj)
 have hfle:lF.length<=BB.length+1:=by
  by_cases wJ:SC (ba si al N) (al p) (al q)
  ·have iy:=Ag jA iR J4 wJ;have hj:=vy nD iR p8 iy;rw [Ab] at hj
   have:=yB.join (SC.eqv nD) iR p8 xh xg iy (hF.congr hj)
   omega
  ·have:=hF.join (SC.eqv jA) iR p8 xh xg wJ (yB.congr (vy jA iR p8 wJ))
   omega
 refine ⟨aX,ha,fun r hr kV kF p7 oy=>?_⟩;by_cases hrp:KK si al N p r
 ·by_cases dI:KK (swp si p q) al N p q
  ·--nothing is parted
   have hKK: ∀x y,x<N->y<N->(KK si al N x y↔KK (swp si p q) al N x y):=fun x y hx hy=>(OU x y hx hy).trans (SI cn hp hq dI x y hx hy);have aY: ∀x,x<N->(KK si al N p x↔KK (swp si p q) al N r x):=fun x hx=>by
    rw [←hKK r x hr hx];exact ⟨fun e=>hE.trans _ _ _ hr hp hx (hE.symm _ _ hp hr hrp) e,fun e=>hE.trans _ _ _ hp hr hx hrp e⟩
   have e1:=(xf.cy aY (E':=SC (swp si p q)) (fun _ _ _ _ _ _=>Iff.rfl)).bF (SC.eqv aX) p7;have e2:=(xj.cy aY (E':=SC (ba (swp si p q) al N)) (fun _ _ _ _ _ _=>Iff.rfl)).bF (SC.eqv gY) oy;have e3:eU al (KK si al N p) N=eU al (KK (swp si p q) al N r) N:=Af fun x hx=>by rw [aY x hx]
   have e4:=H6 aX ha hr p7 oy;omega
  ·--the class is parted
   have N7: ¬SC (ba (swp si p q) al N) (al p) (al q):=fun e=>dI (by
    have h1:=zP aX ha iR e;exact cn.trans _ _ _ hp iR hq (e7 aX ha hp) (cn.trans _ _ _ iR p8 hq h1 (cn.symm _ _ hq p8 (e7 aX ha hq))))
   have Wx:=Ow N7;obtain ⟨pV,NW⟩:=Tr.exists (SC.eqv aX) (KK (swp si p q) al N p);obtain ⟨pF,NX⟩:=Tr.exists (SC.eqv gY) (KK (swp si p q) al N p);obtain ⟨qV,NQ⟩:=Tr.exists (SC.eqv aX) (KK (swp si p q) al N q);obtain ⟨qF,NR⟩:=Tr.exists (SC.eqv gY) (KK (swp si p q) al N q)
   have s4: ∀x,x<N->KK (swp si p q) al N p x-> ¬KK (swp si p q) al N q x:=fun x hx e1 e2=>dI (cn.trans _ _ _ hp hx hq e1 (cn.symm _ _ hq hx e2));have oD: ∀x,x<N->((KK (swp si p q) al N p x\/KK (swp si p q) al N q x)↔KK si al N p x):=fun x hx=>by
    rw [OU p x hp hx];constructor
    ·rintro (e|e)
     ·exact .inl e
     ·exact .inr (.inl ⟨cn.cw _ hp,e⟩)
    ·rintro (e|⟨_,e⟩|⟨e,_⟩)
     ·exact .inl e
     ·exact .inr e
     ·exact absurd e dI
   have NZ: ∀x y,x<N->y<N->KK (swp si p q) al N p x->KK (swp si p q) al N q y-> ¬SC (swp si p q) x y/\ ¬SC (swp si p q) y x:=fun x y hx hy e1 e2=>
    ⟨fun e=>s4 y hy (cn.trans _ _ _ hp hx hy e1 (rT aX ha hx e)) e2,fun e=>s4 x hx e1 (cn.trans _ _ _ hq hy hx e2 (rT aX ha hy e))⟩
   have N6: ∀x y,x<N->y<N->KK (swp si p q) al N p x->KK (swp si p q) al N q y-> ¬SC (ba (swp si p q) al N) x y/\ ¬SC (ba (swp si p q) al N) y x:=fun x y hx hy e1 e2=>
    ⟨fun e=>s4 y hy (cn.trans _ _ _ hp hx hy e1 (zP aX ha hx e)) e2,fun e=>s4 x hx e1 (cn.trans _ _ _ hq hy hx e2 (zP aX ha hy e))⟩
   have eV:=((NW.append NQ NZ s4).cy oD (E':=SC (swp si p q)) (fun _ _ _ _ _ _=>Iff.rfl)).bF (SC.eqv aX) xf;have eF:=((NX.append NR N6 s4).cy oD (E':=SC (ba (swp si p q) al N)) (fun _ _ _ _ _ _=>Iff.rfl)).bF (SC.eqv gY) xj;rw [List.length_append] at eV eF;have eE:eU al (KK si al N p) N=eU al (KK (swp si p q) al N p) N+eU al (KK (swp si p q) al N q) N:=by
    rw [←G3 (fun x hx e=>s4 x hx e)];exact Af fun x hx=>by rw [oD x hx]
   have ip:=H6 aX ha hp NW NX;have iq:=H6 aX ha hq NQ NR;have nS:=(oD r hr).2 hrp;rcases nS with nS|nS
   ·have aY: ∀x,x<N->(KK (swp si p q) al N p x↔KK (swp si p q) al N r x):=fun x hx=>⟨fun e=>cn.trans _ _ _ hr hp hx (cn.symm _ _ hp hr nS) e,fun e=>cn.trans _ _ _ hp hr hx nS e⟩;have e1:=(NW.cy aY (E':=SC (swp si p q)) (fun _ _ _ _ _ _=>Iff.rfl)).bF (SC.eqv aX) p7;have e2:=(NX.cy aY (E':=SC (ba (swp si p q) al N)) (fun _ _ _ _ _ _=>Iff.rfl)).bF (SC.eqv gY) oy
    have e3:eU al (KK (swp si p q) al N p) N=eU al (KK (swp si p q) al N r) N:=Af fun x hx=>by rw [aY x hx]
    omega
   ·have aY: ∀x,x<N->(KK (swp si p q) al N q x↔KK (swp si p q) al N r x):=fun x hx=>⟨fun e=>cn.trans _ _ _ hr hq hx (cn.symm _ _ hq hr nS) e,fun e=>cn.trans _ _ _ hq hr hx nS e⟩;have e1:=(NQ.cy aY (E':=SC (swp si p q)) (fun _ _ _ _ _ _=>Iff.rfl)).bF (SC.eqv aX) p7;have e2:=(NR.cy aY (E':=SC (ba (swp si p q) al N)) (fun _ _ _ _ _ _=>Iff.rfl)).bF (SC.eqv gY) oy
    have e3:eU al (KK (swp si p q) al N q) N=eU al (KK (swp si p q) al N r) N:=Af fun x hx=>by rw [aY x hx]
    omega
 ·--another component:as it was
  have JV: ∀x,x<N->KK si al N r x->x≠p/\x≠q:=fun x hx e=>⟨fun g=>by subst g;exact hrp (hE.symm _ _ hr hx e),fun g=>by
   subst g;exact hrp (hE.trans _ _ _ hp hx hr nJ (hE.symm _ _ hr hx e))⟩
  have aY: ∀x,x<N->(KK (swp si p q) al N r x↔KK si al N r x):=fun x hx=>by
   refine ⟨aJ r x hr hx,fun e=>?_⟩;rcases (OU r x hr hx).1 e with e|⟨e1,_⟩|⟨e1,_⟩
   ·exact e
   ·exact absurd rfl (JV p hp (aJ _ _ hr hp e1)).1
   ·exact absurd rfl (JV q hq (aJ _ _ hr hq e1)).2
  have GD: ∀{f:Nat->Nat} (_:aw N f) {g:Nat->Nat} (_: ∀x,x<N->KK si al N r x->f x=g x/\KK si al N r (f x)) (x y:Nat),x<N->KK si al N r x->(SC f x y↔SC g x y):=fun {f} hf {g} hfg x y hx hU=>by
   have hi: ∀k,KK si al N r (itn f k x)/\itn f k x=itn g k x:=fun k=>by
    induction k with
    |zero=>exact ⟨hU,rfl⟩
    |succ k ih=>
     have:=hfg _ (hf.a7 hx k) ih.1
     exact ⟨this.2,by simp only [itn];rw [←ih.2];exact this.1⟩
   constructor
   ·rintro ⟨k,rfl⟩;exact ⟨k,(hi k).2.symm⟩
   ·rintro ⟨k,rfl⟩;exact ⟨k,(hi k).2⟩
  have NM:=GD aX (g:=si) (fun x hx e=>by
   have hn:=JV x hx e;rcases zg x hx with ⟨_,_,g⟩|⟨g,_⟩|⟨g,_⟩
   ·rw [g];exact ⟨rfl,((ji hs ha hr).1 x hx).1 e⟩
   ·exact absurd g hn.1
   ·exact absurd g hn.2)
  have wJ:=GD gY (g:=ba si al N) (fun x hx e=>by
   have qQ:=ha.lt x hx;have e1:=((ji hs ha hr).2 x hx).1 e;have hn:=JV (al x) qQ e1;rw [da ha hx,da ha hx];rcases zg (al x) qQ with ⟨_,_,g⟩|⟨g,_⟩|⟨g,_⟩
   ·rw [g];exact ⟨rfl,((ji hs ha hr).1 _ qQ).1 e1⟩
   ·exact absurd g hn.1
   ·exact absurd g hn.2)
  have t1:Tr N (KK si al N r) (SC si) kV:=p7.cy aY (fun x y hx _ hU _=>NM x y hx ((aY x hx).1 hU));have t2:Tr N (KK si al N r) (SC (ba si al N)) kF:=oy.cy aY (fun x y hx _ hU _=>wJ x y hx ((aY x hx).1 hU))
  have:=h.eq r hr kV kF t1 t2
  rw [this];congr 1;exact Af fun x hx=>by rw [aY x hx]
end
end Sp
namespace Sp
open Classical
noncomputable def cU (U:Nat->Prop) (N:Nat):Nat:=(List.range N).countP fun h=>decide (U h)
section
variable {N:Nat} {si al:Nat->Nat} {U W:Nat->Prop}
theorem uB (U:Nat->Prop) (k:Nat):cU U (k+1)=cU U k+if U k then 1 else 0:=by
 unfold cU;rw [List.range_succ,List.countP_append];by_cases h:U k<;>simp [h]
theorem LN {k:Nat} (h: ∀x,x<k->(U x↔W x)):cU U k=cU W k:=by
 unfold cU;refine List.countP_congr fun x hx=>?_;simp only [decide_eq_true_eq];exact h x (List.mem_range.1 hx)
theorem Kv {k:Nat} (h: ∀x,x<k->U x-> ¬W x):cU (fun x=>U x\/W x) k=cU U k+cU W k:=by
 induction k with
 |zero=>simp [cU]
 |succ k ih=>
  rw [uB,uB,uB,ih (fun x hx=>h x (by omega))]
  have:=h k (by omega)
  by_cases h1:U k<;>by_cases h2:W k<;>simp [h1,h2]<;>first|omega|exact absurd h2 (this h1)
theorem Ec {u:Nat}: ∀k,cU (fun x=>x=u) k=if u<k then 1 else 0
 |0=>by simp [cU]
 |k+1=>by
  rw [uB,Ec k];by_cases h1:u<k
  ·rw [if_pos h1,if_neg (by omega),if_pos (by omega)]
  ·rw [if_neg h1];by_cases h2:k=u
   ·rw [if_pos h2,if_pos (by omega)]
   ·rw [if_neg h2,if_neg (by omega)]
theorem Aa (ha:mQ N al) (hU: ∀x,x<N->(U x↔U (al x))):2*eU al U N=cU U N:=by
 have e1:eU al U N=((List.range N).filter fun h=>decide (U h/\h<al h)).length:=by unfold eU;rw [List.countP_eq_length_filter]
 have e2:cU U N=eU al U N+((List.range N).filter fun h=>decide (U h/\ ¬h<al h)).length:=by
  rw [←List.countP_eq_length_filter];unfold cU eU;generalize List.range N=l
  induction l with
  |nil=>simp
  |cons x l ih=>
   simp only [List.countP_cons];rw [ih];by_cases h1:U x<;>by_cases h2:x<al x<;>simp [h1,h2]<;>omega
 have m1: ∀x,x∈((List.range N).filter fun h=>decide (U h/\h<al h))↔x<N/\U x/\x<al x:=fun x=>by simp [List.mem_filter]
 have m2: ∀x,x∈((List.range N).filter fun h=>decide (U h/\ ¬h<al h))↔x<N/\U x/\ ¬x<al x:=fun x=>by simp [List.mem_filter]
 have i1:=Ba ((List.range N).filter fun h=>decide (U h/\h<al h)) ((List.range N).filter fun h=>decide (U h/\ ¬h<al h)) al (List.nodup_range.filter _) (fun x hx=>by
  obtain ⟨h1,h2,h3⟩:=(m1 x).1 hx;exact (m2 _).2 ⟨ha.lt x h1,(hU x h1).1 h2,by rw [ha.inv x h1];omega⟩) (fun x hx y hy e=>by
  have h1:=((m1 x).1 hx).1;have h2:=((m1 y).1 hy).1;rw [←ha.inv x h1,←ha.inv y h2,e])
 have i2:=Ba ((List.range N).filter fun h=>decide (U h/\ ¬h<al h)) ((List.range N).filter fun h=>decide (U h/\h<al h)) al (List.nodup_range.filter _) (fun x hx=>by
  obtain ⟨h1,h2,h3⟩:=(m2 x).1 hx
  have:=ha.ne x h1
  exact (m1 _).2 ⟨ha.lt x h1,(hU x h1).1 h2,by rw [ha.inv x h1];omega⟩) (fun x hx y hy e=>by
  have h1:=((m2 x).1 hx).1;have h2:=((m2 y).1 hy).1;rw [←ha.inv x h1,←ha.inv y h2,e])
 omega
theorem Ll {f:Nat->Nat} {x:Nat} (h:f x=x): ∀k,itn f k x=x
 |0=>rfl
 |k+1=>by simp only [itn];rw [Ll h k];exact h
theorem R2 {f:Nat->Nat} (hf:aw N f) {a v:Nat} (ha:a<N) (WG:a≠v) (hs:f a=v):swp f a v v=v/\ ∀x y,x<N->y<N->x≠v->y≠v->(SC f x y↔SC (swp f a v) x y):=by
 have hv:v<N:=by rw [←hs];exact hf.lt a ha
 have uW:swp f a v v=v:=by unfold swp;rw [if_neg (Ne.symm WG),if_pos rfl];exact hs
 refine ⟨uW,fun x y hx hy nx ny=>?_⟩;have lN:SC f a v:=⟨1,hs⟩;have kb:=yg hf ha hv;have iy:=Ag hf ha WG lN;have hj:=vy kb ha hv iy x y hx hy;rw [Ab] at hj;rw [hj];have VV: ∀z,SC (swp f a v) v z->z=v:=fun z ⟨k,hk⟩=>hk▸Ll uW k;constructor
 ·rintro (e|⟨_,e⟩|⟨e,_⟩)
  ·exact e
  ·exact absurd (VV _ e) ny
  ·exact absurd (VV _ (e.symm kb hx)) nx
 ·exact .inl
def iB (al:Nat->Nat) (u v x:Nat):Nat:=if x=u then v else if x=v then u else if x=al u then al v else if x=al v then al u else al x
theorem eY.te (h:eY N si al) {u v:Nat} (hu:u<N) (hv:v<N) (uN:u≠v) (s1:si u=v) (s2:si v=u) (ax:al u≠v):eY N si (iB al u v):=by
 have hs:=h.perm;have ha:=h.ki;obtain ⟨a,ea⟩: ∃a,al u=a:=⟨_,rfl⟩;obtain ⟨b,eb⟩: ∃b,al v=b:=⟨_,rfl⟩;have la:a<N:=by rw [←ea];exact ha.lt u hu
 have lb:b<N:=by rw [←eb];exact ha.lt v hv
 have ia:al a=u:=by rw [←ea];exact ha.inv u hu
 have ib:al b=v:=by rw [←eb];exact ha.inv v hv
 have Ar:a≠u:=by rw [←ea];exact ha.ne u hu
 have Ap:b≠v:=by rw [←eb];exact ha.ne v hv
 have Aq:a≠v:=by rw [←ea];exact ax
 have Bx:b≠u:=fun e=>Aq (by rw [←ea,←e,ib]);have FD:a≠b:=fun e=>uN (by rw [←ia,←ib,e]);have du:iB al u v u=v:=by unfold iB;rw [if_pos rfl]
 have dv:iB al u v v=u:=by unfold iB;rw [if_neg (Ne.symm uN),if_pos rfl]
 have AR:iB al u v a=b:=by unfold iB;rw [if_neg Ar,if_neg Aq,ea,if_pos rfl,eb]
 have Cr:iB al u v b=a:=by unfold iB;rw [if_neg Bx,if_neg Ap,ea,if_neg (Ne.symm FD),eb,if_pos rfl]
 have dx: ∀x,x≠u->x≠v->x≠a->x≠b->iB al u v x=al x:=fun x h1 h2 h3 h4=>by unfold iB;rw [if_neg h1,if_neg h2,ea,if_neg h3,eb,if_neg h4]
 have dc: ∀x,x=u\/x=v\/x=a\/x=b\/(x≠u/\x≠v/\x≠a/\x≠b):=fun x=>by omega
 have Ct: ∀x,x<N->x≠u->x≠v->x≠a->x≠b->al x≠u/\al x≠v/\al x≠a/\al x≠b:=fun x hx h1 h2 h3 h4=>by
  have i:=ha.inv x hx;refine ⟨fun e=>h3 (by rw [←i,e,ea]),fun e=>h4 (by rw [←i,e,eb]),fun e=>h1 (by rw [←i,e,ia]),fun e=>h2 (by rw [←i,e,ib])⟩
 have dR:mQ N (iB al u v):=by
  refine ⟨fun x hx=>?_,fun x hx=>?_,fun x hx=>?_⟩
  ·rcases dc x with rfl|rfl|rfl|rfl|⟨h1,h2,h3,h4⟩
   ·rw [du];exact hv
   ·rw [dv];exact hu
   ·rw [AR];exact lb
   ·rw [Cr];exact la
   ·rw [dx x h1 h2 h3 h4];exact ha.lt x hx
  ·rcases dc x with rfl|rfl|rfl|rfl|⟨h1,h2,h3,h4⟩
   ·rw [du,dv]
   ·rw [dv,du]
   ·rw [AR,Cr]
   ·rw [Cr,AR]
   ·obtain ⟨k1,k2,k3,k4⟩:=Ct x hx h1 h2 h3 h4;rw [dx x h1 h2 h3 h4,dx _ k1 k2 k3 k4];exact ha.inv x hx
  ·rcases dc x with rfl|rfl|rfl|rfl|⟨h1,h2,h3,h4⟩
   ·rw [du];exact Ne.symm uN
   ·rw [dv];exact uN
   ·rw [AR];exact Ne.symm FD
   ·rw [Cr];exact FD
   ·rw [dx x h1 h2 h3 h4];exact ha.ne x hx
 have hE:=sa hs ha;have cn:=sa hs dR;have DA:KK si al N u v:=by have:=iC hs ha hu;rwa [s1] at this
 have Nn:KK si al N u a:=by have:=e7 hs ha hu;rwa [ea] at this
 have Nl:KK si al N v b:=by have:=e7 hs ha hv;rwa [eb] at this
 have ym:KK si al N a b:=hE.trans _ _ _ la hu lb (hE.symm _ _ hu la Nn) (hE.trans _ _ _ hu hv lb DA Nl);have aJ: ∀x y,x<N->y<N->KK si (iB al u v) N x y->KK si al N x y:=fun x y hx hy hk=>by
  refine sJ hs dR hE (fun x hx=>iC hs ha hx) (fun x hx=>?_) hx hy hk;rcases dc x with rfl|rfl|rfl|rfl|⟨h1,h2,h3,h4⟩
  ·rw [du];exact DA
  ·rw [dv];exact hE.symm _ _ hu hv DA
  ·rw [AR];exact ym
  ·rw [Cr];exact hE.symm _ _ la lb ym
  ·rw [dx x h1 h2 h3 h4];exact e7 hs ha hx
 have FH:KK si (iB al u v) N a b:=by have:=e7 hs dR la;rwa [AR] at this
 have Bp: ∀x,x<N->((x=u\/x=v)↔(si x=u\/si x=v)):=fun x hx=>by
  constructor
  ·rintro (rfl|rfl)
   ·exact .inr s1
   ·exact .inl s2
  ·rintro (e|e)
   ·exact .inr (hs.inj x v hx hv (by rw [e,s2]))
   ·exact .inl (hs.inj x u hx hu (by rw [e,s1]))
 have uO: ∀x y,x<N->y<N->x≠u->x≠v->y≠u->y≠v->KK si al N x y->KK si (iB al u v) N x y:=fun x y hx hy x1 x2 y1 y2 hk=>by
  obtain ⟨r,hr⟩: ∃r:Nat->Nat,∀x,r x=if x=u then a else if x=v then b else x:=⟨_,fun _=>rfl⟩;have ru:r u=a:=by rw [hr,if_pos rfl]
  have rv:r v=b:=by rw [hr,if_neg (Ne.symm uN),if_pos rfl]
  have ro: ∀x,x≠u->x≠v->r x=x:=fun x h1 h2=>by rw [hr,if_neg h1,if_neg h2]
  have rl: ∀x,x<N->r x<N:=fun x hx=>by
   rw [hr];split
   ·exact la
   ·split
    ·exact lb
    ·exact hx
  have key:KK si (iB al u v) N (r x) (r y):=by
   refine sJ (R:=fun x y=>KK si (iB al u v) N (r x) (r y)) hs ha ⟨fun x hx=>cn.cw _ (rl x hx),fun x y hx hy e=>cn.symm _ _ (rl x hx) (rl y hy) e,fun x y z hx hy hz e1 e2=>cn.trans _ _ _ (rl x hx) (rl y hy) (rl z hz) e1 e2⟩ (fun x hx=>?_) (fun x hx=>?_) hx hy hk
   ·by_cases h1:x=u
    ·subst h1;rw [s1,ru,rv];exact FH
    ·by_cases h2:x=v
     ·subst h2;rw [s2,ru,rv];exact cn.symm _ _ la lb FH
     ·have:=Bp x hx
      have h3: ¬(si x=u\/si x=v):=fun e=>by have:=this.2 e;omega
      rw [ro x h1 h2,ro (si x) (fun e=>h3 (.inl e)) (fun e=>h3 (.inr e))];exact iC hs dR hx
   ·rcases dc x with rfl|rfl|rfl|rfl|⟨h1,h2,h3,h4⟩
    ·rw [ea,ru,ro a Ar Aq];exact cn.cw _ la
    ·rw [eb,rv,ro b Bx Ap];exact cn.cw _ lb
    ·rw [ia,ru,ro x Ar Aq];exact cn.cw _ la
    ·rw [ib,rv,ro x Bx Ap];exact cn.cw _ lb
    ·obtain ⟨k1,k2,_,_⟩:=Ct x hx h1 h2 h3 h4;rw [ro x h1 h2,ro _ k1 k2]
     have:=e7 hs dR hx
     rwa [dx x h1 h2 h3 h4] at this
  rwa [ro x x1 x2,ro y y1 y2] at key
 have FX: ∀x y,x<N->y<N->KK si (iB al u v) N x y->((x=u\/x=v)↔(y=u\/y=v)):=fun x y hx hy hk=>by
  refine sJ (R:=fun x y=>((x=u\/x=v)↔(y=u\/y=v))) hs dR ⟨fun _ _=>Iff.rfl,fun _ _ _ _ e=>e.symm,fun _ _ _ _ _ _ e1 e2=>e1.trans e2⟩ (fun x hx=>Bp x hx) (fun x hx=>?_) hx hy hk;rcases dc x with rfl|rfl|rfl|rfl|⟨h1,h2,h3,h4⟩
  ·rw [du];simp
  ·rw [dv];simp
  ·rw [AR];simp [Ar,Aq,Bx,Ap]
  ·rw [Cr];simp [Ar,Aq,Bx,Ap]
  ·obtain ⟨k1,k2,_,_⟩:=Ct x hx h1 h2 h3 h4;rw [dx x h1 h2 h3 h4];simp [h1,h2,k1,k2]
 have jA:=qL hs ha N (Nat.le_refl _);have gY:=qL hs dR N (Nat.le_refl _);have fa:ba si al N a=v:=by rw [da ha la,ia,s1]
 obtain ⟨fx1,fx2⟩:=R2 jA la Aq fa;have hq:=yg jA la hv;have fb:swp (ba si al N) a v b=u:=by unfold swp;rw [if_neg (Ne.symm FD),if_neg Ap,da ha lb,ib,s2]
 obtain ⟨fx3,fx4⟩:=R2 hq lb Bx fb;have ot:=yg hq lb hu;have wM: ∀x,x<N->swp (swp (ba si al N) a v) b u x=ba si (iB al u v) N x:=fun x hx=>by
  rw [da dR hx];rcases dc x with rfl|rfl|rfl|rfl|⟨h1,h2,h3,h4⟩
  ·rw [du,s2];exact fx3
  ·rw [dv,s1];unfold swp;rw [if_neg (Ne.symm Ap),if_neg (Ne.symm uN)];exact fx1
  ·rw [AR];unfold swp;rw [if_neg FD,if_neg Ar,if_pos rfl,da ha hv,eb]
  ·rw [Cr];unfold swp;rw [if_pos rfl,if_neg (Ne.symm Ar),if_neg uN,da ha hu,ea]
  ·rw [dx x h1 h2 h3 h4];unfold swp;rw [if_neg h4,if_neg h1,if_neg h3,if_neg h2,da ha hx]
 have lN: ∀x y,x<N->y<N->x≠u->x≠v->y≠u->y≠v->(SC (ba si al N) x y↔SC (ba si (iB al u v) N) x y):=fun x y hx hy x1 x2 y1 y2=>
  (fx2 x y hx hy x2 y2).trans ((fx4 x y hx hy x1 y1).trans (yf ot wM hx))
 refine ⟨hs,dR,fun r hr kV kF p7 oy=>?_⟩;by_cases sV:r=u\/r=v
 ·--the circle of the two darts
  have aY: ∀x,x<N->(KK si (iB al u v) N r x↔(x=u\/x=v)):=fun x hx=>by
   refine ⟨fun e=>(FX r x hr hx e).1 sV,fun e=>?_⟩;have FF:KK si (iB al u v) N u v:=by have:=iC hs dR hu;rwa [s1] at this
   rcases sV with rfl|rfl<;>rcases e with rfl|rfl
   ·exact cn.cw _ hr
   ·exact FF
   ·exact cn.symm _ _ hx hr FF
   ·exact cn.cw _ hr
  have tV:Tr N (KK si (iB al u v) N r) (SC si) [u]:=by
   refine ⟨fun x hx=>?_,by simp,fun x hx y hy _=>?_,fun x hx e=>⟨u,by simp,?_⟩⟩
   ·simp at hx;subst hx;exact ⟨hu,(aY _ hu).2 (.inl rfl)⟩
   ·simp at hx hy;rw [hx,hy]
   ·rcases (aY x hx).1 e with rfl|rfl
    ·exact .refl _ _
    ·exact ⟨1,s2⟩
  have O9:ba si (iB al u v) N u=u:=by rw [da dR hu,du,s2]
  have O8:ba si (iB al u v) N v=v:=by rw [da dR hv,dv,s1]
  have AQ: ∀x y,ba si (iB al u v) N x=x->SC (ba si (iB al u v) N) x y->y=x:=fun x y hf ⟨k,hk⟩=>hk▸Ll hf k;have tF:Tr N (KK si (iB al u v) N r) (SC (ba si (iB al u v) N)) [u,v]:=by
   refine ⟨fun x hx=>?_,by simp [uN],fun x hx y hy e=>?_,fun x hx e=>?_⟩
   ·simp at hx;rcases hx with rfl|rfl
    ·exact ⟨hu,(aY _ hu).2 (.inl rfl)⟩
    ·exact ⟨hv,(aY _ hv).2 (.inr rfl)⟩
   ·simp at hx;rcases hx with rfl|rfl
    ·exact (AQ _ _ O9 e).symm
    ·exact (AQ _ _ O8 e).symm
   ·rcases (aY x hx).1 e with rfl|rfl
    ·exact ⟨x,by simp, .refl _ _⟩
    ·exact ⟨x,by simp, .refl _ _⟩
  have e1:=tV.bF (SC.eqv hs) p7;have e2:=tF.bF (SC.eqv gY) oy;have e3:=Aa dR (ji hs dR hr).2;have e4:cU (KK si (iB al u v) N r) N=2:=by
   rw [LN aY,Kv (fun x _ e1 e2=>uN (e1.symm.trans e2)),Ec,Ec,if_pos hu,if_pos hv]
  simp at e1 e2;omega
 ·have r1:r≠u:=fun e=>sV (.inl e);have r2:r≠v:=fun e=>sV (.inr e);have BZ: ∀x,x<N->KK si (iB al u v) N r x->x≠u/\x≠v:=fun x hx e=>by
   have:=(FX r x hr hx e)
   exact ⟨fun g=>sV (this.2 (.inl g)),fun g=>sV (this.2 (.inr g))⟩
  have aY: ∀x,x<N->x≠u->x≠v->(KK si (iB al u v) N r x↔KK si al N r x):=fun x hx x1 x2=>⟨aJ r x hr hx,uO r x hr hx r1 r2 x1 x2⟩;by_cases Az:KK si al N r u
  ·have V7:=hE.trans _ _ _ hr hu hv Az DA;have hra:=hE.trans _ _ _ hr hu la Az Nn;have hrb:=hE.trans _ _ _ hr hv lb V7 Nl;have tV:Tr N (KK si al N r) (SC si) (u::kV):=by
    refine ⟨fun x hx=>?_,?_,fun x hx y hy e=>?_,fun x hx e=>?_⟩
    ·rcases List.mem_cons.1 hx with rfl|g
     ·exact ⟨hu,Az⟩
     ·exact ⟨(p7.mem x g).1,aJ r x hr (p7.mem x g).1 (p7.mem x g).2⟩
    ·exact List.nodup_cons.2 ⟨fun g=>(BZ u hu (p7.mem u g).2).1 rfl,p7.nodup⟩
    ·have NL: ∀k,itn si k u=u\/itn si k u=v:=fun k=>by
      induction k with
      |zero=>exact .inl rfl
      |succ k ih=>exact (Bp _ (hs.a7 hu k)).1 ih
     have F7: ∀z,SC si u z->z=u\/z=v:=fun z ⟨k,hk⟩=>hk▸NL k;rcases List.mem_cons.1 hx with rfl|g<;>rcases List.mem_cons.1 hy with rfl|k
     ·rfl
     ·have:=BZ y (p7.mem y k).1 (p7.mem y k).2
      have:=F7 y e
      omega
     ·have:=BZ x (p7.mem x g).1 (p7.mem x g).2
      have:=F7 x (e.symm hs (p7.mem x g).1)
      omega
     ·exact p7.apart x g y k e
    ·by_cases x1:x=u
     ·exact ⟨u,by simp,by rw [x1];exact .refl _ _⟩
     ·by_cases x2:x=v
      ·exact ⟨u,by simp,by rw [x2];exact ⟨1,s2⟩⟩
      ·obtain ⟨y,h1,h2⟩:=p7.all x hx ((aY x hx x1 x2).2 e);exact ⟨y,by simp [h1],h2⟩
   have tF:Tr N (KK si al N r) (SC (ba si al N)) kF:=by
    refine ⟨fun x hx=>⟨(oy.mem x hx).1,aJ r x hr (oy.mem x hx).1 (oy.mem x hx).2⟩,oy.nodup,fun x hx y hy e=>?_,fun x hx e=>?_⟩
    ·have nx:=BZ x (oy.mem x hx).1 (oy.mem x hx).2;have ny:=BZ y (oy.mem y hy).1 (oy.mem y hy).2;exact oy.apart x hx y hy ((lN x y (oy.mem x hx).1 (oy.mem y hy).1 nx.1 nx.2 ny.1 ny.2).1 e)
    ·have step: ∀z,z<N->z≠u->z≠v->KK si al N r z-> ∃y,y∈kF/\SC (ba si al N) z y:=fun z hz z1 z2 ez=>by
      obtain ⟨y,h1,h2⟩:=oy.all z hz ((aY z hz z1 z2).2 ez);have ny:=BZ y (oy.mem y h1).1 (oy.mem y h1).2;exact ⟨y,h1,(lN z y hz (oy.mem y h1).1 z1 z2 ny.1 ny.2).2 h2⟩
     by_cases x1:x=u
     ·obtain ⟨y,h1,h2⟩:=step b lb Bx Ap hrb;refine ⟨y,h1,?_⟩
      have:SC (ba si al N) b u:=⟨1,by show ba si al N b=u;rw [da ha lb,ib,s2]⟩
      rw [x1];exact (this.symm jA lb).trans h2
     ·by_cases x2:x=v
      ·obtain ⟨y,h1,h2⟩:=step a la Ar Aq hra;refine ⟨y,h1,?_⟩
       have:SC (ba si al N) a v:=⟨1,fa⟩
       rw [x2];exact (this.symm jA la).trans h2
      ·exact step x hx x1 x2 e
   have e0:=h.eq r hr _ _ tV tF;have e1:=Aa ha (ji hs ha hr).2;have e2:=Aa dR (ji hs dR hr).2;have e3:cU (KK si al N r) N=cU (KK si (iB al u v) N r) N+2:=by
    have c1:cU (KK si al N r) N=cU (fun x=>KK si (iB al u v) N r x\/(x=u\/x=v)) N:=LN fun x hx=>by
     by_cases x1:x=u
     ·subst x1;exact ⟨fun _=> .inr (.inl rfl),fun _=>Az⟩
     ·by_cases x2:x=v
      ·subst x2;exact ⟨fun _=> .inr (.inr rfl),fun _=>V7⟩
      ·rw [aY x hx x1 x2];simp [x1,x2]
    rw [c1,Kv (fun x hx e1 e2=>by have:=BZ x hx e1;omega),Kv (fun x _ e1 e2=>uN (e1.symm.trans e2)),Ec,Ec,if_pos hu,if_pos hv]
   simp only [List.length_cons] at e0;omega
  ·have px: ∀x,x<N->KK si al N r x->x≠u/\x≠v/\x≠a/\x≠b:=fun x hx e=>by
    refine ⟨fun g=>?_,fun g=>?_,fun g=>?_,fun g=>?_⟩
    ·subst g;exact Az e
    ·subst g;exact Az (hE.trans _ _ _ hr hx hu e (hE.symm _ _ hu hx DA))
    ·subst g;exact Az (hE.trans _ _ _ hr hx hu e (hE.symm _ _ hu hx Nn))
    ·subst g;exact Az (hE.trans _ _ _ hr hx hu e (hE.trans _ _ _ hx hv hu (hE.symm _ _ hv hx Nl) (hE.symm _ _ hu hv DA)))
   have rH: ∀x,x<N->(KK si (iB al u v) N r x↔KK si al N r x):=fun x hx=>by
    refine ⟨aJ r x hr hx,fun e=>?_⟩
    have:=px x hx e
    exact (aY x hx this.1 this.2.1).2 e
   have tV:Tr N (KK si al N r) (SC si) kV:=p7.cy rH (fun _ _ _ _ _ _=>Iff.rfl);have tF:Tr N (KK si al N r) (SC (ba si al N)) kF:=oy.cy rH (fun x y hx hy e1 e2=>by
    have n1:=px x hx ((rH x hx).1 e1);have n2:=px y hy ((rH y hy).1 e2);exact (lN x y hx hy n1.1 n1.2.1 n2.1 n2.2.1).symm)
   have e0:=h.eq r hr _ _ tV tF;rw [e0];congr 1;exact Af fun x hx=>by
    rw [rH x hx];constructor
    ·rintro ⟨g1,g2⟩
     have:=px x hx g1
     exact ⟨g1,by rw [dx x this.1 this.2.1 this.2.2.1 this.2.2.2];exact g2⟩
    ·rintro ⟨g1,g2⟩
     have:=px x hx g1
     exact ⟨g1,by rw [dx x this.1 this.2.1 this.2.2.1 this.2.2.2] at g2;exact g2⟩
end
end Sp
namespace Sp
open Classical
def aV (x:Nat):Nat:=x-x % 4+(x % 4+3)% 4
def aZ (m:List Int) (x:Nat):Nat:=(m.getD x 0).toNat
theorem jS (x:Nat):aV x/4=x/4:=by unfold aV;omega
theorem bM (n:Nat):aw (4*n) aV:=⟨fun x hx=>by unfold aV;omega,fun x y hx hy e=>by unfold aV at e;omega⟩
theorem Eb {x y:Nat}:SC aV x y↔x/4=y/4:=by
 constructor
 ·rintro ⟨k,rfl⟩
  induction k with
  |zero=>rfl
  |succ k ih=>simp only [itn];rw [jS];exact ih
 ·intro e;refine ⟨(x % 4+4-y % 4)% 4,?_⟩;have h4:x % 4=0\/x % 4=1\/x % 4=2\/x % 4=3:=by omega
  have k4:y % 4=0\/y % 4=1\/y % 4=2\/y % 4=3:=by omega
  rcases h4 with h|h|h|h<;>rcases k4 with k|k|k|k<;>rw [h,k]<;>first|(simp only [itn,aV];omega)|(show x=y;omega)
section
variable {m:List Int} {n:Nat}
structure oX (m:List Int) (n:Nat):Prop where
 dB:gR m n
 ne: ∀h:Nat,h<4*n->m.getD h 0≠h
theorem oX.cast (h:oX m n) {x:Nat} (hx:x<4*n):((aZ m x:Nat):Int)=m.getD x 0:=by
 have:=h.dB.ok.2 x hx;unfold aZ;omega
theorem oX.ki (h:oX m n):mQ (4*n) (aZ m):=by
 refine ⟨fun x hx=>?_,fun x hx=>?_,fun x hx=>?_⟩
 ·have:=h.dB.ok.2 x hx;unfold aZ;omega
 ·have:=h.dB.inv x hx;unfold aZ;rw [this];simp
 ·intro e;exact h.ne x hx (by rw [←h.cast hx,e])
theorem oX.conn (h:oX m n) {x y:Nat} (hx:x<4*n) (hy:y<4*n):KK aV (aZ m) (4*n) x y↔bJ m (x/4) (y/4):=by
 have hs:=bM n;have ha:=h.ki;have hE:=sa hs ha;constructor
 ·refine fun hk=>sJ (R:=fun x y=>bJ m (x/4) (y/4)) hs ha ⟨fun _ _=> .refl _,fun x y hx _ e=>e.symm h.dB (by omega),fun _ _ _ _ _ _ e1 e2=>e1.trans e2⟩ (fun x _=>?_) (fun x hx=>?_) hx hy hk
  ·rw [jS];exact .refl _
  ·have:aZ m x/4=nb m (x/4) (x % 4):=by
    unfold nb aZ;rw [show 4*(x/4)+x % 4=x by omega]
    have:=h.dB.ok.2 x hx
    omega
   rw [this];exact .step _ (by omega) (.refl _)
 ·have key: ∀{a b:Nat},bJ m a b->a<n-> ∀x y,x/4=a->y/4=b->KK aV (aZ m) (4*n) x y:=fun {a b} hc J3=>by
   induction hc with
   |refl=>intro x y hx hy;exact rT hs ha (by omega) (Eb.2 (by omega))
   | @step b s h4 hc ih=>
     intro x y hx hy;have hb:=hc.lt h.dB J3;have h1:=ih x (4*b+s) hx (by omega);have h2:=e7 hs ha (x:=4*b+s) (by omega);have hl:=ha.lt (4*b+s) (by omega);have h3:aZ m (4*b+s)/4=nb m b s:=by
      unfold nb aZ
      have:=h.dB.ok.2 (4*b+s) (by omega)
      omega
     have pW:y<4*n:=by omega
     exact hE.trans _ _ _ (by omega) (by omega) pW h1 (hE.trans _ _ _ (by omega) hl pW h2 (rT hs ha hl (Eb.2 (by omega))))
  intro hc;exact key hc (by omega) x y rfl rfl
theorem oX.it (h:oX m n) {x:Nat} (hx:x<4*n): ∀k,it (bT m) k x=(itn (ba aV (aZ m) (4*n)) k x:Nat)
 |0=>rfl
 |k+1=>by
  have hl:=(qL (bM n) h.ki (4*n) (Nat.le_refl _)).a7 hx k;simp only [itn,Go.Proofs.YtjpbeacamoijhaaGreatDoor.it];rw [h.it hx k,da h.ki hl];generalize itn (ba aV (aZ m) (4*n)) k x=z at*;unfold bT;rw [Int.toNat_natCast,sH,←h.cast hl];unfold aV;omega
theorem oX.mK (h:oX m n) {x y:Nat} (hx:x<4*n):(y:Int)∈af (bT m) m.length x↔SC (ba aV (aZ m) (4*n)) x y:=by
 have iX:=h.dB.ok.1;have ho:=(Ac (Ja h.dB) (x:=x) (by unfold aA;omega)).1 y;rw [iX,ho];constructor
 ·rintro ⟨j,e⟩;rw [h.it hx j] at e;exact ⟨j,by omega⟩
 ·rintro ⟨j,e⟩;exact ⟨j,by rw [h.it hx j,e]⟩
theorem Rq (P:Nat->Prop): ∀n,cU (fun x=>P (x/4)) (4*n)=4*cU P n
 |0=>by simp [cU]
 |n+1=>by
  rw [show 4*(n+1)=4*n+1+1+1+1 by omega,uB,uB,uB,uB,Rq P n,uB];rw [show 4*n/4=n by omega,show (4*n+1)/4=n by omega,show (4*n+1+1)/4=n by omega,show (4*n+1+1+1)/4=n by omega]
  split<;>omega
theorem oX.vY (h:oX m n) {a:Nat} (ha:a<n) {u:Int} (hu: ∀b,b<n->((bP m n n).getD b 0=u↔bJ m a b)) {r:Nat} (hr:r/4=a):
  (∃l,Tr (4*n) (KK aV (aZ m) (4*n) r) (SC aV) l/\l.length=dw (bP m n n) n u)/\cU (KK aV (aZ m) (4*n) r) (4*n)=4*dw (bP m n n) n u:=by
 have qt:r<4*n:=by omega
 have pz: ∀x,x<4*n->(KK aV (aZ m) (4*n) r x↔(bP m n n).getD (x/4) 0=u):=fun x hx=>by
  rw [h.conn qt hx,hr,hu (x/4) (by omega)]
 refine ⟨⟨((List.range n).filter fun c=>(bP m n n).getD c 0==u).map (4* ·),⟨fun x hx=>?_,?_,fun x hx y hy e=>?_,fun x hx e=>?_⟩,?_⟩,?_⟩
 ·obtain ⟨c,hc,rfl⟩:=List.mem_map.1 hx;have h1:=List.mem_filter.1 hc;have h2:=List.mem_range.1 h1.1;refine ⟨by omega,(pz _ (by omega)).2 ?_⟩;rw [show 4*c/4=c by omega];simpa using h1.2
 ·exact List.Pairwise.map _ (fun a b lW e=>lW (by omega)) (List.nodup_range.filter _)
 ·obtain ⟨c,_,rfl⟩:=List.mem_map.1 hx;obtain ⟨d,_,rfl⟩:=List.mem_map.1 hy
  have:=Eb.1 e
  omega
 ·refine ⟨4*(x/4),List.mem_map.2 ⟨x/4,List.mem_filter.2 ⟨List.mem_range.2 (by omega),by simpa using (pz x hx).1 e⟩,rfl⟩,Eb.2 (by omega)⟩
 ·rw [List.length_map,←List.countP_eq_length_filter];rfl
 ·rw [LN pz,Rq (fun c=>(bP m n n).getD c 0=u)];congr 1;unfold cU dw;refine List.countP_congr fun c _=>?_;simp
theorem oX.WZ (h:oX m n) {a:Nat} (ha:a<n) {u:Int} (hu: ∀b,b<n->((bP m n n).getD b 0=u↔bJ m a b)) {r:Nat} (hr:r/4=a):
  ∃l,Tr (4*n) (KK aV (aZ m) (4*n) r) (SC (ba aV (aZ m) (4*n))) l/\l.length=iT m (bP m n n) (4*n) u:=by
 have qt:r<4*n:=by omega
 have pz: ∀x,x<4*n->(KK aV (aZ m) (4*n) r x↔(bP m n n).getD (x/4) 0=u):=fun x hx=>by
  rw [h.conn qt hx,hr,hu (x/4) (by omega)]
 have jA:=qL (bM n) h.ki (4*n) (Nat.le_refl _);have uh: ∀x,x<4*n->(fl m x=true↔ ∀y,SC (ba aV (aZ m) (4*n)) x y->x<=y):=fun x hx=>by
  unfold fl;rw [yT];constructor
  ·intro hl y hy
   have:=hl y ((h.mK hx).2 hy)
   omega
  ·intro hl y hy;have JJ:=(Ac (Ja h.dB) (x:=x) (by unfold aA;omega)).2.1 y (by rw [h.dB.ok.1] at hy;exact hy);unfold aA at JJ;obtain ⟨z,rfl⟩: ∃z:Nat,y=z:=⟨y.toNat,by omega⟩
   have:=hl z ((h.mK hx).1 hy)
   omega
 refine ⟨(List.range (4*n)).filter fun i=>fl m i&&(bP m n n).getD (i/4) 0==u,⟨fun x hx=>?_,List.nodup_range.filter _,fun x hx y hy e=>?_,fun x hx e=>?_⟩,?_⟩
 ·have h1:=List.mem_filter.1 hx;have h2:=List.mem_range.1 h1.1;refine ⟨h2,(pz x h2).2 ?_⟩
  have:=h1.2
  rw [Bool.and_eq_true] at this;simpa using this.2
 ·have h1:=List.mem_filter.1 hx;have h2:=List.mem_filter.1 hy;have l1:=List.mem_range.1 h1.1;have l2:=List.mem_range.1 h2.1;have f1:=(uh x l1).1 ((Bool.and_eq_true _ _▸h1.2).1);have f2:=(uh y l2).1 ((Bool.and_eq_true _ _▸h2.2).1)
  have:=f1 y e
  have:=f2 x (e.symm jA l1)
  omega
 ·have key: ∀k x,x<k->x<4*n->(bP m n n).getD (x/4) 0=u-> ∃y,y∈((List.range (4*n)).filter fun i=>fl m i&&(bP m n n).getD (i/4) 0==u)/\SC (ba aV (aZ m) (4*n)) x y:=fun k=>by
   induction k with
   |zero=>intro x h;omega
   |succ k ih=>
    intro x hk hx VX;by_cases hl: ∃y,SC (ba aV (aZ m) (4*n)) x y/\y<x
    ·obtain ⟨y,h1,h2⟩:=hl;have pW:y<4*n:=by omega
     have huy:(bP m n n).getD (y/4) 0=u:=by
      have AL:=zP (bM n) h.ki hx h1
      have:=(pz x hx).2 VX
      exact (pz y pW).1 ((sa (bM n) h.ki).trans _ _ _ qt hx pW this AL)
     obtain ⟨z,h3,h4⟩:=ih y (by omega) pW huy;exact ⟨z,h3,h1.trans h4⟩
    ·refine ⟨x,List.mem_filter.2 ⟨List.mem_range.2 hx,?_⟩, .refl _ _⟩;rw [Bool.and_eq_true];exact ⟨(uh x hx).2 fun y hy=>Nat.le_of_not_lt fun ay=>hl ⟨y,hy,ay⟩,by simpa using VX⟩
  exact key (x+1) x (by omega) hx ((pz x hx).1 e)
 ·rw [←List.countP_eq_length_filter];rfl
theorem oX.vB (h:oX m n):qf m n=true↔eY (4*n) aV (aZ m):=by
 have jA:=qL (bM n) h.ki (4*n) (Nat.le_refl _);rw [I4];constructor
 ·intro hr;refine ⟨bM n,h.ki,fun r qt lV lF hV hF=>?_⟩;obtain ⟨u,hu,hc,oz⟩:=Lp h.dB (a:=r/4) (by omega);have e0:=hr u hu ((oz u hu).2 (hc.symm h.dB hu));obtain ⟨⟨l1,t1,n1⟩,hcU⟩:=h.vY (a:=r/4) (by omega) oz rfl;obtain ⟨l2,t2,n2⟩:=h.WZ (a:=r/4) (by omega) oz rfl;have e1:=hV.bF (SC.eqv (bM n)) t1;have e2:=hF.bF (SC.eqv jA) t2
  have e3:=Aa h.ki (ji (bM n) h.ki qt).2;omega
 ·intro hS c hc Gm;obtain ⟨u,hu,WD,oz⟩:=Lp h.dB (a:=c) hc;have VY:(u:Int)=c:=by rw [←Gm];exact ((oz c hc).2 (.refl _)).symm
  have NG:u=c:=by omega
  subst NG;obtain ⟨⟨l1,t1,n1⟩,hcU⟩:=h.vY (a:=u) hc oz (r:=4*u) (by omega);obtain ⟨l2,t2,n2⟩:=h.WZ (a:=u) hc oz (r:=4*u) (by omega);have e0:=hS.eq (4*u) (by omega) l1 l2 t1 t2;have e3:=Aa h.ki (ji (bM n) h.ki (r:=4*u) (by omega)).2;omega
end
end Sp
namespace Sp
open Classical
section
variable {N N':Nat} {si al eK mv io:Nat->Nat}
def G1 (N:Nat) (si al:Nat->Nat) (r:Nat):Prop:= ∀lV lF,Tr N (KK si al N r) (SC si) lV->Tr N (KK si al N r) (SC (ba si al N)) lF->lV.length+lF.length=2+eU al (KK si al N r) N
theorem y4a (hs:aw N si) (ha:mQ N al) (il: ∀x,x<N'->io x<N) (ii: ∀x y,x<N'->y<N'->io x=io y->x=y) (ls: ∀x,x<N'->eK x<N') (la: ∀x,x<N'->mv x<N')
  (es: ∀x,x<N'->io (eK x)=si (io x)) (ea: ∀x,x<N'->io (mv x)=al (io x)):aw N' eK/\mQ N' mv/\ ∀r,r<N'->(G1 N si al (io r)↔G1 N' eK mv r):=by
 have aX:aw N' eK:=⟨ls,fun x y hx hy e=>ii x y hx hy (hs.inj _ _ (il x hx) (il y hy) (by rw [←es x hx,←es y hy,e]))⟩;have dR:mQ N' mv:=by
  refine ⟨la,fun x hx=>ii _ _ (la _ (la x hx)) hx (by rw [ea _ (la x hx),ea x hx];exact ha.inv _ (il x hx)),fun x hx e=>ha.ne _ (il x hx) (by rw [←ea x hx,e])⟩
 have hE:=sa hs ha;have cn:=sa aX dR;have jA:=qL hs ha N (Nat.le_refl _);have gY:=qL aX dR N' (Nat.le_refl _);have zn: ∀{f f':Nat->Nat} (_: ∀x,x<N'->f' x<N') (_: ∀x,x<N'->io (f' x)=f (io x)) (x y:Nat),x<N'->y<N'->(SC f' x y↔SC f (io x) (io y)):=fun {f f'} hl he x y hx hy=>by
  have hk: ∀k,itn f' k x<N'/\io (itn f' k x)=itn f k (io x):=fun k=>by
   induction k with
   |zero=>exact ⟨hx,rfl⟩
   |succ k ih=>exact ⟨hl _ ih.1,by simp only [itn];rw [he _ ih.1,ih.2]⟩
  constructor
  ·rintro ⟨k,rfl⟩;exact ⟨k,(hk k).2.symm⟩
  ·rintro ⟨k,e⟩;exact ⟨k,ii _ _ (hk k).1 hy (by rw [(hk k).2,e])⟩
 have V4:=zn ls es;have wM:=zn (f:=ba si al N) (f':=ba eK mv N') (fun x hx=>gY.lt x hx) (fun x hx=>by
  rw [da dR hx,da ha (il x hx),es _ (la x hx),ea x hx])
 have DN: ∀u,u<N->((∃x,x<N'/\io x=u)↔(∃x,x<N'/\io x=si u)):=fun u hu=>by
  constructor
  ·rintro ⟨x,hx,rfl⟩;exact ⟨eK x,ls x hx,es x hx⟩
  ·rintro ⟨x,hx,e⟩;obtain ⟨k,hk⟩:=(SC.step si u).symm hs hu;rw [←e] at hk
   have: ∀k,∃y,y<N'/\io y=itn si k (io x):=fun k=>by
    induction k with
    |zero=>exact ⟨x,hx,rfl⟩
    |succ k ih=>obtain ⟨y,hy,e⟩:=ih;exact ⟨eK y,ls y hy,by rw [es y hy,e];rfl⟩
   obtain ⟨y,hy,e2⟩:=this k;exact ⟨y,hy,by rw [e2,hk]⟩
 have Wr: ∀u,u<N->((∃x,x<N'/\io x=u)↔(∃x,x<N'/\io x=al u)):=fun u hu=>by
  constructor
  ·rintro ⟨x,hx,rfl⟩;exact ⟨mv x,la x hx,ea x hx⟩
  ·rintro ⟨x,hx,e⟩;exact ⟨mv x,la x hx,by rw [ea x hx,e];exact ha.inv u hu⟩
 have hKR:jM N (fun u v=>((∃x,x<N'/\io x=u)↔(∃y,y<N'/\io y=v))/\ ∀x y,x<N'->y<N'->io x=u->io y=v->KK eK mv N' x y):=by
  refine ⟨fun u _=>⟨Iff.rfl,fun x y hx hy e1 e2=>?_⟩,fun u v _ _ e=>⟨e.1.symm,fun x y hx hy e1 e2=>cn.symm _ _ hy hx (e.2 y x hy hx e2 e1)⟩,fun u v w _ _ _ e1 e2=>⟨e1.1.trans e2.1,fun x y hx hy g1 g2=>?_⟩⟩
  ·have:=ii x y hx hy (by rw [e1,e2]);subst this;exact cn.cw _ hx
  ·obtain ⟨z,hz,e⟩:=e1.1.1 ⟨x,hx,g1⟩;exact cn.trans _ _ _ hx hz hy (e1.2 x z hx hz g1 e) (e2.2 z y hz hy e g2)
 have hK: ∀x y,x<N'->y<N'->(KK eK mv N' x y↔KK si al N (io x) (io y)):=fun x y hx hy=>by
  constructor
  ·refine fun hk=>sJ (R:=fun x y=>KK si al N (io x) (io y)) aX dR ⟨fun x hx=>hE.cw _ (il x hx),fun x y hx hy e=>hE.symm _ _ (il x hx) (il y hy) e,fun x y z hx hy hz e1 e2=>hE.trans _ _ _ (il x hx) (il y hy) (il z hz) e1 e2⟩ (fun x hx=>?_) (fun x hx=>?_) hx hy hk
   ·rw [es x hx];exact iC hs ha (il x hx)
   ·rw [ea x hx];exact e7 hs ha (il x hx)
  ·intro hk;refine (sJ hs ha hKR (fun u hu=>⟨DN u hu,fun x y hx hy e1 e2=>?_⟩) (fun u hu=>⟨Wr u hu,fun x y hx hy e1 e2=>?_⟩) (il x hx) (il y hy) hk).2 x y hx hy rfl rfl
   ·have:y=eK x:=ii _ _ hy (ls x hx) (by rw [e2,es x hx,e1])
    subst this;exact iC aX dR hx
   ·have:y=mv x:=ii _ _ hy (la x hx) (by rw [e2,ea x hx,e1])
    subst this;exact e7 aX dR hx
 have oD: ∀r,r<N'-> ∀u,u<N->KK si al N (io r) u-> ∃x,x<N'/\io x=u:=fun r hr u hu hk=>
  (sJ (R:=fun u v=>((∃x,x<N'/\io x=u)↔(∃y,y<N'/\io y=v))) hs ha ⟨fun _ _=>Iff.rfl,fun _ _ _ _ e=>e.symm,fun _ _ _ _ _ _ e1 e2=>e1.trans e2⟩ DN Wr (il r hr) hu hk).1 ⟨r,hr,rfl⟩
 have BM: ∀{E E':Nat->Nat->Prop} (_: ∀x y,x<N'->y<N'->(E' x y↔E (io x) (io y))) (r:Nat) (l:List Nat),r<N'->Tr N' (KK eK mv N' r) E' l->Tr N (KK si al N (io r)) E (l.map io):=fun {E E'} he r l hr ht=>by
  refine ⟨fun u hu=>?_,?_,fun u hu v hv e=>?_,fun u hu hk=>?_⟩
  ·obtain ⟨x,hx,rfl⟩:=List.mem_map.1 hu;exact ⟨il x (ht.mem x hx).1,(hK r x hr (ht.mem x hx).1).1 (ht.mem x hx).2⟩
  ·rw [List.Nodup,List.pairwise_map];refine List.Pairwise.imp_of_mem ?_ ht.nodup;intro x y hx hy ax e;exact ax (ii x y (ht.mem x hx).1 (ht.mem y hy).1 e)
  ·obtain ⟨x,hx,rfl⟩:=List.mem_map.1 hu;obtain ⟨y,hy,rfl⟩:=List.mem_map.1 hv;rw [ht.apart x hx y hy ((he x y (ht.mem x hx).1 (ht.mem y hy).1).2 e)]
  ·obtain ⟨x,hx,rfl⟩:=oD r hr u hu hk;obtain ⟨y,h1,h2⟩:=ht.all x hx ((hK r x hr hx).2 hk);exact ⟨io y,List.mem_map.2 ⟨y,h1,rfl⟩,(he x y hx (ht.mem y h1).1).1 h2⟩
 refine ⟨aX,dR,fun r hr=>?_⟩;have e1:=Aa ha (ji hs ha (il r hr)).2;have e2:=Aa dR (ji aX dR hr).2;have e3:cU (KK si al N (io r)) N=cU (KK eK mv N' r) N':=by
  unfold cU;rw [List.countP_eq_length_filter,List.countP_eq_length_filter];have m1: ∀u,u∈((List.range N).filter fun x=>decide (KK si al N (io r) x))↔u<N/\KK si al N (io r) u:=fun u=>by simp [List.mem_filter]
  have m2: ∀u,u∈((List.range N').filter fun x=>decide (KK eK mv N' r x))↔u<N'/\KK eK mv N' r u:=fun u=>by simp [List.mem_filter]
  refine Nat.le_antisymm ?_ ?_
  ·have oF: ∀u,∃x,(u<N/\KK si al N (io r) u)->(x<N'/\io x=u):=fun u=>by
    by_cases hu:u<N/\KK si al N (io r) u
    ·obtain ⟨x,h1,h2⟩:=oD r hr u hu.1 hu.2;exact ⟨x,fun _=>⟨h1,h2⟩⟩
    ·exact ⟨0,fun e=>absurd e hu⟩
   obtain ⟨g,hg⟩:=Classical.axiomOfChoice oF;refine Ba _ _ g (List.nodup_range.filter _) (fun u hu=>?_) (fun u hu v hv e=>?_)
   ·have h1:=(m1 u).1 hu;have h2:=hg u h1;exact (m2 _).2 ⟨h2.1,(hK r _ hr h2.1).2 (by rw [h2.2];exact h1.2)⟩
   ·have h1:=hg u ((m1 u).1 hu);have h2:=hg v ((m1 v).1 hv);rw [←h1.2,←h2.2,e]
  ·refine Ba _ _ io (List.nodup_range.filter _) (fun x hx=>?_) (fun x hx y hy e=>ii x y ((m2 x).1 hx).1 ((m2 y).1 hy).1 e);have h1:=(m2 x).1 hx;exact (m1 _).2 ⟨il x h1.1,(hK r x hr h1.1).1 h1.2⟩
 constructor
 ·intro h lV lF hV hF;have e0:=h _ _ (BM V4 r lV hr hV) (BM wM r lF hr hF);rw [List.length_map,List.length_map] at e0;omega
 ·intro h lV lF hV hF;obtain ⟨FE,xf⟩:=Tr.exists (SC.eqv aX) (KK eK mv N' r);obtain ⟨BB,xj⟩:=Tr.exists (SC.eqv gY) (KK eK mv N' r);have e0:=h _ _ xf xj;have g1:=hV.bF (SC.eqv hs) (BM V4 r FE hr xf);have g2:=hF.bF (SC.eqv jA) (BM wM r BB hr xj);rw [List.length_map] at g1 g2;omega
theorem eY.um (h:eY N si al) (il: ∀x,x<N'->io x<N) (ii: ∀x y,x<N'->y<N'->io x=io y->x=y) (ls: ∀x,x<N'->eK x<N') (la: ∀x,x<N'->mv x<N')
  (es: ∀x,x<N'->io (eK x)=si (io x)) (ea: ∀x,x<N'->io (mv x)=al (io x)):eY N' eK mv:=by
 obtain ⟨h1,h2,h3⟩:=y4a h.perm h.ki il ii ls la es ea;exact ⟨h1,h2,fun r hr=>(h3 r hr).1 (h.eq (io r) (il r hr))⟩
end
end Sp
namespace Sp
open Classical
def vR (al:Nat->Nat) (u v x:Nat):Nat:=if x=u then al v else if x=v then al u else x
def iA (al:Nat->Nat) (u v:Nat):Nat->Nat:=if al u=v then al else iB al u v
section
variable {N:Nat} {si al:Nat->Nat}
theorem R1 (ha:mQ N al) {u v h:Nat} (hu:u<N) (hv:v<N) (uN:u≠v) (hh:h<N) (h1:h≠u) (h2:h≠v):iA al u v h=vR al u v (al h):=by
 have ih:=ha.inv h hh;unfold iA vR;by_cases e:al u=v
 ·rw [if_pos e];have n1:al h≠u:=fun g=>h2 (by rw [←ih,g,e]);have n2:al h≠v:=fun g=>h1 (by rw [←ih,g,←e,ha.inv u hu]);rw [if_neg n1,if_neg n2]
 ·rw [if_neg e];unfold iB;rw [if_neg h1,if_neg h2];by_cases g1:h=al u
  ·rw [if_pos g1,if_pos (by rw [g1,ha.inv u hu])]
  ·rw [if_neg g1];have n1:al h≠u:=fun g=>g1 (by rw [←ih,g]);rw [if_neg n1];by_cases g2:h=al v
   ·rw [if_pos g2,if_pos (by rw [g2,ha.inv v hv])]
   ·rw [if_neg g2,if_neg (fun g=>g2 (by rw [←ih,g]))]
theorem eY.iA (h:eY N si al) {u v:Nat} (hu:u<N) (hv:v<N) (uN:u≠v) (s1:si u=v) (s2:si v=u):eY N si (iA al u v):=by
 unfold Sp.iA;by_cases e:al u=v
 ·rw [if_pos e];exact h
 ·rw [if_neg e];exact h.te hu hv uN s1 s2 e
end
theorem follow {u1 v1 u2 v2 h:Nat} {al T:Nat->Nat} {O:Nat->Prop} (i: ∀x,x=u1\/x=v1\/x=u2\/x=v2\/x=h->al (al x)=x/\al x≠x) (d:u1≠v1/\u1≠u2/\u1≠v2/\v1≠u2/\v1≠v2/\u2≠v2)
  (hh:h≠u1/\h≠v1/\h≠u2/\h≠v2) (T1:T u1=al v1) (T2:T v1=al u1) (T3:T u2=al v2) (T4:T v2=al u2) (TO: ∀x,x≠u1->x≠v1->x≠u2->x≠v2->T x=x):
  (if vR al u1 v1 (al h)=u2 then vR al u1 v1 (al v2) else if vR al u1 v1 (al h)=v2 then vR al u1 v1 (al u2) else vR al u1 v1 (al h))=T (T (T (T (T (al h))))):=by
 obtain ⟨d1,d2,d3,d4,d5,d6⟩:=d;obtain ⟨k1,k2,k3,k4⟩:=hh;have j1:=i u1 (by simp);have j2:=i v1 (by simp);have j3:=i u2 (by simp);have j4:=i v2 (by simp);have j5:=i h (by simp);have inj: ∀x y,(x=u1\/x=v1\/x=u2\/x=v2\/x=h)->(y=u1\/y=v1\/y=u2\/y=v2\/y=h)->al x=y->al y=x:=fun x y hx _ e=>by rw [←e];exact (i x hx).1
 have stay: ∀x,x≠u1->x≠v1->x≠u2->x≠v2->T (T (T (T (T x))))=x/\T (T (T (T x)))=x/\T (T (T x))=x:=fun x a1 a2 a3 a4=>by
  have:=TO x a1 a2 a3 a4;simp only [this];simp
 unfold vR;by_cases c1:al h=u1
 ·have b1:al u1=h:=inj h u1 (by simp) (by simp) c1;rw [if_pos c1,c1,T1];have y1:al v1≠u1:=fun e=>k2 (by rw [←b1];exact inj v1 u1 (by simp) (by simp) e);have y2:al v1≠v1:=j2.2;by_cases c2:al v1=u2
  ·have b2:al u2=v1:=inj v1 u2 (by simp) (by simp) c2;have z1:al v2≠u1:=fun e=>k4 (by rw [←b1];exact inj v2 u1 (by simp) (by simp) e);have z2:al v2≠v1:=fun e=>d6 (by rw [←c2];exact inj v2 v1 (by simp) (by simp) e);have z3:al v2≠u2:=fun e=>d5 (by rw [←b2];exact inj v2 u2 (by simp) (by simp) e);rw [if_pos c2,if_neg z1,if_neg z2,c2,T3,(stay _ z1 z2 z3 j4.2).2.2]
  ·by_cases c3:al v1=v2
   ·have b2:al v2=v1:=inj v1 v2 (by simp) (by simp) c3;have z1:al u2≠u1:=fun e=>k3 (by rw [←b1];exact inj u2 u1 (by simp) (by simp) e);have z2:al u2≠v1:=fun e=>d6 (by rw [←c3];exact (inj u2 v1 (by simp) (by simp) e).symm);have z4:al u2≠v2:=fun e=>d4 (by rw [←b2];exact inj u2 v2 (by simp) (by simp) e);rw [if_neg c2,if_pos c3,if_neg z1,if_neg z2,c3,T4,(stay _ z1 z2 j3.2 z4).2.2]
   ·rw [if_neg c2,if_neg c3,(stay _ y1 y2 c2 c3).2.1]
 ·rw [if_neg c1];by_cases Ha:al h=v1
  ·have b1:al v1=h:=inj h v1 (by simp) (by simp) Ha;rw [if_pos Ha,Ha,T2];have y1:al u1≠v1:=fun e=>k1 (by rw [←b1];exact inj u1 v1 (by simp) (by simp) e);have y2:al u1≠u1:=j1.2;by_cases c2:al u1=u2
   ·have b2:al u2=u1:=inj u1 u2 (by simp) (by simp) c2;have z1:al v2≠v1:=fun e=>k4 (by rw [←b1];exact inj v2 v1 (by simp) (by simp) e);have z2:al v2≠u1:=fun e=>d6 (by rw [←c2];exact inj v2 u1 (by simp) (by simp) e);have z3:al v2≠u2:=fun e=>d3 (by rw [←b2];exact inj v2 u2 (by simp) (by simp) e);rw [if_pos c2,if_neg z2,if_neg z1,c2,T3,(stay _ z2 z1 z3 j4.2).2.2]
   ·by_cases c3:al u1=v2
    ·have b2:al v2=u1:=inj u1 v2 (by simp) (by simp) c3;have z1:al u2≠v1:=fun e=>k3 (by rw [←b1];exact inj u2 v1 (by simp) (by simp) e);have z2:al u2≠u1:=fun e=>d6 (by rw [←c3];exact (inj u2 u1 (by simp) (by simp) e).symm);have z4:al u2≠v2:=fun e=>d2 (by rw [←b2];exact inj u2 v2 (by simp) (by simp) e);rw [if_neg c2,if_pos c3,if_neg z2,if_neg z1,c3,T4,(stay _ z2 z1 j3.2 z4).2.2]
    ·rw [if_neg c2,if_neg c3,(stay _ y2 y1 c2 c3).2.1]
  ·rw [if_neg Ha];by_cases c4:al h=u2
   ·have b1:al u2=h:=inj h u2 (by simp) (by simp) c4;rw [if_pos c4,c4,T3];have y3:al v2≠u2:=fun e=>k4 (by rw [←b1];exact inj v2 u2 (by simp) (by simp) e);by_cases c2:al v2=u1
    ·have b2:al u1=v2:=inj v2 u1 (by simp) (by simp) c2;have z1:al v1≠u1:=fun e=>d5 (by rw [←b2];exact (inj v1 u1 (by simp) (by simp) e).symm);have z3:al v1≠u2:=fun e=>k2 (by rw [←b1];exact inj v1 u2 (by simp) (by simp) e);have z4:al v1≠v2:=fun e=>d1 (by rw [←c2];exact inj v1 v2 (by simp) (by simp) e);rw [if_pos c2,c2,T1,(stay _ z1 j2.2 z3 z4).2.2]
    ·by_cases c3:al v2=v1
     ·have b2:al v1=v2:=inj v2 v1 (by simp) (by simp) c3;have z2:al u1≠v1:=fun e=>d3 (by rw [←b2];exact (inj u1 v1 (by simp) (by simp) e).symm);have z3:al u1≠u2:=fun e=>k1 (by rw [←b1];exact inj u1 u2 (by simp) (by simp) e);have z4:al u1≠v2:=fun e=>d1 (by rw [←c3];exact (inj u1 v2 (by simp) (by simp) e).symm);rw [if_neg c2,if_pos c3,c3,T2,(stay _ j1.2 z2 z3 z4).2.2]
     ·rw [if_neg c2,if_neg c3,(stay _ c2 c3 y3 j4.2).2.1]
   ·rw [if_neg c4];by_cases c5:al h=v2
    ·have b1:al v2=h:=inj h v2 (by simp) (by simp) c5;rw [if_pos c5,c5,T4];have y3:al u2≠v2:=fun e=>k3 (by rw [←b1];exact inj u2 v2 (by simp) (by simp) e);by_cases c2:al u2=u1
     ·have b2:al u1=u2:=inj u2 u1 (by simp) (by simp) c2;have z1:al v1≠u1:=fun e=>d4 (by rw [←b2];exact (inj v1 u1 (by simp) (by simp) e).symm);have z3:al v1≠v2:=fun e=>k2 (by rw [←b1];exact inj v1 v2 (by simp) (by simp) e);have z4:al v1≠u2:=fun e=>d1 (by rw [←c2];exact inj v1 u2 (by simp) (by simp) e);rw [if_pos c2,c2,T1,(stay _ z1 j2.2 z4 z3).2.2]
     ·by_cases c3:al u2=v1
      ·have b2:al v1=u2:=inj u2 v1 (by simp) (by simp) c3;have z2:al u1≠v1:=fun e=>d2 (by rw [←b2];exact (inj u1 v1 (by simp) (by simp) e).symm);have z3:al u1≠v2:=fun e=>k1 (by rw [←b1];exact inj u1 v2 (by simp) (by simp) e);have z4:al u1≠u2:=fun e=>d1 (by rw [←c3];exact (inj u1 u2 (by simp) (by simp) e).symm);rw [if_neg c2,if_pos c3,c3,T2,(stay _ j1.2 z2 z4 z3).2.2]
      ·rw [if_neg c2,if_neg c3,(stay _ c2 c3 j3.2 y3).2.1]
    ·rw [if_neg c5,(stay _ c1 Ha c4 c5).1]
end Sp
namespace Sp
open Classical
theorem Jl (l k:List Int) (i:Nat) (h:i<l.length):(l++k).getD i 0=l.getD i 0:=by
 rw [List.getD_eq_getElem?_getD,List.getD_eq_getElem?_getD,List.getElem?_append_left h]
theorem Jk (l k:List Int) (i:Nat) (h:l.length<=i):(l++k).getD i 0=k.getD (i-l.length) 0:=by
 rw [List.getD_eq_getElem?_getD,List.getD_eq_getElem?_getD,List.getElem?_append_right h]
theorem ll {E:List Int} {c:Nat}: ∀k,(cv E c k).length=4*(if c<k then k-1 else k)/\ ∀x,x<4*(if c<k then k-1 else k)->(cv E c k).getD x 0=c6 E c (if x/4<c then x else x+4)
 |0=>by simp [cv]
 |k+1=>by
  obtain ⟨h1,h2⟩:=ll (E:=E) (c:=c) k;by_cases hk:k=c
  ·have e:cv E c (k+1)=cv E c k:=by simp [cv,hk]
   rw [e,if_pos (by omega)];rw [if_neg (by omega)] at h1 h2;exact ⟨by omega,fun x hx=>h2 x (by omega)⟩
  ·have e:cv E c (k+1)=cv E c k++[c6 E c (4*k),c6 E c (4*k+1),c6 E c (4*k+2),c6 E c (4*k+3)]:=by simp [cv,dE,hk]
   rw [e];by_cases jC:c<k
   ·rw [if_pos jC] at h1 h2;rw [if_pos (by omega)];refine ⟨by simp [h1];omega,fun x hx=>?_⟩;by_cases BH:x<4*(k-1)
    ·rw [Jl _ _ _ (by omega)];exact h2 x BH
    ·rw [Jk _ _ _ (by omega),h1];have Nx:x=4*(k-1)\/x=4*(k-1)+1\/x=4*(k-1)+2\/x=4*(k-1)+3:=by omega
     rw [if_neg (by omega)];rcases Nx with rfl|rfl|rfl|rfl
     ·rw [show 4*(k-1)-4*(k-1)=0 by omega,show 4*(k-1)+4=4*k by omega];rfl
     ·rw [show 4*(k-1)+1-4*(k-1)=1 by omega,show 4*(k-1)+1+4=4*k+1 by omega];rfl
     ·rw [show 4*(k-1)+2-4*(k-1)=2 by omega,show 4*(k-1)+2+4=4*k+2 by omega];rfl
     ·rw [show 4*(k-1)+3-4*(k-1)=3 by omega,show 4*(k-1)+3+4=4*k+3 by omega];rfl
   ·rw [if_neg jC] at h1 h2;rw [if_neg (by omega)];refine ⟨by simp [h1];omega,fun x hx=>?_⟩;by_cases BH:x<4*k
    ·rw [Jl _ _ _ (by omega)];exact h2 x BH
    ·rw [Jk _ _ _ (by omega),h1];have Nx:x=4*k\/x=4*k+1\/x=4*k+2\/x=4*k+3:=by omega
     rw [if_pos (by omega)];rcases Nx with rfl|rfl|rfl|rfl
     ·rw [show 4*k-4*k=0 by omega];rfl
     ·rw [show 4*k+1-4*k=1 by omega];rfl
     ·rw [show 4*k+2-4*k=2 by omega];rfl
     ·rw [show 4*k+3-4*k=3 by omega];rfl
theorem VM (c:Nat):aF false (4*c)=4*c+1/\aF false (4*c+1)=4*c/\aF false (4*c+2)=4*c+3/\aF false (4*c+3)=4*c+2:=by
 unfold aF;simp only [tK,sH];refine ⟨?_,?_,?_,?_⟩<;>(split<;>rename_i h<;>simp at h<;>omega)
theorem VL (c:Nat):aF true (4*c)=4*c+3/\aF true (4*c+1)=4*c+2/\aF true (4*c+2)=4*c+1/\aF true (4*c+3)=4*c:=by
 unfold aF;simp only [tK,sH];refine ⟨?_,?_,?_,?_⟩<;>(split<;>rename_i h<;>simp at h<;>omega)
theorem zb (c:Nat):(aF false ((4*c:Nat):Int)).toNat=4*c+1/\(aF false ((4*c+1:Nat):Int)).toNat=4*c/\(aF false ((4*c+2:Nat):Int)).toNat=4*c+3/\(aF false ((4*c+3:Nat):Int)).toNat=4*c+2:=by
 obtain ⟨h1,h2,h3,h4⟩:=VM c;refine ⟨?_,?_,?_,?_⟩
 ·rw [show ((4*c:Nat):Int)=4*c by omega,h1];omega
 ·rw [show ((4*c+1:Nat):Int)=4*c+1 by omega,h2];omega
 ·rw [show ((4*c+2:Nat):Int)=4*c+2 by omega,h3];omega
 ·rw [show ((4*c+3:Nat):Int)=4*c+3 by omega,h4];omega
theorem za (c:Nat):(aF true ((4*c:Nat):Int)).toNat=4*c+3/\(aF true ((4*c+1:Nat):Int)).toNat=4*c+2/\(aF true ((4*c+2:Nat):Int)).toNat=4*c+1/\(aF true ((4*c+3:Nat):Int)).toNat=4*c:=by
 obtain ⟨h1,h2,h3,h4⟩:=VL c;refine ⟨?_,?_,?_,?_⟩
 ·rw [show ((4*c:Nat):Int)=4*c by omega,h1];omega
 ·rw [show ((4*c+1:Nat):Int)=4*c+1 by omega,h2];omega
 ·rw [show ((4*c+2:Nat):Int)=4*c+2 by omega,h3];omega
 ·rw [show ((4*c+3:Nat):Int)=4*c+3 by omega,h4];omega
section
variable {m:List Int} {n c:Nat} {b:Bool}
def vA (m:List Int) (b:Bool) (c x:Nat):Nat:=if x/4=c then aZ m (aF b x).toNat else x
theorem KW (h:oX m n) (hc:c<n): ∀f x:Nat,x<4*n->cW m b c f x=(itn (vA m b c) f x:Nat)
 |0,x,_=>rfl
 |f+1,x,hx=>by
  simp only [itn];rw [←Bj (vA m b c) f x];by_cases tX:x/4=c
  ·have hj:=qc b (x:Int);have hl:(aF b (x:Int)).toNat<4*n:=by omega
   have e1:vA m b c x=aZ m (aF b x).toNat:=by unfold vA;rw [if_pos tX]
   rw [e1,Eu (by omega),←h.cast hl];exact KW h hc f _ (h.ki.lt _ hl)
  ·have e1:vA m b c x=x:=by unfold vA;rw [if_neg tX]
   rw [e1,←KW h hc f x hx,Be (by omega),Be (by omega)]
theorem XX (h:oX m n) (hc:c<n) (gS:qf m n=true):oX (cv (eJ m b c (4*n)) c n) (n-1)/\qf (cv (eJ m b c (4*n)) c n) (n-1)=true:=by
 have iX:=h.dB.ok.1;have hS:=h.vB.1 gS;have ha:=h.ki;obtain ⟨u1,wz⟩: ∃u,u=4*c:=⟨_,rfl⟩;obtain ⟨u2,FZ⟩: ∃u,u=4*c+2:=⟨_,rfl⟩;obtain ⟨v1,tY⟩: ∃v,v=if b then 4*c+3 else 4*c+1:=⟨_,rfl⟩;obtain ⟨v2,vH⟩: ∃v,v=if b then 4*c+1 else 4*c+3:=⟨_,rfl⟩;obtain ⟨p,hp⟩: ∃p,p=if b then 4*c+1 else 4*c:=⟨_,rfl⟩;obtain ⟨q,hq⟩: ∃q,q=if b then 4*c+3 else 4*c+2:=⟨_,rfl⟩
 have hb:(v1=4*c+3/\v2=4*c+1/\p=4*c+1/\q=4*c+3/\b=true)\/(v1=4*c+1/\v2=4*c+3/\p=4*c/\q=4*c+2/\b=false):=by
  cases b
  ·exact .inr ⟨tY,vH,hp,hq,rfl⟩
  ·exact .inl ⟨tY,vH,hp,hq,rfl⟩
 have OR:=hS.split (p:=p) (q:=q) (by omega) (by omega) (by omega) (Eb.2 (by omega));have sj:swp aV p q u1=v1/\swp aV p q v1=u1/\swp aV p q u2=v2/\swp aV p q v2=u2:=by
  unfold swp aV;rcases hb with ⟨e1,e2,e3,e4,_⟩|⟨e1,e2,e3,e4,_⟩<;>subst wz FZ e1 e2 e3 e4<;>refine ⟨?_,?_,?_,?_⟩<;>(repeat' split)<;>omega
 have so: ∀x,x/4≠c->swp aV p q x=aV x:=fun x hx=>by unfold swp;rw [if_neg (by omega),if_neg (by omega)]
 have J6:=OR.iA (u:=u1) (v:=v1) (by omega) (by omega) (by omega) sj.1 sj.2.1;have hS3:=J6.iA (u:=u2) (v:=v2) (by omega) (by omega) (by omega) sj.2.2.1 sj.2.2.2;have f1: ∀x,x<4*n->x≠u1->x≠v1->iA (aZ m) u1 v1 x=vR (aZ m) u1 v1 (aZ m x):=fun x hx h1 h2=>R1 ha (by omega) (by omega) (by omega) hx h1 h2
 have Gg: ∀x,x<4*n->x/4≠c->((iA (iA (aZ m) u1 v1) u2 v2 x:Nat):Int)=cW m b c 5 (m.getD x 0):=fun x hx tX=>by
  have bZ:=ha.lt x hx;rw [←h.cast hx,KW h hc 5 _ bZ];congr 1;rw [R1 J6.ki (by omega) (by omega) (by omega) hx (by omega) (by omega)];rw [f1 x hx (by omega) (by omega)]
  have key:=follow (u1:=u1) (v1:=v1) (u2:=u2) (v2:=v2) (h:=x) (al:=aZ m) (T:=vA m b c) (O:=fun _=>True)
   (fun y hy=>⟨ha.inv y (by omega),ha.ne y (by omega)⟩) (by omega) (by omega)
   (by
    unfold vA;rw [if_pos (by omega)];congr 1;rcases hb with ⟨e1,_,_,_,rfl⟩|⟨e1,_,_,_,rfl⟩
    ·rw [wz,(za c).1,e1]
    ·rw [wz,(zb c).1,e1])
   (by
    unfold vA;rw [if_pos (by omega)];congr 1;rcases hb with ⟨e1,_,_,_,rfl⟩|⟨e1,_,_,_,rfl⟩
    ·rw [e1,(za c).2.2.2,wz]
    ·rw [e1,(zb c).2.1,wz])
   (by
    unfold vA;rw [if_pos (by omega)];congr 1;rcases hb with ⟨_,e2,_,_,rfl⟩|⟨_,e2,_,_,rfl⟩
    ·rw [FZ,(za c).2.2.1,e2]
    ·rw [FZ,(zb c).2.2.1,e2])
   (by
    unfold vA;rw [if_pos (by omega)];congr 1;rcases hb with ⟨_,e2,_,_,rfl⟩|⟨_,e2,_,_,rfl⟩
    ·rw [e2,(za c).2.1,FZ]
    ·rw [e2,(zb c).2.2.2,FZ])
   (fun y h1 h2 h3 h4=>by unfold vA;rw [if_neg (by omega)])
  show (if vR (aZ m) u1 v1 (aZ m x)=u2 then iA (aZ m) u1 v1 v2 else if vR (aZ m) u1 v1 (aZ m x)=v2 then iA (aZ m) u1 v1 u2 else vR (aZ m) u1 v1 (aZ m x))=_;rw [f1 v2 (by omega) (by omega) (by omega),f1 u2 (by omega) (by omega) (by omega)];exact key
 obtain ⟨wl,wg⟩:=ll (E:=eJ m b c (4*n)) (c:=c) n;rw [if_pos hc] at wl wg;obtain ⟨io,sA⟩: ∃io:Nat->Nat,∀x,io x=if x/4<c then x else x+4:=⟨_,fun _=>rfl⟩;have Ns: ∀x,x<4*(n-1)->io x<4*n/\io x/4≠c:=fun x hx=>by rw [sA];split<;>omega
 have hget: ∀x,x<4*(n-1)-> ∃y:Nat,y<4*n/\y/4≠c/\iA (iA (aZ m) u1 v1) u2 v2 (io x)=y/\(cv (eJ m b c (4*n)) c n).getD x 0=((if c<y/4 then y-4 else y:Nat):Int):=fun x hx=>by
  have hi:=Ns x hx;have e1:=Gg (io x) hi.1 hi.2;have lO:=Dj (b:=b) h.dB hc hi.1 hi.2;have BU:=LR (b:=b) h.dB hc 5 (m.getD (io x) 0) (by have:=h.dB.ok.2 (io x) hi.1;unfold aA;omega);unfold aA at BU;refine ⟨iA (iA (aZ m) u1 v1) u2 v2 (io x),by omega,by omega,rfl,?_⟩;rw [wg x hx,←sA x];have e2:(eJ m b c (4*n)).getD (io x) 0=cW m b c 5 (m.getD (io x) 0):=by
   have: ∀k,k<=m.length->io x<k->(eJ m b c k).getD (io x) 0=cW m b c 5 (m.getD (io x) 0):=fun k=>by
    induction k with
    |zero=>intro _ h;omega
    |succ k ih=>
     intro hk ay;have hl:=Lo (m:=m) (b:=b) (c:=c) k;simp only [eJ];by_cases nG:k/4=c
     ·rw [if_pos nG]
      have:io x≠k:=fun e=>hi.2 (by rw [e];exact nG)
      exact ih (by omega) (by omega)
     ·rw [if_neg nG];by_cases e:k=io x
      ·rw [←e,nr (by omega)]
      ·rw [ns e];exact ih (by omega) (by omega)
   exact this (4*n) (by omega) hi.1
  unfold c6;rw [e2,←e1];generalize iA (iA (aZ m) u1 v1) u2 v2 (io x)=y at*;by_cases hy:c<y/4
  ·rw [if_pos hy,if_pos (by omega)];omega
  ·rw [if_neg hy,if_neg (by omega)]
 have uZ: ∀x,x<4*(n-1)->aZ (cv (eJ m b c (4*n)) c n) x<4*(n-1)/\io (aZ (cv (eJ m b c (4*n)) c n) x)=iA (iA (aZ m) u1 v1) u2 v2 (io x)/\((aZ (cv (eJ m b c (4*n)) c n) x:Nat):Int)=(cv (eJ m b c (4*n)) c n).getD x 0:=fun x hx=>by
  obtain ⟨y,y1,y2,y3,y4⟩:=hget x hx;have e:aZ (cv (eJ m b c (4*n)) c n) x=if c<y/4 then y-4 else y:=by unfold aZ;rw [y4,Int.toNat_natCast]
  rw [e,y3];refine ⟨by split<;>omega,?_,y4.symm⟩;rw [sA];by_cases hy:c<y/4
  ·rw [if_pos hy,if_neg (by omega)];omega
  ·rw [if_neg hy,if_pos (by omega)]
 have OQ:eY (4*(n-1)) aV (aZ (cv (eJ m b c (4*n)) c n)):=by
  refine hS3.um (io:=io) (fun x hx=>(Ns x hx).1) (fun x y hx hy e=>?_) (fun x hx=>(bM (n-1)).lt x hx) (fun x hx=>(uZ x hx).1) (fun x hx=>?_) (fun x hx=>(uZ x hx).2.1)
  ·rw [sA,sA] at e;by_cases h1:x/4<c<;>by_cases h2:y/4<c
   ·rw [if_pos h1,if_pos h2] at e;exact e
   ·rw [if_pos h1,if_neg h2] at e;omega
   ·rw [if_neg h1,if_pos h2] at e;omega
   ·rw [if_neg h1,if_neg h2] at e;omega
  ·rw [so _ (Ns x hx).2,sA,sA,jS];by_cases h1:x/4<c
   ·rw [if_pos h1,if_pos h1]
   ·rw [if_neg h1,if_neg h1];unfold aV;omega
 have hD:oX (cv (eJ m b c (4*n)) c n) (n-1):=by
  refine ⟨⟨⟨wl,fun i hi=>?_⟩,fun x hx=>?_⟩,fun x hx e=>?_⟩
  ·have:=uZ i hi;omega
  ·have h1:=uZ x hx;have h2:=OQ.ki.inv x hx;have h3:=uZ _ h1.1;rw [h2] at h3;rw [←h1.2.2,Int.toNat_natCast,←h3.2.2]
  ·have h1:=uZ x hx;exact OQ.ki.ne x hx (by omega)
 exact ⟨hD,hD.vB.2 OQ⟩
end
end Sp
end Go.Proofs.YtjpbeacamoijhaaGreatDoor
