/- Maps on the sphere; a smoothed diagram stays on it. -/
import Derived.Test.YtbblgobamoabkaaGreatDoorPl
set_option linter.unusedSimpArgs false
set_option linter.unusedVariables false
namespace Go.Proofs.YtbblgobamoabkaaGreatDoor
namespace Sp
def itn (f:Nat->Nat):Nat->Nat->Nat
 |0,x=>x
 |k+1,x=>f (itn f k x)
theorem ydu (f:Nat->Nat) (i:Nat): ∀j x,itn f (i+j) x=itn f i (itn f j x):=by
 induction i with
 |zero=>intro j x;simp [itn]
 |succ i ih=>intro j x;rw [Nat.succ_add];simp only [itn];rw [ih]
theorem yd7 (f:Nat->Nat) (k x:Nat):itn f k (f x)=f (itn f k x):=by
 have h:=ydu f k 1 x
 rw [Nat.add_comm k 1,ydu f 1 k x] at h
 exact h.symm
structure yax (N:Nat) (f:Nat->Nat):Prop where
 lt: ∀x,x<N->f x<N
 inj: ∀x y,x<N->y<N->f x=f y->x=y
section
variable {N:Nat} {f:Nat->Nat}
theorem yax.itn_lt (h:yax N f) {x:Nat} (hx:x<N): ∀k,itn f k x<N
 |0=>hx
 |k+1=>h.lt _ (h.itn_lt hx k)
theorem yax.itn_inj (h:yax N f) {x y:Nat} (hx:x<N) (hy:y<N): ∀k,itn f k x=itn f k y->x=y
 |0,e=>e
 |k+1,e=>h.itn_inj hx hy k (h.inj _ _ (h.itn_lt hx k) (h.itn_lt hy k) e)
theorem yw9 {l:List Nat} (hn:l.Nodup) (hl: ∀x∈l,x<N):l.length<=N:=by
 have: ∀(N:Nat) (l:List Nat),l.Nodup->(∀x∈l,x<N)->l.length<=N:=by
  intro N
  induction N with
  |zero=>intro l _ h;cases l with
   |nil=>simp
   |cons a l=>exact absurd (h a (by simp)) (by omega)
  |succ N ih=>
   intro l hn h
   have h1:=ih (l.erase N) (hn.erase N) (fun x hx=>by
    have h2:=h x (List.mem_of_mem_erase hx)
    have h3:x≠N:=fun e=>by subst e;exact (List.Nodup.not_mem_erase hn) hx
    omega)
   have h4:=List.length_erase_le (a:=N) (l:=l)
   by_cases hm:N∈l
   ·have:=List.length_erase_of_mem hm;omega
   ·rw [List.erase_of_not_mem hm] at h1;omega
 exact this N l hn hl
theorem yax.back (h:yax N f) {x:Nat} (hx:x<N): ∃k,0<k/\itn f k x=x:=by
 apply Classical.byContradiction
 intro hno
 have hne: ∀i j,i<j->itn f i x≠itn f j x:=fun i j hij e=>by
  refine hno ⟨j-i,by omega,?_⟩
  have e2:itn f i (itn f (j-i) x)=itn f i x:=by rw [←ydu,show i+(j-i)=j by omega];exact e.symm
  exact h.itn_inj (h.itn_lt hx _) hx i e2
 have hnd:((List.range (N+1)).map fun i=>itn f i x).Nodup:=by
  rw [List.Nodup,List.pairwise_map]
  refine List.Pairwise.imp_of_mem ?_ (List.pairwise_lt_range)
  intro i j _ _ hij
  exact hne i j hij
 have:=yw9 (N:=N) hnd (fun y hy=>by
  obtain ⟨i,_,rfl⟩:=List.mem_map.1 hy
  exact h.itn_lt hx i)
 simp at this
 omega
def SC (f:Nat->Nat) (x y:Nat):Prop:= ∃k,itn f k x=y
theorem SC.refl (f:Nat->Nat) (x:Nat):SC f x x:=⟨0,rfl⟩
theorem SC.step (f:Nat->Nat) (x:Nat):SC f x (f x):=⟨1,rfl⟩
theorem SC.trans {x y z:Nat} (h:SC f x y) (k:SC f y z):SC f x z:=by
 obtain ⟨i,rfl⟩:=h;obtain ⟨j,rfl⟩:=k;exact ⟨j+i,ydu f j i x⟩
theorem SC.symm (hp:yax N f) {x y:Nat} (hx:x<N) (h:SC f x y):SC f y x:=by
 obtain ⟨i,rfl⟩:=h
 obtain ⟨p,hp0,hpx⟩:=hp.back hx
 have hmul: ∀n,itn f (n*p) x=x:=fun n=>by
  induction n with
  |zero=>simp [itn]
  |succ n ih=>rw [Nat.succ_mul,ydu,hpx];exact ih
 refine ⟨(i+1)*p-i,?_⟩
 rw [←ydu]
 have:i<=(i+1)*p:=by
  have:=Nat.mul_le_mul_left (i+1) hp0;omega
 rw [show (i+1)*p-i+i=(i+1)*p by omega]
 exact hmul _
structure EqvN (N:Nat) (E:Nat->Nat->Prop):Prop where
 rfl': ∀x,x<N->E x x
 symm: ∀x y,x<N->y<N->E x y->E y x
 trans: ∀x y z,x<N->y<N->z<N->E x y->E y z->E x z
theorem SC.eqv (hp:yax N f):EqvN N (SC f):=⟨fun x _=> .refl f x,fun _ _ hx _ h=>h.symm hp hx,fun _ _ _ _ _ _ h k=>h.trans k⟩
def Join (E:Nat->Nat->Prop) (a b x y:Nat):Prop:=E x y\/(E x a/\E b y)\/(E x b/\E a y)
theorem Join.eqv {E:Nat->Nat->Prop} (h:EqvN N E) {a b:Nat} (ha:a<N) (hb:b<N):EqvN N (Join E a b):=by
 refine ⟨fun x hx=> .inl (h.rfl' x hx),fun x y hx hy e=>?_,fun x y z hx hy hz e e'=>?_⟩
 ·rcases e with e|⟨e1,e2⟩|⟨e1,e2⟩
  ·exact .inl (h.symm _ _ hx hy e)
  ·exact .inr (.inr ⟨h.symm _ _ hb hy e2,h.symm _ _ hx ha e1⟩)
  ·exact .inr (.inl ⟨h.symm _ _ ha hy e2,h.symm _ _ hx hb e1⟩)
 ·rcases e with e|⟨e1,e2⟩|⟨e1,e2⟩<;>rcases e' with e'|⟨e3,e4⟩|⟨e3,e4⟩
  ·exact .inl (h.trans _ _ _ hx hy hz e e')
  ·exact .inr (.inl ⟨h.trans _ _ _ hx hy ha e e3,e4⟩)
  ·exact .inr (.inr ⟨h.trans _ _ _ hx hy hb e e3,e4⟩)
  ·exact .inr (.inl ⟨e1,h.trans _ _ _ hb hy hz e2 e'⟩)
  ·exact .inr (.inl ⟨e1,e4⟩)
  ·exact .inl (h.trans _ _ _ hx ha hz e1 e4)
  ·exact .inr (.inr ⟨e1,h.trans _ _ _ ha hy hz e2 e'⟩)
  ·exact .inl (h.trans _ _ _ hx hb hz e1 e4)
  ·exact .inr (.inr ⟨e1,e4⟩)
def swp (f:Nat->Nat) (a b x:Nat):Nat:=if x=a then f b else if x=b then f a else f x
theorem yf7 (f:Nat->Nat) (a b:Nat):swp (swp f a b) a b=f:=by
 funext x
 unfold swp
 by_cases h1:x=a
 ·subst h1
  rw [if_pos rfl]
  by_cases h2:b=x
  ·subst h2;simp
  ·rw [if_neg h2,if_pos rfl]
 ·rw [if_neg h1]
  by_cases h2:x=b
  ·subst h2;rw [if_pos rfl,if_pos rfl]
  ·rw [if_neg h2,if_neg h1,if_neg h2]
theorem ydn (hp:yax N f) {a b:Nat} (ha:a<N) (hb:b<N):yax N (swp f a b):=by
 refine ⟨fun x hx=>?_,fun x y hx hy e=>?_⟩
 ·unfold swp;split
  ·exact hp.lt _ hb
  ·split
   ·exact hp.lt _ ha
   ·exact hp.lt _ hx
 ·unfold swp at e
  split at e<;>split at e<;>(try split at e)<;>(try split at e)<;>(have:=hp.inj _ _ (by assumption) (by assumption) e;omega)
theorem yjg {a b x:Nat} (n:Nat) (h: ∀j,j<n->itn f j x≠a/\itn f j x≠b): ∀j,j<=n->itn (swp f a b) j x=itn f j x
 |0,_=>rfl
 |j+1,hj=>by
  simp only [itn]
  rw [yjg n h j (by omega)]
  have:=h j (by omega)
  unfold swp
  rw [if_neg this.1,if_neg this.2]
theorem yxa {x y:Nat} (h:SC f x y): ∃k,itn f k x=y/\ ∀j,j<k->itn f j x≠y:=by
 obtain ⟨k,hk⟩:=h
 induction k using Nat.strongRecOn with
 |ind k ih=>
  by_cases hj: ∃j,j<k/\itn f j x=y
  ·obtain ⟨j,h1,h2⟩:=hj;exact ih j h1 h2
  ·exact ⟨k,hk,fun j h1 h2=>hj ⟨j,h1,h2⟩⟩
theorem yut (hp:yax N f) {x:Nat} (hx:x<N): ∃k,0<k/\itn f k x=x/\ ∀j,0<j->j<k->itn f j x≠x:=by
 obtain ⟨k,h0,hk⟩:=hp.back hx
 induction k using Nat.strongRecOn with
 |ind k ih=>
  by_cases hj: ∃j,0<j/\j<k/\itn f j x=x
  ·obtain ⟨j,h1,h2,h3⟩:=hj;exact ih j h2 h1 h3
  ·exact ⟨k,h0,hk,fun j h1 h2 h3=>hj ⟨j,h1,h2,h3⟩⟩
theorem yxb (hp:yax N f) {a b:Nat} (hb:b<N) (hno: ¬SC f a b):SC (swp f a b) a b:=by
 obtain ⟨k,h0,hk,hf⟩:=yut hp hb
 obtain ⟨n,rfl⟩: ∃n,k=n+1:=⟨k-1,by omega⟩
 have hs: ∀j,j<n->itn f j (f b)≠a/\itn f j (f b)≠b:=fun j hj=>by
  rw [yd7]
  refine ⟨fun e=>hno ?_,hf (j+1) (by omega) (by omega)⟩
  exact (show SC f b a from ⟨j+1,e⟩).symm hp hb
 have h1:=yjg (f:=f) (a:=a) (b:=b) n hs n (Nat.le_refl _)
 refine ⟨n+1,?_⟩
 have e:itn (swp f a b) (n+1) a=itn (swp f a b) n (swp f a b a):=by simp only [itn];rw [yd7]
 rw [e,show swp f a b a=f b by unfold swp;rw [if_pos rfl],h1,yd7]
 exact hk
theorem yc3 (hp:yax N f) {a b:Nat} (ha:a<N) (hb:b<N) (hno: ¬SC f a b): ∀x y,x<N->y<N->(SC (swp f a b) x y↔Join (SC f) a b x y):=by
 have hp':=ydn hp ha hb
 have hab:=yxb hp hb hno
 have hba:SC (swp f a b) b a:=hab.symm hp' ha
 have hE:=SC.eqv hp
 have hJ:=Join.eqv hE ha hb
 have hstep: ∀x,SC (swp f a b) x (f x):=fun x=>by
  by_cases h1:x=a
  ·subst h1
   refine hab.trans ⟨1,?_⟩
   show swp f x b b=f x
   unfold swp
   by_cases h2:b=x
   ·rw [if_pos h2,h2]
   ·rw [if_neg h2,if_pos rfl]
  ·by_cases h2:x=b
   ·subst h2
    refine hba.trans ⟨1,?_⟩
    show swp f a x a=f x
    unfold swp;rw [if_pos rfl]
   ·refine ⟨1,?_⟩
    show swp f a b x=f x
    unfold swp;rw [if_neg h1,if_neg h2]
 have hway1: ∀k x,SC (swp f a b) x (itn f k x):=fun k x=>by
  induction k with
  |zero=>exact .refl _ _
  |succ k ih=>exact ih.trans (hstep _)
 have hway: ∀x y,SC f x y->SC (swp f a b) x y:=fun x y ⟨k,hk⟩=>hk▸hway1 k x
 intro x y hx hy
 constructor
 ·rintro ⟨k,rfl⟩
  clear hy
  induction k with
  |zero=>exact .inl (.refl _ _)
  |succ k ih=>
   have hlt:=hp'.itn_lt hx k
   refine hJ.trans _ _ _ hx hlt (hp'.lt _ hlt) ih ?_
   simp only [itn]
   generalize itn (swp f a b) k x=z
   unfold swp
   split
   ·subst z;exact .inr (.inl ⟨.refl _ _, .step _ _⟩)
   ·split
    ·subst z;exact .inr (.inr ⟨.refl _ _, .step _ _⟩)
    ·exact .inl (.step _ _)
 ·rintro (h|⟨h1,h2⟩|⟨h1,h2⟩)
  ·exact hway _ _ h
  ·exact (hway _ _ h1).trans (hab.trans (hway _ _ h2))
  ·exact (hway _ _ h1).trans (hba.trans (hway _ _ h2))
theorem ygs (hp:yax N f) {a b:Nat} (ha:a<N) (hab:a≠b) (hs:SC f a b): ¬SC (swp f a b) a b:=by
 obtain ⟨k,hk,hf⟩:=yxa (hs.symm hp ha)
 have hk0:0<k:=by
  rcases Nat.eq_zero_or_pos k with h|h
  ·subst h;exact absurd hk.symm hab
  ·exact h
 have hnb: ∀j,0<j->j<=k->itn f j b≠b:=fun j h1 h2 e=>by
  have e2:itn f (k-j) b=a:=by
   have:itn f (k-j) (itn f j b)=a:=by rw [←ydu,show k-j+j=k by omega];exact hk
   rwa [e] at this
  exact hf (k-j) (by omega) e2
 obtain ⟨n,rfl⟩: ∃n,k=n+1:=⟨k-1,by omega⟩
 have hs1: ∀j,j<n->itn f j (f b)≠a/\itn f j (f b)≠b:=fun j hj=>by
  rw [yd7];exact ⟨hf (j+1) (by omega),hnb (j+1) (by omega) (by omega)⟩
 have h1:=yjg (f:=f) (a:=a) (b:=b) n hs1
 have hsa:swp f a b a=f b:=by unfold swp;rw [if_pos rfl]
 have hcyc: ∀j,j<=n->itn (swp f a b) (j+1) a=itn f (j+1) b:=fun j hj=>by
  have e:itn (swp f a b) (j+1) a=itn (swp f a b) j (swp f a b a):=by simp only [itn];rw [yd7]
  rw [e,hsa,h1 j hj,yd7];rfl
 have hback:itn (swp f a b) (n+1) a=a:=by rw [hcyc n (Nat.le_refl _)];exact hk
 have hmul: ∀q,itn (swp f a b) (q*(n+1)) a=a:=fun q=>by
  induction q with
  |zero=>simp [itn]
  |succ q ih=>rw [Nat.succ_mul,ydu,hback];exact ih
 rintro ⟨i,hi⟩
 have e:itn (swp f a b) (i %(n+1)) a=b:=by
  have:itn (swp f a b) (i %(n+1)+(i/(n+1))*(n+1)) a=b:=by
   rw [show i %(n+1)+i/(n+1)*(n+1)=i by rw [Nat.mul_comm];exact Nat.mod_add_div i (n+1)];exact hi
  rwa [ydu,hmul] at this
 have hlt:=Nat.mod_lt i (show n+1>0 by omega)
 rcases Nat.eq_zero_or_pos (i %(n+1)) with h|h
 ·rw [h] at e;exact hab e
 ·obtain ⟨j,hj⟩: ∃j,i %(n+1)=j+1:=⟨i %(n+1)-1,by omega⟩
  rw [hj,hcyc j (by omega)] at e
  exact hnb (j+1) (by omega) (by omega) e
structure Tr (N:Nat) (U:Nat->Prop) (E:Nat->Nat->Prop) (l:List Nat):Prop where
 mem: ∀x∈l,x<N/\U x
 nodup:l.Nodup
 apart: ∀x∈l,∀y∈l,E x y->x=y
 all: ∀x,x<N->U x-> ∃y∈l,E x y
variable {U:Nat->Prop} {E E':Nat->Nat->Prop} {l l':List Nat}
theorem yf8 {α β:Type} [DecidableEq β]: ∀(l:List α) (k:List β) (g:α->β),l.Nodup->(∀x∈l,g x∈k)->(∀x∈l,∀y∈l,g x=g y->x=y)->l.length<=k.length
 |[],k,g,_,_,_=>by simp
 |a::l,k,g,hn,hm,hi=>by
  have h1:=yf8 l (k.erase (g a)) g (List.nodup_cons.1 hn).2 (fun x hx=>by
   have hne:g x≠g a:=fun e=>by
    have:=hi x (by simp [hx]) a (by simp) e
    subst this;exact (List.nodup_cons.1 hn).1 hx
   exact (List.mem_erase_of_ne hne).2 (hm x (by simp [hx]))) (fun x hx y hy=>hi x (by simp [hx]) y (by simp [hy]))
  have h2:=List.length_erase_of_mem (hm a (by simp))
  have h3:0<k.length:=List.length_pos_of_mem (hm a (by simp))
  simp only [List.length_cons]
  omega
theorem Tr.le (hE:EqvN N E) (h:Tr N U E l) (h':Tr N U E l'):l.length<=l'.length:=by
 have hc: ∀x,∃y,x∈l->(y∈l'/\E x y):=fun x=>by
  by_cases hx:x∈l
  ·obtain ⟨y,h1,h2⟩:=h'.all x (h.mem x hx).1 (h.mem x hx).2
   exact ⟨y,fun _=>⟨h1,h2⟩⟩
  ·exact ⟨0,fun h=>absurd h hx⟩
 obtain ⟨g,hg⟩:=Classical.axiomOfChoice hc
 refine yf8 l l' g h.nodup (fun x hx=>(hg x hx).1) fun x hx y hy e=>?_
 have h1:=hg x hx
 have h2:=hg y hy
 rw [e] at h1
 exact h.apart x hx y hy (hE.trans _ _ _ (h.mem x hx).1 (h'.mem _ h2.1).1 (h.mem y hy).1 h1.2 (hE.symm _ _ (h.mem y hy).1 (h'.mem _ h2.1).1 h2.2))
theorem Tr.len_eq (hE:EqvN N E) (h:Tr N U E l) (h':Tr N U E l'):l.length=l'.length:=Nat.le_antisymm (h.le hE h') (h'.le hE h)
theorem Tr.congr (h:Tr N U E l) (he: ∀x y,x<N->y<N->(E x y↔E' x y)):Tr N U E' l:=
 ⟨h.mem,h.nodup,fun x hx y hy e=>h.apart x hx y hy ((he x y (h.mem x hx).1 (h.mem y hy).1).2 e),fun x hx hU=>let ⟨y,h1,h2⟩:=h.all x hx hU;⟨y,h1,(he x y hx (h.mem y h1).1).1 h2⟩⟩
theorem Tr.exists (hE:EqvN N E) (U:Nat->Prop): ∃l,Tr N U E l:=by
 classical
 refine ⟨(List.range N).filter fun x=>decide (U x/\ ∀y,y<x->U y-> ¬E x y),?_,?_,?_,?_⟩
 ·intro x hx
  have h:=List.mem_filter.1 hx
  exact ⟨List.mem_range.1 h.1,(of_decide_eq_true h.2).1⟩
 ·exact List.nodup_range.filter _
 ·intro x hx y hy e
  have h1:=List.mem_filter.1 hx
  have h2:=List.mem_filter.1 hy
  have k1:=of_decide_eq_true h1.2
  have k2:=of_decide_eq_true h2.2
  have l1:=List.mem_range.1 h1.1
  have l2:=List.mem_range.1 h2.1
  rcases Nat.lt_trichotomy x y with g|g|g
  ·exact absurd (hE.symm _ _ l1 l2 e) (k2.2 x g k1.1)
  ·exact g
  ·exact absurd e (k1.2 y g k2.1)
 ·intro x hx hU
  have: ∀n x,x<n->x<N->U x-> ∃y,y∈((List.range N).filter fun x=>decide (U x/\ ∀y,y<x->U y-> ¬E x y))/\E x y:=by
   intro n
   induction n with
   |zero=>intro x h;omega
   |succ n ih=>
    intro x hn hx hU
    by_cases hl: ∃y,y<x/\U y/\E x y
    ·obtain ⟨y,h1,h2,h3⟩:=hl
     obtain ⟨z,h4,h5⟩:=ih y (by omega) (by omega) h2
     have hz:=List.mem_range.1 (List.mem_filter.1 h4).1
     exact ⟨z,h4,hE.trans _ _ _ hx (by omega) hz h3 h5⟩
    ·exact ⟨x,List.mem_filter.2 ⟨List.mem_range.2 hx,decide_eq_true ⟨hU,fun y h1 h2 h3=>hl ⟨y,h1,h2,h3⟩⟩⟩,hE.rfl' x hx⟩
  exact this (x+1) x (by omega) hx hU
theorem Tr.join (hE:EqvN N E) (h:Tr N U E l) {a b:Nat} (ha:a<N) (hb:b<N) (hUa:U a) (hUb:U b) (hno: ¬E a b) (h':Tr N U (Join E a b) l'):l.length=l'.length+1:=by
 obtain ⟨x,hx,hax⟩:=h.all a ha hUa
 obtain ⟨y,hy,hby⟩:=h.all b hb hUb
 have lx:=(h.mem x hx).1
 have ly:=(h.mem y hy).1
 have hxy:x≠y:=fun e=>by subst e;exact hno (hE.trans _ _ _ ha lx hb hax (hE.symm _ _ hb lx hby))
 have key:Tr N U (Join E a b) (l.erase y):=by
  refine ⟨fun z hz=>h.mem z (List.mem_of_mem_erase hz),h.nodup.erase y,fun z hz w hw e=>?_,fun z hz hU=>?_⟩
  ·have mz:=List.mem_of_mem_erase hz
   have mw:=List.mem_of_mem_erase hw
   have lz:=(h.mem z mz).1
   have lw:=(h.mem w mw).1
   have nz:z≠y:=fun e=>by subst e;exact List.Nodup.not_mem_erase h.nodup hz
   have nw:w≠y:=fun e=>by subst e;exact List.Nodup.not_mem_erase h.nodup hw
   rcases e with e|⟨e1,e2⟩|⟨e1,e2⟩
   ·exact h.apart z mz w mw e
   ·exact absurd (h.apart w mw y hy (hE.trans _ _ _ lw hb ly (hE.symm _ _ hb lw e2) hby)) nw
   ·exact absurd (h.apart z mz y hy (hE.trans _ _ _ lz hb ly e1 hby)) nz
  ·obtain ⟨w,hw,e⟩:=h.all z hz hU
   by_cases hwy:w=y
   ·subst hwy
    refine ⟨x,(List.mem_erase_of_ne hxy).2 hx, .inr (.inr ⟨hE.trans _ _ _ hz ly hb e (hE.symm _ _ hb ly hby),hax⟩)⟩
   ·exact ⟨w,(List.mem_erase_of_ne hwy).2 hw, .inl e⟩
 have e1:=key.len_eq (Join.eqv hE ha hb) h'
 have e2:=List.length_erase_of_mem hy
 have e3:0<l.length:=List.length_pos_of_mem hy
 omega
theorem Tr.join_out (hE:EqvN N E) (h:Tr N U E l) {a b:Nat} (hc: ∀x y,x<N->y<N->E x y->(U x↔U y)) (ha:a<N) (hb:b<N) (hUa: ¬U a) (hUb: ¬U b) (h':Tr N U (Join E a b) l'):l.length=l'.length:=by
 have key:Tr N U (Join E a b) l:=by
  refine ⟨h.mem,h.nodup,fun z hz w hw e=>?_,fun z hz hU=>?_⟩
  ·rcases e with e|⟨e1,e2⟩|⟨e1,e2⟩
   ·exact h.apart z hz w hw e
   ·exact absurd ((hc _ _ (h.mem z hz).1 ha e1).1 (h.mem z hz).2) hUa
   ·exact absurd ((hc _ _ (h.mem z hz).1 hb e1).1 (h.mem z hz).2) hUb
  ·obtain ⟨w,hw,e⟩:=h.all z hz hU;exact ⟨w,hw, .inl e⟩
 exact key.len_eq (Join.eqv hE ha hb) h'
theorem yn8 (hE:EqvN N E) {a b:Nat} (ha:a<N) (hb:b<N) (hab:E a b): ∀x y,x<N->y<N->(Join E a b x y↔E x y):=fun x y hx hy=>by
 constructor
 ·rintro (e|⟨e1,e2⟩|⟨e1,e2⟩)
  ·exact e
  ·exact hE.trans _ _ _ hx ha hy e1 (hE.trans _ _ _ ha hb hy hab e2)
  ·exact hE.trans _ _ _ hx hb hy e1 (hE.trans _ _ _ hb ha hy (hE.symm _ _ ha hb hab) e2)
 ·exact .inl
end
end Sp
end Go.Proofs.YtbblgobamoabkaaGreatDoor
namespace Go.Proofs.YtbblgobamoabkaaGreatDoor
namespace Sp
open Classical
theorem yd8 {N:Nat} {f g:Nat->Nat} (hf:yax N f) (h: ∀x,x<N->f x=g x) {x y:Nat} (hx:x<N):SC f x y↔SC g x y:=by
 have: ∀k,itn f k x=itn g k x:=fun k=>by
  induction k with
  |zero=>rfl
  |succ k ih=>simp only [itn];rw [←ih];exact h _ (hf.itn_lt hx k)
 constructor
 ·rintro ⟨k,rfl⟩;exact ⟨k,(this k).symm⟩
 ·rintro ⟨k,rfl⟩;exact ⟨k,this k⟩
theorem yax.congr {N:Nat} {f g:Nat->Nat} (hf:yax N f) (h: ∀x,x<N->f x=g x):yax N g:=
 ⟨fun x hx=>by rw [←h x hx];exact hf.lt x hx,fun x y hx hy e=>hf.inj x y hx hy (by rw [h x hx,h y hy];exact e)⟩
structure Mat (N:Nat) (al:Nat->Nat):Prop where
 lt: ∀x,x<N->al x<N
 inv: ∀x,x<N->al (al x)=x
 ne: ∀x,x<N->al x≠x
def alK (al:Nat->Nat) (k x:Nat):Nat:=if min x (al x)<k then al x else x
def phK (si al:Nat->Nat) (k x:Nat):Nat:=si (alK al k x)
def KK (si al:Nat->Nat):Nat->Nat->Nat->Prop
 |0=>SC si
 |k+1=>if k<al k then Join (KK si al k) k (al k) else KK si al k
section
variable {N:Nat} {si al:Nat->Nat} {U:Nat->Prop}
theorem ypy (ha:Mat N al) {k:Nat} (hk:k<N) (h:k<al k): ∀x,x<N->swp (phK si al k) k (al k) x=phK si al (k+1) x:=fun x hx=>by
 have hi:=ha.inv k hk
 unfold swp phK alK
 by_cases h1:x=k
 ·subst h1
  rw [if_pos rfl,hi]
  rw [if_neg (by omega),if_pos (by omega)]
 ·rw [if_neg h1]
  by_cases h2:x=al k
  ·subst h2
   rw [if_pos rfl,hi,if_neg (by omega),if_pos (by omega)]
  ·rw [if_neg h2]
   have h3:al x≠k:=fun e=>h2 (by rw [←e];exact (ha.inv x hx).symm)
   by_cases h4:min x (al x)<k
   ·rw [if_pos h4,if_pos (by omega)]
   ·rw [if_neg h4,if_neg (by omega)]
theorem ypz (ha:Mat N al) {k:Nat} (hk:k<N) (h: ¬k<al k): ∀x,x<N->phK si al k x=phK si al (k+1) x:=fun x hx=>by
 unfold phK alK
 have hne:=ha.ne k hk
 by_cases h4:min x (al x)<k
 ·rw [if_pos h4,if_pos (by omega)]
 ·rw [if_neg h4]
  have h5: ¬min x (al x)<k+1:=fun h6=>by
   have h7:min x (al x)=k:=by omega
   by_cases h8:x<=al x
   ·have:x=k:=by omega
    subst this;omega
   ·have h9:al x=k:=by omega
    have:x=al k:=by rw [←h9];exact (ha.inv x hx).symm
    omega
  rw [if_neg h5]
theorem ycf (hs:yax N si) (ha:Mat N al): ∀k,k<=N->yax N (phK si al k)
 |0,_=>hs.congr fun x _=>by unfold phK alK;rw [if_neg (by omega)]
 |k+1,hk=>by
  have ih:=ycf hs ha k (by omega)
  by_cases h:k<al k
  ·exact (ydn ih (show k<N by omega) (ha.lt k (by omega))).congr (ypy ha (by omega) h)
  ·exact ih.congr (ypz ha (by omega) h)
theorem yjh (hs:yax N si) (ha:Mat N al): ∀k,k<=N->EqvN N (KK si al k)
 |0,_=>SC.eqv hs
 |k+1,hk=>by
  have ih:=yjh hs ha k (by omega)
  unfold KK
  split
  ·exact Join.eqv ih (by omega) (ha.lt k (by omega))
  ·exact ih
theorem yp0 {f:Nat->Nat} {E:Nat->Nat->Prop} (hf:yax N f) (hE:EqvN N E) (h: ∀x,x<N->E x (f x)) {x y:Nat} (hx:x<N) (hs:SC f x y):E x y:=by
 obtain ⟨k,rfl⟩:=hs
 induction k with
 |zero=>exact hE.rfl' x hx
 |succ k ih=>exact hE.trans _ _ _ hx (hf.itn_lt hx k) (hf.lt _ (hf.itn_lt hx k)) ih (h _ (hf.itn_lt hx k))
theorem yo0 (hs:yax N si) (ha:Mat N al): ∀k,k<=N-> ∀x,x<N->KK si al k x (si x)
 |0,_,x,_=>SC.step _ _
 |k+1,hk,x,hx=>by
  have ih:=yo0 hs ha k (by omega) x hx
  unfold KK;split
  ·exact .inl ih
  ·exact ih
theorem yuu (hs:yax N si) (ha:Mat N al): ∀k,k<=N-> ∀x,x<N->min x (al x)<k->KK si al k x (al x)
 |0,_,x,_,h=>by omega
 |k+1,hk,x,hx,h=>by
  by_cases h1:min x (al x)<k
  ·have ih:=yuu hs ha k (by omega) x hx h1
   unfold KK;split
   ·exact .inl ih
   ·exact ih
  ·have hE:=yjh hs ha k (by omega)
   have hal:=ha.lt x hx
   have hi:=ha.inv x hx
   have hne:=ha.ne x hx
   have h2:min x (al x)=k:=by omega
   unfold KK
   by_cases h3:x<al x
   ·have:x=k:=by omega
    subst this
    rw [if_pos h3]
    exact .inr (.inl ⟨hE.rfl' _ hx,hE.rfl' _ hal⟩)
   ·have h4:al x=k:=by omega
    have h5:al k=x:=by rw [←h4];exact hi
    rw [if_pos (by omega)]
    refine .inr (.inr ⟨?_,?_⟩)
    ·rw [h5];exact hE.rfl' _ hx
    ·rw [h4];exact hE.rfl' _ (by omega)
theorem yld (hs:yax N si) (ha:Mat N al) {R:Nat->Nat->Prop} (hR:EqvN N R) (h1: ∀x,x<N->R x (si x)) (h2: ∀x,x<N->R x (al x)): ∀k,k<=N-> ∀x y,x<N->y<N->KK si al k x y->R x y
 |0,_,x,y,hx,_,h=>yp0 hs hR h1 hx h
 |k+1,hk,x,y,hx,hy,h=>by
  have ih:=yld hs ha hR h1 h2 k (by omega)
  have hkN:k<N:=by omega
  have hal:=ha.lt k hkN
  unfold KK at h
  split at h
  ·rcases h with h|⟨e1,e2⟩|⟨e1,e2⟩
   ·exact ih x y hx hy h
   ·exact hR.trans _ _ _ hx hkN hy (ih _ _ hx hkN e1) (hR.trans _ _ _ hkN hal hy (h2 k hkN) (ih _ _ hal hy e2))
   ·exact hR.trans _ _ _ hx hal hy (ih _ _ hx hal e1) (hR.trans _ _ _ hal hkN hy (hR.symm _ _ hkN hal (h2 k hkN)) (ih _ _ hkN hy e2))
  ·exact ih x y hx hy h
theorem ymg (hs:yax N si) (ha:Mat N al) {k:Nat} (hk:k<=N) {x y:Nat} (hx:x<N) (h:SC (phK si al k) x y):KK si al k x y:=by
 have hE:=yjh hs ha k hk
 refine yp0 (ycf hs ha k hk) hE (fun x hx=>?_) hx h
 have hal:=ha.lt x hx
 unfold phK alK
 split
 ·exact hE.trans _ _ _ hx hal (hs.lt _ hal) (yuu hs ha k hk x hx (by assumption)) (yo0 hs ha k hk _ hal)
 ·exact yo0 hs ha k hk x hx
noncomputable def eU (al:Nat->Nat) (U:Nat->Prop) (k:Nat):Nat:=(List.range k).countP fun h=>decide (U h/\h<al h)
theorem yj8 (al:Nat->Nat) (U:Nat->Prop) (k:Nat):eU al U (k+1)=eU al U k+if U k/\k<al k then 1 else 0:=by
 unfold eU
 rw [List.range_succ,List.countP_append]
 by_cases h:U k/\k<al k
 ·simp [h]
 ·simp [h]
theorem KK_U (hs:yax N si) (ha:Mat N al) (h1: ∀x,x<N->(U x↔U (si x))) (h2: ∀x,x<N->(U x↔U (al x))) {k:Nat} (hk:k<=N) {x y:Nat} (hx:x<N) (hy:y<N) (h:KK si al k x y):U x↔U y:=
 yld (R:=fun x y=>U x↔U y) hs ha ⟨fun _ _=>Iff.rfl,fun _ _ _ _ h=>h.symm,fun _ _ _ _ _ _ h k=>h.trans k⟩ h1 h2 k hk x y hx hy h
theorem y1u (hs:yax N si) (ha:Mat N al) (h1: ∀x,x<N->(U x↔U (si x))) (h2: ∀x,x<N->(U x↔U (al x))): ∀k,k<=N-> ∀lV lF lK,Tr N U (SC si) lV->Tr N U (SC (phK si al k)) lF->Tr N U (KK si al k) lK->
  lV.length+lF.length<=2*lK.length+eU al U k
 |0,_,lV,lF,lK,hV,hF,hK=>by
  have e1:=hV.len_eq (SC.eqv hs) hK
  have e2:=hV.len_eq (SC.eqv hs) (hF.congr (E':=SC si) (fun x y hx _=>(yd8 hs (g:=phK si al 0) (fun x _=>by unfold phK alK;rw [if_neg (by omega)]) hx).symm))
  omega
 |k+1,hk,lV,lF,lK,hV,hF,hK=>by
  have hkN:k<N:=by omega
  have hal:=ha.lt k hkN
  have hE:=yjh hs ha k (by omega)
  have hP:=ycf hs ha k (by omega)
  have hSE:=SC.eqv hP
  obtain ⟨lF0,hF0⟩:=Tr.exists hSE U
  obtain ⟨lK0,hK0⟩:=Tr.exists hE U
  have ih:=y1u hs ha h1 h2 k (by omega) lV lF0 lK0 hV hF0 hK0
  rw [yj8]
  by_cases hlt:k<al k
  ·have hst:=ypy (si:=si) ha hkN hlt
   have hsw:=ydn hP hkN hal
   have hF1:Tr N U (SC (swp (phK si al k) k (al k))) lF:=hF.congr fun x y hx _=>(yd8 hsw hst hx).symm
   have hK1:Tr N U (Join (KK si al k) k (al k)) lK:=by unfold KK at hK;rw [if_pos hlt] at hK;exact hK
   by_cases hU:U k
   ·have hUa:=(h2 k hkN).1 hU
    rw [if_pos ⟨hU,hlt⟩]
    have hFle:lF.length<=lF0.length+1/\(¬SC (phK si al k) k (al k)->lF0.length=lF.length+1):=by
     by_cases hsc:SC (phK si al k) k (al k)
     ·refine ⟨?_,fun h=>absurd hsc h⟩
      have hno:=ygs hP hkN (by omega) hsc
      have hj:=yc3 hsw hkN hal hno
      rw [yf7] at hj
      have:=hF1.join (SC.eqv hsw) hkN hal hU hUa hno (hF0.congr hj)
      omega
     ·have:=hF0.join hSE hkN hal hU hUa hsc (hF1.congr (yc3 hP hkN hal hsc))
      exact ⟨by omega,fun _=>this⟩
    by_cases hke:KK si al k k (al k)
    ·have:=hK0.len_eq hE (hK1.congr (yn8 hE hkN hal hke))
     omega
    ·have e1:=hK0.join hE hkN hal hU hUa hke hK1
     have e2:=hFle.2 (fun hsc=>hke (ymg hs ha (by omega) hkN hsc))
     omega
   ·have hUa: ¬U (al k):=fun h=>hU ((h2 k hkN).2 h)
    rw [if_neg (fun h=>hU h.1)]
    have hcK: ∀x y,x<N->y<N->KK si al k x y->(U x↔U y):=fun x y hx hy h=>KK_U hs ha h1 h2 (by omega) hx hy h
    have e1:=hK0.join_out hE hcK hkN hal hU hUa hK1
    have e2:lF0.length=lF.length:=by
     by_cases hsc:SC (phK si al k) k (al k)
     ·have hno:=ygs hP hkN (by omega) hsc
      have hj:=yc3 hsw hkN hal hno
      rw [yf7] at hj
      refine (hF1.join_out (SC.eqv hsw) (fun x y hx hy h=>?_) hkN hal hU hUa (hF0.congr hj)).symm
      have h3:SC (phK si al (k+1)) x y:=(yd8 hsw hst hx).1 h
      exact KK_U hs ha h1 h2 hk hx hy (ymg hs ha hk hx h3)
     ·exact hF0.join_out hSE (fun x y hx hy h=>KK_U hs ha h1 h2 (by omega) hx hy (ymg hs ha (by omega) hx h)) hkN hal hU hUa (hF1.congr (yc3 hP hkN hal hsc))
    omega
  ·rw [if_neg (fun h=>hlt h.2)]
   have hK1:Tr N U (KK si al k) lK:=by unfold KK at hK;rw [if_neg hlt] at hK;exact hK
   have e1:=hK0.len_eq hE hK1
   have e2:=hF0.len_eq hSE (hF.congr fun x y hx _=>(yd8 hP (ypz ha hkN hlt) hx).symm)
   omega
end
end Sp
end Go.Proofs.YtbblgobamoabkaaGreatDoor
namespace Go.Proofs.YtbblgobamoabkaaGreatDoor
namespace Sp
open Classical
section
variable {N:Nat} {si al:Nat->Nat} {U W:Nat->Prop} {E E':Nat->Nat->Prop} {l l':List Nat}
theorem Tr.congrU (h:Tr N U E l) (hU: ∀x,x<N->(U x↔W x)) (he: ∀x y,x<N->y<N->U x->U y->(E x y↔E' x y)):Tr N W E' l:=
 ⟨fun x hx=>⟨(h.mem x hx).1,(hU x (h.mem x hx).1).1 (h.mem x hx).2⟩,h.nodup,fun x hx y hy e=>h.apart x hx y hy ((he x y (h.mem x hx).1 (h.mem y hy).1 (h.mem x hx).2 (h.mem y hy).2).2 e),fun x hx hW=>by
  have hUx:=(hU x hx).2 hW
  obtain ⟨y,h1,h2⟩:=h.all x hx hUx
  exact ⟨y,h1,(he x y hx (h.mem y h1).1 hUx (h.mem y h1).2).1 h2⟩⟩
theorem Tr.append (h:Tr N U E l) (h':Tr N W E l') (hno: ∀x y,x<N->y<N->U x->W y-> ¬E x y/\ ¬E y x) (hne: ∀x,x<N->U x-> ¬W x):Tr N (fun x=>U x\/W x) E (l++l'):=by
 refine ⟨fun x hx=>?_,?_,fun x hx y hy e=>?_,fun x hx hU=>?_⟩
 ·rcases List.mem_append.1 hx with g|g
  ·exact ⟨(h.mem x g).1, .inl (h.mem x g).2⟩
  ·exact ⟨(h'.mem x g).1, .inr (h'.mem x g).2⟩
 ·refine List.nodup_append.2 ⟨h.nodup,h'.nodup,fun x hx y hy e=>?_⟩
  subst e
  exact hne x (h.mem x hx).1 (h.mem x hx).2 (h'.mem x hy).2
 ·rcases List.mem_append.1 hx with g|g<;>rcases List.mem_append.1 hy with k|k
  ·exact h.apart x g y k e
  ·exact absurd e (hno x y (h.mem x g).1 (h'.mem y k).1 (h.mem x g).2 (h'.mem y k).2).1
  ·exact absurd e (hno y x (h.mem y k).1 (h'.mem x g).1 (h.mem y k).2 (h'.mem x g).2).2
  ·exact h'.apart x g y k e
 ·rcases hU with g|g
  ·obtain ⟨y,h1,h2⟩:=h.all x hx g;exact ⟨y,List.mem_append_left _ h1,h2⟩
  ·obtain ⟨y,h1,h2⟩:=h'.all x hx g;exact ⟨y,List.mem_append_right _ h1,h2⟩
theorem ye1 {al':Nat->Nat} {k:Nat} (h: ∀x,x<k->((U x/\x<al x)↔(W x/\x<al' x))):eU al U k=eU al' W k:=by
 unfold eU
 refine List.countP_congr fun x hx=>?_
 simp only [decide_eq_true_eq]
 exact h x (List.mem_range.1 hx)
theorem y6d {k:Nat} (h: ∀x,x<k->U x-> ¬W x):eU al (fun x=>U x\/W x) k=eU al U k+eU al W k:=by
 induction k with
 |zero=>simp [eU]
 |succ k ih=>
  rw [yj8,yj8,yj8,ih (fun x hx=>h x (by omega))]
  have:=h k (by omega)
  by_cases h1:U k<;>by_cases h2:W k<;>by_cases h3:k<al k<;>simp [h1,h2,h3]<;>first|omega|exact absurd h2 (this h1)
end
structure Sph (N:Nat) (si al:Nat->Nat):Prop where
 perm:yax N si
 mat:Mat N al
 eq: ∀r,r<N-> ∀lV lF,Tr N (KK si al N r) (SC si) lV->Tr N (KK si al N r) (SC (phK si al N)) lF->lV.length+lF.length=2+eU al (KK si al N r) N
section
variable {N:Nat} {si al:Nat->Nat}
theorem ph_N (ha:Mat N al) {x:Nat} (hx:x<N):phK si al N x=si (al x):=by
 unfold phK alK;rw [if_pos (by omega)]
theorem yeq (hs:yax N si) (ha:Mat N al):EqvN N (KK si al N):=yjh hs ha N (Nat.le_refl _)
theorem K_si (hs:yax N si) (ha:Mat N al) {x:Nat} (hx:x<N):KK si al N x (si x):=yo0 hs ha N (Nat.le_refl _) x hx
theorem K_al (hs:yax N si) (ha:Mat N al) {x:Nat} (hx:x<N):KK si al N x (al x):=yuu hs ha N (Nat.le_refl _) x hx (by omega)
theorem K_sc (hs:yax N si) (ha:Mat N al) {x y:Nat} (hx:x<N) (h:SC si x y):KK si al N x y:=yp0 hs (yeq hs ha) (fun _ hx=>K_si hs ha hx) hx h
theorem K_ph (hs:yax N si) (ha:Mat N al) {x y:Nat} (hx:x<N) (h:SC (phK si al N) x y):KK si al N x y:=ymg hs ha (Nat.le_refl _) hx h
theorem ydv (hs:yax N si) (ha:Mat N al) {R:Nat->Nat->Prop} (hR:EqvN N R) (h1: ∀x,x<N->R x (si x)) (h2: ∀x,x<N->R x (al x)) {x y:Nat} (hx:x<N) (hy:y<N) (h:KK si al N x y):R x y:=yld hs ha hR h1 h2 N (Nat.le_refl _) x y hx hy h
theorem K_cl (hs:yax N si) (ha:Mat N al) {r:Nat} (hr:r<N):(∀x,x<N->(KK si al N r x↔KK si al N r (si x)))/\(∀x,x<N->(KK si al N r x↔KK si al N r (al x))):=by
 have hE:=yeq hs ha
 refine ⟨fun x hx=>?_,fun x hx=>?_⟩
 ·have h1:=K_si hs ha hx
  have h2:=hs.lt x hx
  exact ⟨fun h=>hE.trans _ _ _ hr hx h2 h h1,fun h=>hE.trans _ _ _ hr h2 hx h (hE.symm _ _ hx h2 h1)⟩
 ·have h1:=K_al hs ha hx
  have h2:=ha.lt x hx
  exact ⟨fun h=>hE.trans _ _ _ hr hx h2 h h1,fun h=>hE.trans _ _ _ hr h2 hx h (hE.symm _ _ hx h2 h1)⟩
theorem yp1 (hs:yax N si) (ha:Mat N al) {r:Nat} (hr:r<N) {lV lF:List Nat} (hV:Tr N (KK si al N r) (SC si) lV) (hF:Tr N (KK si al N r) (SC (phK si al N)) lF):lV.length+lF.length<=2+eU al (KK si al N r) N:=by
 have hE:=yeq hs ha
 have hK:Tr N (KK si al N r) (KK si al N) [r]:=by
  refine ⟨fun x hx=>?_,by simp,fun x hx y hy _=>?_,fun x hx h=>⟨r,by simp,hE.symm _ _ hr hx h⟩⟩
  ·simp at hx;subst hx;exact ⟨hr,hE.rfl' _ hr⟩
  ·simp at hx hy;rw [hx,hy]
 have:=y1u hs ha (K_cl hs ha hr).1 (K_cl hs ha hr).2 N (Nat.le_refl _) lV lF [r] hV hF hK
 simpa using this
theorem Sph.split (h:Sph N si al) {p q:Nat} (hp:p<N) (hq:q<N) (hpq:p≠q) (hsc:SC si p q):Sph N (swp si p q) al:=by
 have hs:=h.perm
 have ha:=h.mat
 have hs':=ydn hs hp hq
 have hE:=yeq hs ha
 have hE':=yeq hs' ha
 have hvn:=ygs hs hp hpq hsc
 have hvj:=yc3 hs' hp hq hvn
 rw [yf7] at hvj
 have hap:=ha.lt p hp
 have haq:=ha.lt q hq
 have hpm:=ycf hs ha N (Nat.le_refl _)
 have hpm':=ycf hs' ha N (Nat.le_refl _)
 have hph: ∀x,x<N->swp (phK si al N) (al p) (al q) x=phK (swp si p q) al N x:=fun x hx=>by
  rw [ph_N ha hx]
  unfold swp
  have i1:=ha.inv x hx
  by_cases h1:x=al p
  ·subst h1
   rw [if_pos rfl,ha.inv p hp,if_pos rfl,ph_N ha haq,ha.inv q hq]
  ·rw [if_neg h1]
   have n1:al x≠p:=fun e=>h1 (by rw [←e,i1])
   by_cases h2:x=al q
   ·subst h2
    rw [if_pos rfl,ha.inv q hq,if_neg (Ne.symm hpq),if_pos rfl,ph_N ha hap,ha.inv p hp]
   ·rw [if_neg h2]
    have n2:al x≠q:=fun e=>h2 (by rw [←e,i1])
    rw [if_neg n1,if_neg n2,ph_N ha hx]
 have haa:al p≠al q:=fun e=>hpq (by rw [←ha.inv p hp,←ha.inv q hq,e])
 have hKpq:KK si al N p q:=K_sc hs ha hp hsc
 have hsi': ∀x,x<N->(x≠p/\x≠q/\swp si p q x=si x)\/(x=p/\swp si p q x=si q)\/(x=q/\swp si p q x=si p):=fun x _=>by
  unfold swp
  by_cases h1:x=p
  ·exact .inr (.inl ⟨h1,by rw [if_pos h1]⟩)
  ·by_cases h2:x=q
   ·exact .inr (.inr ⟨h2,by rw [if_neg h1,if_pos h2]⟩)
   ·exact .inl ⟨h1,h2,by rw [if_neg h1,if_neg h2]⟩
 have hsub: ∀x y,x<N->y<N->KK (swp si p q) al N x y->KK si al N x y:=fun x y hx hy hk=>by
  refine ydv hs' ha hE (fun x hx=>?_) (fun x hx=>K_al hs ha hx) hx hy hk
  rcases hsi' x hx with ⟨_,_,e⟩|⟨rfl,e⟩|⟨rfl,e⟩
  ·rw [e];exact K_si hs ha hx
  ·rw [e];exact hE.trans _ _ _ hx hq (hs.lt _ hq) hKpq (K_si hs ha hq)
  ·rw [e];exact hE.trans _ _ _ hx hp (hs.lt _ hp) (hE.symm _ _ hp hx hKpq) (K_si hs ha hp)
 have hKj: ∀x y,x<N->y<N->(KK si al N x y↔Join (KK (swp si p q) al N) p q x y):=fun x y hx hy=>by
  constructor
  ·intro hk
   refine ydv hs ha (Join.eqv hE' hp hq) (fun x hx=>?_) (fun x hx=> .inl (K_al hs' ha hx)) hx hy hk
   rcases hsi' x hx with ⟨_,_,e⟩|⟨rfl,_⟩|⟨rfl,_⟩
   ·rw [←e];exact .inl (K_si hs' ha hx)
   ·refine .inr (.inl ⟨hE'.rfl' _ hx,?_⟩)
    have:=K_si hs' ha hq
    rwa [show swp si x q q=si x by unfold swp;rw [if_neg (Ne.symm hpq),if_pos rfl]] at this
   ·refine .inr (.inr ⟨hE'.rfl' _ hx,?_⟩)
    have:=K_si hs' ha hp
    rwa [show swp si p x p=si x by unfold swp;rw [if_pos rfl]] at this
  ·rintro (e|⟨e1,e2⟩|⟨e1,e2⟩)
   ·exact hsub x y hx hy e
   ·exact hE.trans _ _ _ hx hp hy (hsub _ _ hx hp e1) (hE.trans _ _ _ hp hq hy hKpq (hsub _ _ hq hy e2))
   ·exact hE.trans _ _ _ hx hq hy (hsub _ _ hx hq e1) (hE.trans _ _ _ hq hp hy (hE.symm _ _ hp hq hKpq) (hsub _ _ hp hy e2))
 obtain ⟨lV,hV⟩:=Tr.exists (SC.eqv hs) (KK si al N p)
 obtain ⟨lF,hF⟩:=Tr.exists (SC.eqv hpm) (KK si al N p)
 have heq:=h.eq p hp lV lF hV hF
 obtain ⟨lV',hV'⟩:=Tr.exists (SC.eqv hs') (KK si al N p)
 obtain ⟨lF',hF'⟩:=Tr.exists (SC.eqv hpm') (KK si al N p)
 have hUp:KK si al N p p:=hE.rfl' _ hp
 have hv1:lV'.length=lV.length+1:=hV'.join (SC.eqv hs') hp hq hUp hKpq hvn (hV.congr hvj)
 have hUap:KK si al N p (al p):=K_al hs ha hp
 have hUaq:KK si al N p (al q):=hE.trans _ _ _ hp hq haq hKpq (K_al hs ha hq)
 have hswp:=ydn hpm hap haq
 have hF1:Tr N (KK si al N p) (SC (swp (phK si al N) (al p) (al q))) lF':=hF'.congr fun x y hx _=>(yd8 hswp hph hx).symm
 have hfup: ¬SC (phK (swp si p q) al N) (al p) (al q)->lF'.length=lF.length+1:=fun hno=>by
  have hno': ¬SC (swp (phK si al N) (al p) (al q)) (al p) (al q):=fun e=>hno ((yd8 hswp hph hap).1 e)
  have hj:=yc3 hswp hap haq hno'
  rw [yf7] at hj
  exact hF1.join (SC.eqv hswp) hap haq hUap hUaq hno' (hF.congr hj)
 have hfle:lF.length<=lF'.length+1:=by
  by_cases hsc2:SC (phK si al N) (al p) (al q)
  ·have hno:=ygs hpm hap haa hsc2
   have hj:=yc3 hswp hap haq hno
   rw [yf7] at hj
   have:=hF1.join (SC.eqv hswp) hap haq hUap hUaq hno (hF.congr hj)
   omega
  ·have:=hF.join (SC.eqv hpm) hap haq hUap hUaq hsc2 (hF1.congr (yc3 hpm hap haq hsc2))
   omega
 refine ⟨hs',ha,fun r hr kV kF hkV hkF=>?_⟩
 by_cases hrp:KK si al N p r
 ·by_cases hsame:KK (swp si p q) al N p q
  ·--nothing is parted
   have hKK: ∀x y,x<N->y<N->(KK si al N x y↔KK (swp si p q) al N x y):=fun x y hx hy=>(hKj x y hx hy).trans (yn8 hE' hp hq hsame x y hx hy)
   have hcl: ∀x,x<N->(KK si al N p x↔KK (swp si p q) al N r x):=fun x hx=>by
    rw [←hKK r x hr hx]
    exact ⟨fun e=>hE.trans _ _ _ hr hp hx (hE.symm _ _ hp hr hrp) e,fun e=>hE.trans _ _ _ hp hr hx hrp e⟩
   have e1:=(hV'.congrU hcl (E':=SC (swp si p q)) (fun _ _ _ _ _ _=>Iff.rfl)).len_eq (SC.eqv hs') hkV
   have e2:=(hF'.congrU hcl (E':=SC (phK (swp si p q) al N)) (fun _ _ _ _ _ _=>Iff.rfl)).len_eq (SC.eqv hpm') hkF
   have e3:eU al (KK si al N p) N=eU al (KK (swp si p q) al N r) N:=ye1 fun x hx=>by rw [hcl x hx]
   have e4:=yp1 hs' ha hr hkV hkF
   omega
  ·--the class is parted
   have hnab: ¬SC (phK (swp si p q) al N) (al p) (al q):=fun e=>hsame (by
    have h1:=K_ph hs' ha hap e
    exact hE'.trans _ _ _ hp hap hq (K_al hs' ha hp) (hE'.trans _ _ _ hap haq hq h1 (hE'.symm _ _ hq haq (K_al hs' ha hq))))
   have hf1:=hfup hnab
   obtain ⟨pV,hpV⟩:=Tr.exists (SC.eqv hs') (KK (swp si p q) al N p)
   obtain ⟨pF,hpF⟩:=Tr.exists (SC.eqv hpm') (KK (swp si p q) al N p)
   obtain ⟨qV,hqV⟩:=Tr.exists (SC.eqv hs') (KK (swp si p q) al N q)
   obtain ⟨qF,hqF⟩:=Tr.exists (SC.eqv hpm') (KK (swp si p q) al N q)
   have hdis: ∀x,x<N->KK (swp si p q) al N p x-> ¬KK (swp si p q) al N q x:=fun x hx e1 e2=>hsame (hE'.trans _ _ _ hp hx hq e1 (hE'.symm _ _ hq hx e2))
   have hcov: ∀x,x<N->((KK (swp si p q) al N p x\/KK (swp si p q) al N q x)↔KK si al N p x):=fun x hx=>by
    rw [hKj p x hp hx]
    constructor
    ·rintro (e|e)
     ·exact .inl e
     ·exact .inr (.inl ⟨hE'.rfl' _ hp,e⟩)
    ·rintro (e|⟨_,e⟩|⟨e,_⟩)
     ·exact .inl e
     ·exact .inr e
     ·exact absurd e hsame
   have hnoV: ∀x y,x<N->y<N->KK (swp si p q) al N p x->KK (swp si p q) al N q y-> ¬SC (swp si p q) x y/\ ¬SC (swp si p q) y x:=fun x y hx hy e1 e2=>
    ⟨fun e=>hdis y hy (hE'.trans _ _ _ hp hx hy e1 (K_sc hs' ha hx e)) e2,fun e=>hdis x hx e1 (hE'.trans _ _ _ hq hy hx e2 (K_sc hs' ha hy e))⟩
   have hnoF: ∀x y,x<N->y<N->KK (swp si p q) al N p x->KK (swp si p q) al N q y-> ¬SC (phK (swp si p q) al N) x y/\ ¬SC (phK (swp si p q) al N) y x:=fun x y hx hy e1 e2=>
    ⟨fun e=>hdis y hy (hE'.trans _ _ _ hp hx hy e1 (K_ph hs' ha hx e)) e2,fun e=>hdis x hx e1 (hE'.trans _ _ _ hq hy hx e2 (K_ph hs' ha hy e))⟩
   have eV:=((hpV.append hqV hnoV hdis).congrU hcov (E':=SC (swp si p q)) (fun _ _ _ _ _ _=>Iff.rfl)).len_eq (SC.eqv hs') hV'
   have eF:=((hpF.append hqF hnoF hdis).congrU hcov (E':=SC (phK (swp si p q) al N)) (fun _ _ _ _ _ _=>Iff.rfl)).len_eq (SC.eqv hpm') hF'
   rw [List.length_append] at eV eF
   have eE:eU al (KK si al N p) N=eU al (KK (swp si p q) al N p) N+eU al (KK (swp si p q) al N q) N:=by
    rw [←y6d (fun x hx e=>hdis x hx e)]
    exact ye1 fun x hx=>by rw [hcov x hx]
   have ip:=yp1 hs' ha hp hpV hpF
   have iq:=yp1 hs' ha hq hqV hqF
   have hr':=(hcov r hr).2 hrp
   rcases hr' with hr'|hr'
   ·have hcl: ∀x,x<N->(KK (swp si p q) al N p x↔KK (swp si p q) al N r x):=fun x hx=>⟨fun e=>hE'.trans _ _ _ hr hp hx (hE'.symm _ _ hp hr hr') e,fun e=>hE'.trans _ _ _ hp hr hx hr' e⟩
    have e1:=(hpV.congrU hcl (E':=SC (swp si p q)) (fun _ _ _ _ _ _=>Iff.rfl)).len_eq (SC.eqv hs') hkV
    have e2:=(hpF.congrU hcl (E':=SC (phK (swp si p q) al N)) (fun _ _ _ _ _ _=>Iff.rfl)).len_eq (SC.eqv hpm') hkF
    have e3:eU al (KK (swp si p q) al N p) N=eU al (KK (swp si p q) al N r) N:=ye1 fun x hx=>by rw [hcl x hx]
    omega
   ·have hcl: ∀x,x<N->(KK (swp si p q) al N q x↔KK (swp si p q) al N r x):=fun x hx=>⟨fun e=>hE'.trans _ _ _ hr hq hx (hE'.symm _ _ hq hr hr') e,fun e=>hE'.trans _ _ _ hq hr hx hr' e⟩
    have e1:=(hqV.congrU hcl (E':=SC (swp si p q)) (fun _ _ _ _ _ _=>Iff.rfl)).len_eq (SC.eqv hs') hkV
    have e2:=(hqF.congrU hcl (E':=SC (phK (swp si p q) al N)) (fun _ _ _ _ _ _=>Iff.rfl)).len_eq (SC.eqv hpm') hkF
    have e3:eU al (KK (swp si p q) al N q) N=eU al (KK (swp si p q) al N r) N:=ye1 fun x hx=>by rw [hcl x hx]
    omega
 ·--another component:as it was
  have hnr: ∀x,x<N->KK si al N r x->x≠p/\x≠q:=fun x hx e=>⟨fun g=>by subst g;exact hrp (hE.symm _ _ hr hx e),fun g=>by
   subst g;exact hrp (hE.trans _ _ _ hp hx hr hKpq (hE.symm _ _ hr hx e))⟩
  have hcl: ∀x,x<N->(KK (swp si p q) al N r x↔KK si al N r x):=fun x hx=>by
   refine ⟨hsub r x hr hx,fun e=>?_⟩
   rcases (hKj r x hr hx).1 e with e|⟨e1,_⟩|⟨e1,_⟩
   ·exact e
   ·exact absurd rfl (hnr p hp (hsub _ _ hr hp e1)).1
   ·exact absurd rfl (hnr q hq (hsub _ _ hr hq e1)).2
  have hclE: ∀{f:Nat->Nat} (_:yax N f) {g:Nat->Nat} (_: ∀x,x<N->KK si al N r x->f x=g x/\KK si al N r (f x)) (x y:Nat),x<N->KK si al N r x->(SC f x y↔SC g x y):=fun {f} hf {g} hfg x y hx hU=>by
   have hi: ∀k,KK si al N r (itn f k x)/\itn f k x=itn g k x:=fun k=>by
    induction k with
    |zero=>exact ⟨hU,rfl⟩
    |succ k ih=>
     have:=hfg _ (hf.itn_lt hx k) ih.1
     exact ⟨this.2,by simp only [itn];rw [←ih.2];exact this.1⟩
   constructor
   ·rintro ⟨k,rfl⟩;exact ⟨k,(hi k).2.symm⟩
   ·rintro ⟨k,rfl⟩;exact ⟨k,(hi k).2⟩
  have hsc1:=hclE hs' (g:=si) (fun x hx e=>by
   have hn:=hnr x hx e
   rcases hsi' x hx with ⟨_,_,g⟩|⟨g,_⟩|⟨g,_⟩
   ·rw [g];exact ⟨rfl,((K_cl hs ha hr).1 x hx).1 e⟩
   ·exact absurd g hn.1
   ·exact absurd g hn.2)
  have hsc2:=hclE hpm' (g:=phK si al N) (fun x hx e=>by
   have hax:=ha.lt x hx
   have e1:=((K_cl hs ha hr).2 x hx).1 e
   have hn:=hnr (al x) hax e1
   rw [ph_N ha hx,ph_N ha hx]
   rcases hsi' (al x) hax with ⟨_,_,g⟩|⟨g,_⟩|⟨g,_⟩
   ·rw [g];exact ⟨rfl,((K_cl hs ha hr).1 _ hax).1 e1⟩
   ·exact absurd g hn.1
   ·exact absurd g hn.2)
  have t1:Tr N (KK si al N r) (SC si) kV:=hkV.congrU hcl (fun x y hx _ hU _=>hsc1 x y hx ((hcl x hx).1 hU))
  have t2:Tr N (KK si al N r) (SC (phK si al N)) kF:=hkF.congrU hcl (fun x y hx _ hU _=>hsc2 x y hx ((hcl x hx).1 hU))
  have:=h.eq r hr kV kF t1 t2
  rw [this]
  congr 1
  exact ye1 fun x hx=>by rw [hcl x hx]
end
end Sp
end Go.Proofs.YtbblgobamoabkaaGreatDoor
namespace Go.Proofs.YtbblgobamoabkaaGreatDoor
namespace Sp
open Classical
noncomputable def cU (U:Nat->Prop) (N:Nat):Nat:=(List.range N).countP fun h=>decide (U h)
section
variable {N:Nat} {si al:Nat->Nat} {U W:Nat->Prop}
theorem ydw (U:Nat->Prop) (k:Nat):cU U (k+1)=cU U k+if U k then 1 else 0:=by
 unfold cU
 rw [List.range_succ,List.countP_append]
 by_cases h:U k<;>simp [h]
theorem yle {k:Nat} (h: ∀x,x<k->(U x↔W x)):cU U k=cU W k:=by
 unfold cU
 refine List.countP_congr fun x hx=>?_
 simp only [decide_eq_true_eq]
 exact h x (List.mem_range.1 hx)
theorem yuv {k:Nat} (h: ∀x,x<k->U x-> ¬W x):cU (fun x=>U x\/W x) k=cU U k+cU W k:=by
 induction k with
 |zero=>simp [cU]
 |succ k ih=>
  rw [ydw,ydw,ydw,ih (fun x hx=>h x (by omega))]
  have:=h k (by omega)
  by_cases h1:U k<;>by_cases h2:W k<;>simp [h1,h2]<;>first|omega|exact absurd h2 (this h1)
theorem yji {u:Nat}: ∀k,cU (fun x=>x=u) k=if u<k then 1 else 0
 |0=>by simp [cU]
 |k+1=>by
  rw [ydw,yji k]
  by_cases h1:u<k
  ·rw [if_pos h1,if_neg (by omega),if_pos (by omega)]
  ·rw [if_neg h1]
   by_cases h2:k=u
   ·rw [if_pos h2,if_pos (by omega)]
   ·rw [if_neg h2,if_neg (by omega)]
theorem ye2 (ha:Mat N al) (hU: ∀x,x<N->(U x↔U (al x))):2*eU al U N=cU U N:=by
 have e1:eU al U N=((List.range N).filter fun h=>decide (U h/\h<al h)).length:=by unfold eU;rw [List.countP_eq_length_filter]
 have e2:cU U N=eU al U N+((List.range N).filter fun h=>decide (U h/\ ¬h<al h)).length:=by
  rw [←List.countP_eq_length_filter]
  unfold cU eU
  generalize List.range N=l
  induction l with
  |nil=>simp
  |cons x l ih=>
   simp only [List.countP_cons]
   rw [ih]
   by_cases h1:U x<;>by_cases h2:x<al x<;>simp [h1,h2]<;>omega
 have m1: ∀x,x∈((List.range N).filter fun h=>decide (U h/\h<al h))↔x<N/\U x/\x<al x:=fun x=>by simp [List.mem_filter]
 have m2: ∀x,x∈((List.range N).filter fun h=>decide (U h/\ ¬h<al h))↔x<N/\U x/\ ¬x<al x:=fun x=>by simp [List.mem_filter]
 have i1:=yf8 ((List.range N).filter fun h=>decide (U h/\h<al h)) ((List.range N).filter fun h=>decide (U h/\ ¬h<al h)) al (List.nodup_range.filter _) (fun x hx=>by
  obtain ⟨h1,h2,h3⟩:=(m1 x).1 hx
  exact (m2 _).2 ⟨ha.lt x h1,(hU x h1).1 h2,by rw [ha.inv x h1];omega⟩) (fun x hx y hy e=>by
  have h1:=((m1 x).1 hx).1
  have h2:=((m1 y).1 hy).1
  rw [←ha.inv x h1,←ha.inv y h2,e])
 have i2:=yf8 ((List.range N).filter fun h=>decide (U h/\ ¬h<al h)) ((List.range N).filter fun h=>decide (U h/\h<al h)) al (List.nodup_range.filter _) (fun x hx=>by
  obtain ⟨h1,h2,h3⟩:=(m2 x).1 hx
  have:=ha.ne x h1
  exact (m1 _).2 ⟨ha.lt x h1,(hU x h1).1 h2,by rw [ha.inv x h1];omega⟩) (fun x hx y hy e=>by
  have h1:=((m2 x).1 hx).1
  have h2:=((m2 y).1 hy).1
  rw [←ha.inv x h1,←ha.inv y h2,e])
 omega
theorem ym7 {f:Nat->Nat} {x:Nat} (h:f x=x): ∀k,itn f k x=x
 |0=>rfl
 |k+1=>by simp only [itn];rw [ym7 h k];exact h
theorem yp2 {f:Nat->Nat} (hf:yax N f) {a v:Nat} (ha:a<N) (hav:a≠v) (hs:f a=v):swp f a v v=v/\ ∀x y,x<N->y<N->x≠v->y≠v->(SC f x y↔SC (swp f a v) x y):=by
 have hv:v<N:=by rw [←hs];exact hf.lt a ha
 have hfix:swp f a v v=v:=by unfold swp;rw [if_neg (Ne.symm hav),if_pos rfl];exact hs
 refine ⟨hfix,fun x y hx hy nx ny=>?_⟩
 have hsc:SC f a v:=⟨1,hs⟩
 have hp':=ydn hf ha hv
 have hno:=ygs hf ha hav hsc
 have hj:=yc3 hp' ha hv hno x y hx hy
 rw [yf7] at hj
 rw [hj]
 have hvv: ∀z,SC (swp f a v) v z->z=v:=fun z ⟨k,hk⟩=>hk▸ym7 hfix k
 constructor
 ·rintro (e|⟨_,e⟩|⟨e,_⟩)
  ·exact e
  ·exact absurd (hvv _ e) ny
  ·exact absurd (hvv _ (e.symm hp' hx)) nx
 ·exact .inl
def det (al:Nat->Nat) (u v x:Nat):Nat:=if x=u then v else if x=v then u else if x=al u then al v else if x=al v then al u else al x
theorem Sph.detach (h:Sph N si al) {u v:Nat} (hu:u<N) (hv:v<N) (huv:u≠v) (s1:si u=v) (s2:si v=u) (hne:al u≠v):Sph N si (det al u v):=by
 have hs:=h.perm
 have ha:=h.mat
 obtain ⟨a,ea⟩: ∃a,al u=a:=⟨_,rfl⟩
 obtain ⟨b,eb⟩: ∃b,al v=b:=⟨_,rfl⟩
 have la:a<N:=by rw [←ea];exact ha.lt u hu
 have lb:b<N:=by rw [←eb];exact ha.lt v hv
 have ia:al a=u:=by rw [←ea];exact ha.inv u hu
 have ib:al b=v:=by rw [←eb];exact ha.inv v hv
 have nau:a≠u:=by rw [←ea];exact ha.ne u hu
 have nbv:b≠v:=by rw [←eb];exact ha.ne v hv
 have nav:a≠v:=by rw [←ea];exact hne
 have nbu:b≠u:=fun e=>nav (by rw [←ea,←e,ib])
 have nab:a≠b:=fun e=>huv (by rw [←ia,←ib,e])
 have du:det al u v u=v:=by unfold det;rw [if_pos rfl]
 have dv:det al u v v=u:=by unfold det;rw [if_neg (Ne.symm huv),if_pos rfl]
 have dxa:det al u v a=b:=by unfold det;rw [if_neg nau,if_neg nav,ea,if_pos rfl,eb]
 have dxb:det al u v b=a:=by unfold det;rw [if_neg nbu,if_neg nbv,ea,if_neg (Ne.symm nab),eb,if_pos rfl]
 have dx: ∀x,x≠u->x≠v->x≠a->x≠b->det al u v x=al x:=fun x h1 h2 h3 h4=>by unfold det;rw [if_neg h1,if_neg h2,ea,if_neg h3,eb,if_neg h4]
 have dc: ∀x,x=u\/x=v\/x=a\/x=b\/(x≠u/\x≠v/\x≠a/\x≠b):=fun x=>by omega
 have dout: ∀x,x<N->x≠u->x≠v->x≠a->x≠b->al x≠u/\al x≠v/\al x≠a/\al x≠b:=fun x hx h1 h2 h3 h4=>by
  have i:=ha.inv x hx
  refine ⟨fun e=>h3 (by rw [←i,e,ea]),fun e=>h4 (by rw [←i,e,eb]),fun e=>h1 (by rw [←i,e,ia]),fun e=>h2 (by rw [←i,e,ib])⟩
 have ha':Mat N (det al u v):=by
  refine ⟨fun x hx=>?_,fun x hx=>?_,fun x hx=>?_⟩
  ·rcases dc x with rfl|rfl|rfl|rfl|⟨h1,h2,h3,h4⟩
   ·rw [du];exact hv
   ·rw [dv];exact hu
   ·rw [dxa];exact lb
   ·rw [dxb];exact la
   ·rw [dx x h1 h2 h3 h4];exact ha.lt x hx
  ·rcases dc x with rfl|rfl|rfl|rfl|⟨h1,h2,h3,h4⟩
   ·rw [du,dv]
   ·rw [dv,du]
   ·rw [dxa,dxb]
   ·rw [dxb,dxa]
   ·obtain ⟨k1,k2,k3,k4⟩:=dout x hx h1 h2 h3 h4
    rw [dx x h1 h2 h3 h4,dx _ k1 k2 k3 k4];exact ha.inv x hx
  ·rcases dc x with rfl|rfl|rfl|rfl|⟨h1,h2,h3,h4⟩
   ·rw [du];exact Ne.symm huv
   ·rw [dv];exact huv
   ·rw [dxa];exact Ne.symm nab
   ·rw [dxb];exact nab
   ·rw [dx x h1 h2 h3 h4];exact ha.ne x hx
 have hE:=yeq hs ha
 have hE':=yeq hs ha'
 have kuv:KK si al N u v:=by have:=K_si hs ha hu;rwa [s1] at this
 have kua:KK si al N u a:=by have:=K_al hs ha hu;rwa [ea] at this
 have kvb:KK si al N v b:=by have:=K_al hs ha hv;rwa [eb] at this
 have kab:KK si al N a b:=hE.trans _ _ _ la hu lb (hE.symm _ _ hu la kua) (hE.trans _ _ _ hu hv lb kuv kvb)
 have hsub: ∀x y,x<N->y<N->KK si (det al u v) N x y->KK si al N x y:=fun x y hx hy hk=>by
  refine ydv hs ha' hE (fun x hx=>K_si hs ha hx) (fun x hx=>?_) hx hy hk
  rcases dc x with rfl|rfl|rfl|rfl|⟨h1,h2,h3,h4⟩
  ·rw [du];exact kuv
  ·rw [dv];exact hE.symm _ _ hu hv kuv
  ·rw [dxa];exact kab
  ·rw [dxb];exact hE.symm _ _ la lb kab
  ·rw [dx x h1 h2 h3 h4];exact K_al hs ha hx
 have kab':KK si (det al u v) N a b:=by have:=K_al hs ha' la;rwa [dxa] at this
 have siuv: ∀x,x<N->((x=u\/x=v)↔(si x=u\/si x=v)):=fun x hx=>by
  constructor
  ·rintro (rfl|rfl)
   ·exact .inr s1
   ·exact .inl s2
  ·rintro (e|e)
   ·exact .inr (hs.inj x v hx hv (by rw [e,s2]))
   ·exact .inl (hs.inj x u hx hu (by rw [e,s1]))
 have hsup: ∀x y,x<N->y<N->x≠u->x≠v->y≠u->y≠v->KK si al N x y->KK si (det al u v) N x y:=fun x y hx hy x1 x2 y1 y2 hk=>by
  obtain ⟨r,hr⟩: ∃r:Nat->Nat,∀x,r x=if x=u then a else if x=v then b else x:=⟨_,fun _=>rfl⟩
  have ru:r u=a:=by rw [hr,if_pos rfl]
  have rv:r v=b:=by rw [hr,if_neg (Ne.symm huv),if_pos rfl]
  have ro: ∀x,x≠u->x≠v->r x=x:=fun x h1 h2=>by rw [hr,if_neg h1,if_neg h2]
  have rl: ∀x,x<N->r x<N:=fun x hx=>by
   rw [hr];split
   ·exact la
   ·split
    ·exact lb
    ·exact hx
  have key:KK si (det al u v) N (r x) (r y):=by
   refine ydv (R:=fun x y=>KK si (det al u v) N (r x) (r y)) hs ha ⟨fun x hx=>hE'.rfl' _ (rl x hx),fun x y hx hy e=>hE'.symm _ _ (rl x hx) (rl y hy) e,fun x y z hx hy hz e1 e2=>hE'.trans _ _ _ (rl x hx) (rl y hy) (rl z hz) e1 e2⟩ (fun x hx=>?_) (fun x hx=>?_) hx hy hk
   ·by_cases h1:x=u
    ·subst h1;rw [s1,ru,rv];exact kab'
    ·by_cases h2:x=v
     ·subst h2;rw [s2,ru,rv];exact hE'.symm _ _ la lb kab'
     ·have:=siuv x hx
      have h3: ¬(si x=u\/si x=v):=fun e=>by have:=this.2 e;omega
      rw [ro x h1 h2,ro (si x) (fun e=>h3 (.inl e)) (fun e=>h3 (.inr e))]
      exact K_si hs ha' hx
   ·rcases dc x with rfl|rfl|rfl|rfl|⟨h1,h2,h3,h4⟩
    ·rw [ea,ru,ro a nau nav];exact hE'.rfl' _ la
    ·rw [eb,rv,ro b nbu nbv];exact hE'.rfl' _ lb
    ·rw [ia,ru,ro x nau nav];exact hE'.rfl' _ la
    ·rw [ib,rv,ro x nbu nbv];exact hE'.rfl' _ lb
    ·obtain ⟨k1,k2,_,_⟩:=dout x hx h1 h2 h3 h4
     rw [ro x h1 h2,ro _ k1 k2]
     have:=K_al hs ha' hx
     rwa [dx x h1 h2 h3 h4] at this
  rwa [ro x x1 x2,ro y y1 y2] at key
 have huvc: ∀x y,x<N->y<N->KK si (det al u v) N x y->((x=u\/x=v)↔(y=u\/y=v)):=fun x y hx hy hk=>by
  refine ydv (R:=fun x y=>((x=u\/x=v)↔(y=u\/y=v))) hs ha' ⟨fun _ _=>Iff.rfl,fun _ _ _ _ e=>e.symm,fun _ _ _ _ _ _ e1 e2=>e1.trans e2⟩ (fun x hx=>siuv x hx) (fun x hx=>?_) hx hy hk
  rcases dc x with rfl|rfl|rfl|rfl|⟨h1,h2,h3,h4⟩
  ·rw [du];simp
  ·rw [dv];simp
  ·rw [dxa];simp [nau,nav,nbu,nbv]
  ·rw [dxb];simp [nau,nav,nbu,nbv]
  ·obtain ⟨k1,k2,_,_⟩:=dout x hx h1 h2 h3 h4
   rw [dx x h1 h2 h3 h4];simp [h1,h2,k1,k2]
 have hpm:=ycf hs ha N (Nat.le_refl _)
 have hpm':=ycf hs ha' N (Nat.le_refl _)
 have fa:phK si al N a=v:=by rw [ph_N ha la,ia,s1]
 obtain ⟨fx1,fx2⟩:=yp2 hpm la nav fa
 have hq:=ydn hpm la hv
 have fb:swp (phK si al N) a v b=u:=by unfold swp;rw [if_neg (Ne.symm nab),if_neg nbv,ph_N ha lb,ib,s2]
 obtain ⟨fx3,fx4⟩:=yp2 hq lb nbu fb
 have hq2:=ydn hq lb hu
 have hph: ∀x,x<N->swp (swp (phK si al N) a v) b u x=phK si (det al u v) N x:=fun x hx=>by
  rw [ph_N ha' hx]
  rcases dc x with rfl|rfl|rfl|rfl|⟨h1,h2,h3,h4⟩
  ·rw [du,s2];exact fx3
  ·rw [dv,s1]
   unfold swp;rw [if_neg (Ne.symm nbv),if_neg (Ne.symm huv)]
   exact fx1
  ·rw [dxa]
   unfold swp;rw [if_neg nab,if_neg nau,if_pos rfl,ph_N ha hv,eb]
  ·rw [dxb]
   unfold swp;rw [if_pos rfl,if_neg (Ne.symm nau),if_neg huv,ph_N ha hu,ea]
  ·rw [dx x h1 h2 h3 h4]
   unfold swp;rw [if_neg h4,if_neg h1,if_neg h3,if_neg h2,ph_N ha hx]
 have hsc: ∀x y,x<N->y<N->x≠u->x≠v->y≠u->y≠v->(SC (phK si al N) x y↔SC (phK si (det al u v) N) x y):=fun x y hx hy x1 x2 y1 y2=>
  (fx2 x y hx hy x2 y2).trans ((fx4 x y hx hy x1 y1).trans (yd8 hq2 hph hx))
 refine ⟨hs,ha',fun r hr kV kF hkV hkF=>?_⟩
 by_cases hr2:r=u\/r=v
 ·--the circle of the two darts
  have hcl: ∀x,x<N->(KK si (det al u v) N r x↔(x=u\/x=v)):=fun x hx=>by
   refine ⟨fun e=>(huvc r x hr hx e).1 hr2,fun e=>?_⟩
   have kuv':KK si (det al u v) N u v:=by have:=K_si hs ha' hu;rwa [s1] at this
   rcases hr2 with rfl|rfl<;>rcases e with rfl|rfl
   ·exact hE'.rfl' _ hr
   ·exact kuv'
   ·exact hE'.symm _ _ hx hr kuv'
   ·exact hE'.rfl' _ hr
  have tV:Tr N (KK si (det al u v) N r) (SC si) [u]:=by
   refine ⟨fun x hx=>?_,by simp,fun x hx y hy _=>?_,fun x hx e=>⟨u,by simp,?_⟩⟩
   ·simp at hx;subst hx;exact ⟨hu,(hcl _ hu).2 (.inl rfl)⟩
   ·simp at hx hy;rw [hx,hy]
   ·rcases (hcl x hx).1 e with rfl|rfl
    ·exact .refl _ _
    ·exact ⟨1,s2⟩
  have fixu:phK si (det al u v) N u=u:=by rw [ph_N ha' hu,du,s2]
  have fixv:phK si (det al u v) N v=v:=by rw [ph_N ha' hv,dv,s1]
  have fixsc: ∀x y,phK si (det al u v) N x=x->SC (phK si (det al u v) N) x y->y=x:=fun x y hf ⟨k,hk⟩=>hk▸ym7 hf k
  have tF:Tr N (KK si (det al u v) N r) (SC (phK si (det al u v) N)) [u,v]:=by
   refine ⟨fun x hx=>?_,by simp [huv],fun x hx y hy e=>?_,fun x hx e=>?_⟩
   ·simp at hx
    rcases hx with rfl|rfl
    ·exact ⟨hu,(hcl _ hu).2 (.inl rfl)⟩
    ·exact ⟨hv,(hcl _ hv).2 (.inr rfl)⟩
   ·simp at hx
    rcases hx with rfl|rfl
    ·exact (fixsc _ _ fixu e).symm
    ·exact (fixsc _ _ fixv e).symm
   ·rcases (hcl x hx).1 e with rfl|rfl
    ·exact ⟨x,by simp, .refl _ _⟩
    ·exact ⟨x,by simp, .refl _ _⟩
  have e1:=tV.len_eq (SC.eqv hs) hkV
  have e2:=tF.len_eq (SC.eqv hpm') hkF
  have e3:=ye2 ha' (K_cl hs ha' hr).2
  have e4:cU (KK si (det al u v) N r) N=2:=by
   rw [yle hcl,yuv (fun x _ e1 e2=>huv (e1.symm.trans e2)),yji,yji,if_pos hu,if_pos hv]
  simp at e1 e2
  omega
 ·have r1:r≠u:=fun e=>hr2 (.inl e)
  have r2:r≠v:=fun e=>hr2 (.inr e)
  have hnu: ∀x,x<N->KK si (det al u v) N r x->x≠u/\x≠v:=fun x hx e=>by
   have:=(huvc r x hr hx e)
   exact ⟨fun g=>hr2 (this.2 (.inl g)),fun g=>hr2 (this.2 (.inr g))⟩
  have hcl: ∀x,x<N->x≠u->x≠v->(KK si (det al u v) N r x↔KK si al N r x):=fun x hx x1 x2=>⟨hsub r x hr hx,hsup r x hr hx r1 r2 x1 x2⟩
  by_cases hru:KK si al N r u
  ·have hrv:=hE.trans _ _ _ hr hu hv hru kuv
   have hra:=hE.trans _ _ _ hr hu la hru kua
   have hrb:=hE.trans _ _ _ hr hv lb hrv kvb
   have tV:Tr N (KK si al N r) (SC si) (u::kV):=by
    refine ⟨fun x hx=>?_,?_,fun x hx y hy e=>?_,fun x hx e=>?_⟩
    ·rcases List.mem_cons.1 hx with rfl|g
     ·exact ⟨hu,hru⟩
     ·exact ⟨(hkV.mem x g).1,hsub r x hr (hkV.mem x g).1 (hkV.mem x g).2⟩
    ·exact List.nodup_cons.2 ⟨fun g=>(hnu u hu (hkV.mem u g).2).1 rfl,hkV.nodup⟩
    ·have hsik: ∀k,itn si k u=u\/itn si k u=v:=fun k=>by
      induction k with
      |zero=>exact .inl rfl
      |succ k ih=>exact (siuv _ (hs.itn_lt hu k)).1 ih
     have hsiu: ∀z,SC si u z->z=u\/z=v:=fun z ⟨k,hk⟩=>hk▸hsik k
     rcases List.mem_cons.1 hx with rfl|g<;>rcases List.mem_cons.1 hy with rfl|k
     ·rfl
     ·have:=hnu y (hkV.mem y k).1 (hkV.mem y k).2
      have:=hsiu y e
      omega
     ·have:=hnu x (hkV.mem x g).1 (hkV.mem x g).2
      have:=hsiu x (e.symm hs (hkV.mem x g).1)
      omega
     ·exact hkV.apart x g y k e
    ·by_cases x1:x=u
     ·exact ⟨u,by simp,by rw [x1];exact .refl _ _⟩
     ·by_cases x2:x=v
      ·exact ⟨u,by simp,by rw [x2];exact ⟨1,s2⟩⟩
      ·obtain ⟨y,h1,h2⟩:=hkV.all x hx ((hcl x hx x1 x2).2 e)
       exact ⟨y,by simp [h1],h2⟩
   have tF:Tr N (KK si al N r) (SC (phK si al N)) kF:=by
    refine ⟨fun x hx=>⟨(hkF.mem x hx).1,hsub r x hr (hkF.mem x hx).1 (hkF.mem x hx).2⟩,hkF.nodup,fun x hx y hy e=>?_,fun x hx e=>?_⟩
    ·have nx:=hnu x (hkF.mem x hx).1 (hkF.mem x hx).2
     have ny:=hnu y (hkF.mem y hy).1 (hkF.mem y hy).2
     exact hkF.apart x hx y hy ((hsc x y (hkF.mem x hx).1 (hkF.mem y hy).1 nx.1 nx.2 ny.1 ny.2).1 e)
    ·have step: ∀z,z<N->z≠u->z≠v->KK si al N r z-> ∃y,y∈kF/\SC (phK si al N) z y:=fun z hz z1 z2 ez=>by
      obtain ⟨y,h1,h2⟩:=hkF.all z hz ((hcl z hz z1 z2).2 ez)
      have ny:=hnu y (hkF.mem y h1).1 (hkF.mem y h1).2
      exact ⟨y,h1,(hsc z y hz (hkF.mem y h1).1 z1 z2 ny.1 ny.2).2 h2⟩
     by_cases x1:x=u
     ·obtain ⟨y,h1,h2⟩:=step b lb nbu nbv hrb
      refine ⟨y,h1,?_⟩
      have:SC (phK si al N) b u:=⟨1,by show phK si al N b=u;rw [ph_N ha lb,ib,s2]⟩
      rw [x1];exact (this.symm hpm lb).trans h2
     ·by_cases x2:x=v
      ·obtain ⟨y,h1,h2⟩:=step a la nau nav hra
       refine ⟨y,h1,?_⟩
       have:SC (phK si al N) a v:=⟨1,fa⟩
       rw [x2];exact (this.symm hpm la).trans h2
      ·exact step x hx x1 x2 e
   have e0:=h.eq r hr _ _ tV tF
   have e1:=ye2 ha (K_cl hs ha hr).2
   have e2:=ye2 ha' (K_cl hs ha' hr).2
   have e3:cU (KK si al N r) N=cU (KK si (det al u v) N r) N+2:=by
    have c1:cU (KK si al N r) N=cU (fun x=>KK si (det al u v) N r x\/(x=u\/x=v)) N:=yle fun x hx=>by
     by_cases x1:x=u
     ·subst x1;exact ⟨fun _=> .inr (.inl rfl),fun _=>hru⟩
     ·by_cases x2:x=v
      ·subst x2;exact ⟨fun _=> .inr (.inr rfl),fun _=>hrv⟩
      ·rw [hcl x hx x1 x2];simp [x1,x2]
    rw [c1,yuv (fun x hx e1 e2=>by have:=hnu x hx e1;omega),yuv (fun x _ e1 e2=>huv (e1.symm.trans e2)),yji,yji,if_pos hu,if_pos hv]
   simp only [List.length_cons] at e0
   omega
  ·have hnot: ∀x,x<N->KK si al N r x->x≠u/\x≠v/\x≠a/\x≠b:=fun x hx e=>by
    refine ⟨fun g=>?_,fun g=>?_,fun g=>?_,fun g=>?_⟩
    ·subst g;exact hru e
    ·subst g;exact hru (hE.trans _ _ _ hr hx hu e (hE.symm _ _ hu hx kuv))
    ·subst g;exact hru (hE.trans _ _ _ hr hx hu e (hE.symm _ _ hu hx kua))
    ·subst g;exact hru (hE.trans _ _ _ hr hx hu e (hE.trans _ _ _ hx hv hu (hE.symm _ _ hv hx kvb) (hE.symm _ _ hu hv kuv)))
   have hcl2: ∀x,x<N->(KK si (det al u v) N r x↔KK si al N r x):=fun x hx=>by
    refine ⟨hsub r x hr hx,fun e=>?_⟩
    have:=hnot x hx e
    exact (hcl x hx this.1 this.2.1).2 e
   have tV:Tr N (KK si al N r) (SC si) kV:=hkV.congrU hcl2 (fun _ _ _ _ _ _=>Iff.rfl)
   have tF:Tr N (KK si al N r) (SC (phK si al N)) kF:=hkF.congrU hcl2 (fun x y hx hy e1 e2=>by
    have n1:=hnot x hx ((hcl2 x hx).1 e1)
    have n2:=hnot y hy ((hcl2 y hy).1 e2)
    exact (hsc x y hx hy n1.1 n1.2.1 n2.1 n2.2.1).symm)
   have e0:=h.eq r hr _ _ tV tF
   rw [e0]
   congr 1
   exact ye1 fun x hx=>by
    rw [hcl2 x hx]
    constructor
    ·rintro ⟨g1,g2⟩
     have:=hnot x hx g1
     exact ⟨g1,by rw [dx x this.1 this.2.1 this.2.2.1 this.2.2.2];exact g2⟩
    ·rintro ⟨g1,g2⟩
     have:=hnot x hx g1
     exact ⟨g1,by rw [dx x this.1 this.2.1 this.2.2.1 this.2.2.2] at g2;exact g2⟩
end
end Sp
end Go.Proofs.YtbblgobamoabkaaGreatDoor
namespace Go.Proofs.YtbblgobamoabkaaGreatDoor
namespace Sp
open Classical
def siD (x:Nat):Nat:=x-x % 4+(x % 4+3)% 4
def alD (m:List Int) (x:Nat):Nat:=(m.getD x 0).toNat
theorem yhp (x:Nat):siD x/4=x/4:=by unfold siD;omega
theorem ycg (n:Nat):yax (4*n) siD:=⟨fun x hx=>by unfold siD;omega,fun x y hx hy e=>by unfold siD at e;omega⟩
theorem yjj {x y:Nat}:SC siD x y↔x/4=y/4:=by
 constructor
 ·rintro ⟨k,rfl⟩
  induction k with
  |zero=>rfl
  |succ k ih=>simp only [itn];rw [yhp];exact ih
 ·intro e
  refine ⟨(x % 4+4-y % 4)% 4,?_⟩
  have h4:x % 4=0\/x % 4=1\/x % 4=2\/x % 4=3:=by omega
  have k4:y % 4=0\/y % 4=1\/y % 4=2\/y % 4=3:=by omega
  rcases h4 with h|h|h|h<;>rcases k4 with k|k|k|k<;>rw [h,k]<;>first|(simp only [itn,siD];omega)|(show x=y;omega)
section
variable {m:List Int} {n:Nat}
structure Dia (m:List Int) (n:Nat):Prop where
 prd:yau m n
 ne: ∀h:Nat,h<4*n->m.getD h 0≠h
theorem Dia.cast (h:Dia m n) {x:Nat} (hx:x<4*n):((alD m x:Nat):Int)=m.getD x 0:=by
 have:=h.prd.ok.2 x hx;unfold alD;omega
theorem Dia.mat (h:Dia m n):Mat (4*n) (alD m):=by
 refine ⟨fun x hx=>?_,fun x hx=>?_,fun x hx=>?_⟩
 ·have:=h.prd.ok.2 x hx;unfold alD;omega
 ·have:=h.prd.inv x hx;unfold alD;rw [this];simp
 ·intro e;exact h.ne x hx (by rw [←h.cast hx,e])
theorem Dia.conn (h:Dia m n) {x y:Nat} (hx:x<4*n) (hy:y<4*n):KK siD (alD m) (4*n) x y↔Conn m (x/4) (y/4):=by
 have hs:=ycg n
 have ha:=h.mat
 have hE:=yeq hs ha
 constructor
 ·refine fun hk=>ydv (R:=fun x y=>Conn m (x/4) (y/4)) hs ha ⟨fun _ _=> .refl _,fun x y hx _ e=>e.symm h.prd (by omega),fun _ _ _ _ _ _ e1 e2=>e1.trans e2⟩ (fun x _=>?_) (fun x hx=>?_) hx hy hk
  ·rw [yhp];exact .refl _
  ·have:alD m x/4=nb m (x/4) (x % 4):=by
    unfold nb alD
    rw [show 4*(x/4)+x % 4=x by omega]
    have:=h.prd.ok.2 x hx
    omega
   rw [this]
   exact .step _ (by omega) (.refl _)
 ·have key: ∀{a b:Nat},Conn m a b->a<n-> ∀x y,x/4=a->y/4=b->KK siD (alD m) (4*n) x y:=fun {a b} hc han=>by
   induction hc with
   |refl=>intro x y hx hy;exact K_sc hs ha (by omega) (yjj.2 (by omega))
   | @step b s h4 hc ih=>
     intro x y hx hy
     have hb:=hc.lt h.prd han
     have h1:=ih x (4*b+s) hx (by omega)
     have h2:=K_al hs ha (x:=4*b+s) (by omega)
     have hl:=ha.lt (4*b+s) (by omega)
     have h3:alD m (4*b+s)/4=nb m b s:=by
      unfold nb alD
      have:=h.prd.ok.2 (4*b+s) (by omega)
      omega
     have hyl:y<4*n:=by omega
     exact hE.trans _ _ _ (by omega) (by omega) hyl h1 (hE.trans _ _ _ (by omega) hl hyl h2 (K_sc hs ha hl (yjj.2 (by omega))))
  intro hc
  exact key hc (by omega) x y rfl rfl
theorem Dia.it (h:Dia m n) {x:Nat} (hx:x<4*n): ∀k,it (yag m) k x=(itn (phK siD (alD m) (4*n)) k x:Nat)
 |0=>rfl
 |k+1=>by
  have hl:=(ycf (ycg n) h.mat (4*n) (Nat.le_refl _)).itn_lt hx k
  simp only [itn,Go.Proofs.YtbblgobamoabkaaGreatDoor.it]
  rw [h.it hx k,ph_N h.mat hl]
  generalize itn (phK siD (alD m) (4*n)) k x=z at*
  unfold yag
  rw [Int.toNat_natCast,yc7,←h.cast hl]
  unfold siD
  omega
theorem Dia.face (h:Dia m n) {x y:Nat} (hx:x<4*n):(y:Int)∈orbF (yag m) m.length x↔SC (phK siD (alD m) (4*n)) x y:=by
 have hml:=h.prd.ok.1
 have ho:=(ydm (yha h.prd) (x:=x) (by unfold InR;omega)).1 y
 rw [hml,ho]
 constructor
 ·rintro ⟨j,e⟩;rw [h.it hx j] at e;exact ⟨j,by omega⟩
 ·rintro ⟨j,e⟩;exact ⟨j,by rw [h.it hx j,e]⟩
theorem ysr (P:Nat->Prop): ∀n,cU (fun x=>P (x/4)) (4*n)=4*cU P n
 |0=>by simp [cU]
 |n+1=>by
  rw [show 4*(n+1)=4*n+1+1+1+1 by omega,ydw,ydw,ydw,ydw,ysr P n,ydw]
  rw [show 4*n/4=n by omega,show (4*n+1)/4=n by omega,show (4*n+1+1)/4=n by omega,show (4*n+1+1+1)/4=n by omega]
  split<;>omega
theorem Dia.vert (h:Dia m n) {a:Nat} (ha:a<n) {u:Int} (hu: ∀b,b<n->((rlP m n n).getD b 0=u↔Conn m a b)) {r:Nat} (hr:r/4=a):
  (∃l,Tr (4*n) (KK siD (alD m) (4*n) r) (SC siD) l/\l.length=cntV (rlP m n n) n u)/\cU (KK siD (alD m) (4*n) r) (4*n)=4*cntV (rlP m n n) n u:=by
 have hrl:r<4*n:=by omega
 have hcon: ∀x,x<4*n->(KK siD (alD m) (4*n) r x↔(rlP m n n).getD (x/4) 0=u):=fun x hx=>by
  rw [h.conn hrl hx,hr,hu (x/4) (by omega)]
 refine ⟨⟨((List.range n).filter fun c=>(rlP m n n).getD c 0==u).map (4* ·),⟨fun x hx=>?_,?_,fun x hx y hy e=>?_,fun x hx e=>?_⟩,?_⟩,?_⟩
 ·obtain ⟨c,hc,rfl⟩:=List.mem_map.1 hx
  have h1:=List.mem_filter.1 hc
  have h2:=List.mem_range.1 h1.1
  refine ⟨by omega,(hcon _ (by omega)).2 ?_⟩
  rw [show 4*c/4=c by omega]
  simpa using h1.2
 ·exact List.Pairwise.map _ (fun a b hab e=>hab (by omega)) (List.nodup_range.filter _)
 ·obtain ⟨c,_,rfl⟩:=List.mem_map.1 hx
  obtain ⟨d,_,rfl⟩:=List.mem_map.1 hy
  have:=yjj.1 e
  omega
 ·refine ⟨4*(x/4),List.mem_map.2 ⟨x/4,List.mem_filter.2 ⟨List.mem_range.2 (by omega),by simpa using (hcon x hx).1 e⟩,rfl⟩,yjj.2 (by omega)⟩
 ·rw [List.length_map,←List.countP_eq_length_filter];rfl
 ·rw [yle hcon,ysr (fun c=>(rlP m n n).getD c 0=u)]
  congr 1
  unfold cU cntV
  refine List.countP_congr fun c _=>?_
  simp
theorem Dia.fcs (h:Dia m n) {a:Nat} (ha:a<n) {u:Int} (hu: ∀b,b<n->((rlP m n n).getD b 0=u↔Conn m a b)) {r:Nat} (hr:r/4=a):
  ∃l,Tr (4*n) (KK siD (alD m) (4*n) r) (SC (phK siD (alD m) (4*n))) l/\l.length=cntF m (rlP m n n) (4*n) u:=by
 have hrl:r<4*n:=by omega
 have hcon: ∀x,x<4*n->(KK siD (alD m) (4*n) r x↔(rlP m n n).getD (x/4) 0=u):=fun x hx=>by
  rw [h.conn hrl hx,hr,hu (x/4) (by omega)]
 have hpm:=ycf (ycg n) h.mat (4*n) (Nat.le_refl _)
 have hfl: ∀x,x<4*n->(fl m x=true↔ ∀y,SC (phK siD (alD m) (4*n)) x y->x<=y):=fun x hx=>by
  unfold fl
  rw [yem]
  constructor
  ·intro hl y hy
   have:=hl y ((h.face hx).2 hy)
   omega
  ·intro hl y hy
   have hy2:=(ydm (yha h.prd) (x:=x) (by unfold InR;omega)).2.1 y (by rw [h.prd.ok.1] at hy;exact hy)
   unfold InR at hy2
   obtain ⟨z,rfl⟩: ∃z:Nat,y=z:=⟨y.toNat,by omega⟩
   have:=hl z ((h.face hx).1 hy)
   omega
 refine ⟨(List.range (4*n)).filter fun i=>fl m i&&(rlP m n n).getD (i/4) 0==u,⟨fun x hx=>?_,List.nodup_range.filter _,fun x hx y hy e=>?_,fun x hx e=>?_⟩,?_⟩
 ·have h1:=List.mem_filter.1 hx
  have h2:=List.mem_range.1 h1.1
  refine ⟨h2,(hcon x h2).2 ?_⟩
  have:=h1.2
  rw [Bool.and_eq_true] at this
  simpa using this.2
 ·have h1:=List.mem_filter.1 hx
  have h2:=List.mem_filter.1 hy
  have l1:=List.mem_range.1 h1.1
  have l2:=List.mem_range.1 h2.1
  have f1:=(hfl x l1).1 ((Bool.and_eq_true _ _▸h1.2).1)
  have f2:=(hfl y l2).1 ((Bool.and_eq_true _ _▸h2.2).1)
  have:=f1 y e
  have:=f2 x (e.symm hpm l1)
  omega
 ·have key: ∀k x,x<k->x<4*n->(rlP m n n).getD (x/4) 0=u-> ∃y,y∈((List.range (4*n)).filter fun i=>fl m i&&(rlP m n n).getD (i/4) 0==u)/\SC (phK siD (alD m) (4*n)) x y:=fun k=>by
   induction k with
   |zero=>intro x h;omega
   |succ k ih=>
    intro x hk hx hux
    by_cases hl: ∃y,SC (phK siD (alD m) (4*n)) x y/\y<x
    ·obtain ⟨y,h1,h2⟩:=hl
     have hyl:y<4*n:=by omega
     have huy:(rlP m n n).getD (y/4) 0=u:=by
      have hk1:=K_ph (ycg n) h.mat hx h1
      have:=(hcon x hx).2 hux
      exact (hcon y hyl).1 ((yeq (ycg n) h.mat).trans _ _ _ hrl hx hyl this hk1)
     obtain ⟨z,h3,h4⟩:=ih y (by omega) hyl huy
     exact ⟨z,h3,h1.trans h4⟩
    ·refine ⟨x,List.mem_filter.2 ⟨List.mem_range.2 hx,?_⟩, .refl _ _⟩
     rw [Bool.and_eq_true]
     exact ⟨(hfl x hx).2 fun y hy=>Nat.le_of_not_lt fun hlt=>hl ⟨y,hy,hlt⟩,by simpa using hux⟩
  exact key (x+1) x (by omega) hx ((hcon x hx).1 e)
 ·rw [←List.countP_eq_length_filter];rfl
theorem Dia.sph (h:Dia m n):sphR m n=true↔Sph (4*n) siD (alD m):=by
 have hpm:=ycf (ycg n) h.mat (4*n) (Nat.le_refl _)
 rw [yii]
 constructor
 ·intro hr
  refine ⟨ycg n,h.mat,fun r hrl lV lF hV hF=>?_⟩
  obtain ⟨u,hu,hc,hiff⟩:=ym3 h.prd (a:=r/4) (by omega)
  have e0:=hr u hu ((hiff u hu).2 (hc.symm h.prd hu))
  obtain ⟨⟨l1,t1,n1⟩,hcU⟩:=h.vert (a:=r/4) (by omega) hiff rfl
  obtain ⟨l2,t2,n2⟩:=h.fcs (a:=r/4) (by omega) hiff rfl
  have e1:=hV.len_eq (SC.eqv (ycg n)) t1
  have e2:=hF.len_eq (SC.eqv hpm) t2
  have e3:=ye2 h.mat (K_cl (ycg n) h.mat hrl).2
  omega
 ·intro hS c hc hlab
  obtain ⟨u,hu,hcc,hiff⟩:=ym3 h.prd (a:=c) hc
  have huc:(u:Int)=c:=by rw [←hlab];exact ((hiff c hc).2 (.refl _)).symm
  have huc':u=c:=by omega
  subst huc'
  obtain ⟨⟨l1,t1,n1⟩,hcU⟩:=h.vert (a:=u) hc hiff (r:=4*u) (by omega)
  obtain ⟨l2,t2,n2⟩:=h.fcs (a:=u) hc hiff (r:=4*u) (by omega)
  have e0:=hS.eq (4*u) (by omega) l1 l2 t1 t2
  have e3:=ye2 h.mat (K_cl (ycg n) h.mat (r:=4*u) (by omega)).2
  omega
end
end Sp
end Go.Proofs.YtbblgobamoabkaaGreatDoor
namespace Go.Proofs.YtbblgobamoabkaaGreatDoor
namespace Sp
open Classical
section
variable {N N':Nat} {si al si' al' io:Nat->Nat}
def eqAt (N:Nat) (si al:Nat->Nat) (r:Nat):Prop:= ∀lV lF,Tr N (KK si al N r) (SC si) lV->Tr N (KK si al N r) (SC (phK si al N)) lF->lV.length+lF.length=2+eU al (KK si al N r) N
theorem y00 (hs:yax N si) (ha:Mat N al) (il: ∀x,x<N'->io x<N) (ii: ∀x y,x<N'->y<N'->io x=io y->x=y) (ls: ∀x,x<N'->si' x<N') (la: ∀x,x<N'->al' x<N')
  (es: ∀x,x<N'->io (si' x)=si (io x)) (ea: ∀x,x<N'->io (al' x)=al (io x)):yax N' si'/\Mat N' al'/\ ∀r,r<N'->(eqAt N si al (io r)↔eqAt N' si' al' r):=by
 have hs':yax N' si':=⟨ls,fun x y hx hy e=>ii x y hx hy (hs.inj _ _ (il x hx) (il y hy) (by rw [←es x hx,←es y hy,e]))⟩
 have ha':Mat N' al':=by
  refine ⟨la,fun x hx=>ii _ _ (la _ (la x hx)) hx (by rw [ea _ (la x hx),ea x hx];exact ha.inv _ (il x hx)),fun x hx e=>ha.ne _ (il x hx) (by rw [←ea x hx,e])⟩
 have hE:=yeq hs ha
 have hE':=yeq hs' ha'
 have hpm:=ycf hs ha N (Nat.le_refl _)
 have hpm':=ycf hs' ha' N' (Nat.le_refl _)
 have hit: ∀{f f':Nat->Nat} (_: ∀x,x<N'->f' x<N') (_: ∀x,x<N'->io (f' x)=f (io x)) (x y:Nat),x<N'->y<N'->(SC f' x y↔SC f (io x) (io y)):=fun {f f'} hl he x y hx hy=>by
  have hk: ∀k,itn f' k x<N'/\io (itn f' k x)=itn f k (io x):=fun k=>by
   induction k with
   |zero=>exact ⟨hx,rfl⟩
   |succ k ih=>exact ⟨hl _ ih.1,by simp only [itn];rw [he _ ih.1,ih.2]⟩
  constructor
  ·rintro ⟨k,rfl⟩;exact ⟨k,(hk k).2.symm⟩
  ·rintro ⟨k,e⟩;exact ⟨k,ii _ _ (hk k).1 hy (by rw [(hk k).2,e])⟩
 have hsi:=hit ls es
 have hph:=hit (f:=phK si al N) (f':=phK si' al' N') (fun x hx=>hpm'.lt x hx) (fun x hx=>by
  rw [ph_N ha' hx,ph_N ha (il x hx),es _ (la x hx),ea x hx])
 have him: ∀u,u<N->((∃x,x<N'/\io x=u)↔(∃x,x<N'/\io x=si u)):=fun u hu=>by
  constructor
  ·rintro ⟨x,hx,rfl⟩;exact ⟨si' x,ls x hx,es x hx⟩
  ·rintro ⟨x,hx,e⟩
   obtain ⟨k,hk⟩:=(SC.step si u).symm hs hu
   rw [←e] at hk
   have: ∀k,∃y,y<N'/\io y=itn si k (io x):=fun k=>by
    induction k with
    |zero=>exact ⟨x,hx,rfl⟩
    |succ k ih=>obtain ⟨y,hy,e⟩:=ih;exact ⟨si' y,ls y hy,by rw [es y hy,e];rfl⟩
   obtain ⟨y,hy,e2⟩:=this k
   exact ⟨y,hy,by rw [e2,hk]⟩
 have hia: ∀u,u<N->((∃x,x<N'/\io x=u)↔(∃x,x<N'/\io x=al u)):=fun u hu=>by
  constructor
  ·rintro ⟨x,hx,rfl⟩;exact ⟨al' x,la x hx,ea x hx⟩
  ·rintro ⟨x,hx,e⟩;exact ⟨al' x,la x hx,by rw [ea x hx,e];exact ha.inv u hu⟩
 have hKR:EqvN N (fun u v=>((∃x,x<N'/\io x=u)↔(∃y,y<N'/\io y=v))/\ ∀x y,x<N'->y<N'->io x=u->io y=v->KK si' al' N' x y):=by
  refine ⟨fun u _=>⟨Iff.rfl,fun x y hx hy e1 e2=>?_⟩,fun u v _ _ e=>⟨e.1.symm,fun x y hx hy e1 e2=>hE'.symm _ _ hy hx (e.2 y x hy hx e2 e1)⟩,fun u v w _ _ _ e1 e2=>⟨e1.1.trans e2.1,fun x y hx hy g1 g2=>?_⟩⟩
  ·have:=ii x y hx hy (by rw [e1,e2]);subst this;exact hE'.rfl' _ hx
  ·obtain ⟨z,hz,e⟩:=e1.1.1 ⟨x,hx,g1⟩
   exact hE'.trans _ _ _ hx hz hy (e1.2 x z hx hz g1 e) (e2.2 z y hz hy e g2)
 have hK: ∀x y,x<N'->y<N'->(KK si' al' N' x y↔KK si al N (io x) (io y)):=fun x y hx hy=>by
  constructor
  ·refine fun hk=>ydv (R:=fun x y=>KK si al N (io x) (io y)) hs' ha' ⟨fun x hx=>hE.rfl' _ (il x hx),fun x y hx hy e=>hE.symm _ _ (il x hx) (il y hy) e,fun x y z hx hy hz e1 e2=>hE.trans _ _ _ (il x hx) (il y hy) (il z hz) e1 e2⟩ (fun x hx=>?_) (fun x hx=>?_) hx hy hk
   ·rw [es x hx];exact K_si hs ha (il x hx)
   ·rw [ea x hx];exact K_al hs ha (il x hx)
  ·intro hk
   refine (ydv hs ha hKR (fun u hu=>⟨him u hu,fun x y hx hy e1 e2=>?_⟩) (fun u hu=>⟨hia u hu,fun x y hx hy e1 e2=>?_⟩) (il x hx) (il y hy) hk).2 x y hx hy rfl rfl
   ·have:y=si' x:=ii _ _ hy (ls x hx) (by rw [e2,es x hx,e1])
    subst this;exact K_si hs' ha' hx
   ·have:y=al' x:=ii _ _ hy (la x hx) (by rw [e2,ea x hx,e1])
    subst this;exact K_al hs' ha' hx
 have hcov: ∀r,r<N'-> ∀u,u<N->KK si al N (io r) u-> ∃x,x<N'/\io x=u:=fun r hr u hu hk=>
  (ydv (R:=fun u v=>((∃x,x<N'/\io x=u)↔(∃y,y<N'/\io y=v))) hs ha ⟨fun _ _=>Iff.rfl,fun _ _ _ _ e=>e.symm,fun _ _ _ _ _ _ e1 e2=>e1.trans e2⟩ him hia (il r hr) hu hk).1 ⟨r,hr,rfl⟩
 have htr: ∀{E E':Nat->Nat->Prop} (_: ∀x y,x<N'->y<N'->(E' x y↔E (io x) (io y))) (r:Nat) (l:List Nat),r<N'->Tr N' (KK si' al' N' r) E' l->Tr N (KK si al N (io r)) E (l.map io):=fun {E E'} he r l hr ht=>by
  refine ⟨fun u hu=>?_,?_,fun u hu v hv e=>?_,fun u hu hk=>?_⟩
  ·obtain ⟨x,hx,rfl⟩:=List.mem_map.1 hu
   exact ⟨il x (ht.mem x hx).1,(hK r x hr (ht.mem x hx).1).1 (ht.mem x hx).2⟩
  ·rw [List.Nodup,List.pairwise_map]
   refine List.Pairwise.imp_of_mem ?_ ht.nodup
   intro x y hx hy hne e
   exact hne (ii x y (ht.mem x hx).1 (ht.mem y hy).1 e)
  ·obtain ⟨x,hx,rfl⟩:=List.mem_map.1 hu
   obtain ⟨y,hy,rfl⟩:=List.mem_map.1 hv
   rw [ht.apart x hx y hy ((he x y (ht.mem x hx).1 (ht.mem y hy).1).2 e)]
  ·obtain ⟨x,hx,rfl⟩:=hcov r hr u hu hk
   obtain ⟨y,h1,h2⟩:=ht.all x hx ((hK r x hr hx).2 hk)
   exact ⟨io y,List.mem_map.2 ⟨y,h1,rfl⟩,(he x y hx (ht.mem y h1).1).1 h2⟩
 refine ⟨hs',ha',fun r hr=>?_⟩
 have e1:=ye2 ha (K_cl hs ha (il r hr)).2
 have e2:=ye2 ha' (K_cl hs' ha' hr).2
 have e3:cU (KK si al N (io r)) N=cU (KK si' al' N' r) N':=by
  unfold cU
  rw [List.countP_eq_length_filter,List.countP_eq_length_filter]
  have m1: ∀u,u∈((List.range N).filter fun x=>decide (KK si al N (io r) x))↔u<N/\KK si al N (io r) u:=fun u=>by simp [List.mem_filter]
  have m2: ∀u,u∈((List.range N').filter fun x=>decide (KK si' al' N' r x))↔u<N'/\KK si' al' N' r u:=fun u=>by simp [List.mem_filter]
  refine Nat.le_antisymm ?_ ?_
  ·have hch: ∀u,∃x,(u<N/\KK si al N (io r) u)->(x<N'/\io x=u):=fun u=>by
    by_cases hu:u<N/\KK si al N (io r) u
    ·obtain ⟨x,h1,h2⟩:=hcov r hr u hu.1 hu.2;exact ⟨x,fun _=>⟨h1,h2⟩⟩
    ·exact ⟨0,fun e=>absurd e hu⟩
   obtain ⟨g,hg⟩:=Classical.axiomOfChoice hch
   refine yf8 _ _ g (List.nodup_range.filter _) (fun u hu=>?_) (fun u hu v hv e=>?_)
   ·have h1:=(m1 u).1 hu
    have h2:=hg u h1
    exact (m2 _).2 ⟨h2.1,(hK r _ hr h2.1).2 (by rw [h2.2];exact h1.2)⟩
   ·have h1:=hg u ((m1 u).1 hu)
    have h2:=hg v ((m1 v).1 hv)
    rw [←h1.2,←h2.2,e]
  ·refine yf8 _ _ io (List.nodup_range.filter _) (fun x hx=>?_) (fun x hx y hy e=>ii x y ((m2 x).1 hx).1 ((m2 y).1 hy).1 e)
   have h1:=(m2 x).1 hx
   exact (m1 _).2 ⟨il x h1.1,(hK r x hr h1.1).1 h1.2⟩
 constructor
 ·intro h lV lF hV hF
  have e0:=h _ _ (htr hsi r lV hr hV) (htr hph r lF hr hF)
  rw [List.length_map,List.length_map] at e0
  omega
 ·intro h lV lF hV hF
  obtain ⟨lV',hV'⟩:=Tr.exists (SC.eqv hs') (KK si' al' N' r)
  obtain ⟨lF',hF'⟩:=Tr.exists (SC.eqv hpm') (KK si' al' N' r)
  have e0:=h _ _ hV' hF'
  have g1:=hV.len_eq (SC.eqv hs) (htr hsi r lV' hr hV')
  have g2:=hF.len_eq (SC.eqv hpm) (htr hph r lF' hr hF')
  rw [List.length_map] at g1 g2
  omega
theorem Sph.embed (h:Sph N si al) (il: ∀x,x<N'->io x<N) (ii: ∀x y,x<N'->y<N'->io x=io y->x=y) (ls: ∀x,x<N'->si' x<N') (la: ∀x,x<N'->al' x<N')
  (es: ∀x,x<N'->io (si' x)=si (io x)) (ea: ∀x,x<N'->io (al' x)=al (io x)):Sph N' si' al':=by
 obtain ⟨h1,h2,h3⟩:=y00 h.perm h.mat il ii ls la es ea
 exact ⟨h1,h2,fun r hr=>(h3 r hr).1 (h.eq (io r) (il r hr))⟩
end
end Sp
end Go.Proofs.YtbblgobamoabkaaGreatDoor
namespace Go.Proofs.YtbblgobamoabkaaGreatDoor
namespace Sp
open Classical
def fol (al:Nat->Nat) (u v x:Nat):Nat:=if x=u then al v else if x=v then al u else x
def detO (al:Nat->Nat) (u v:Nat):Nat->Nat:=if al u=v then al else det al u v
section
variable {N:Nat} {si al:Nat->Nat}
theorem yp3 (ha:Mat N al) {u v h:Nat} (hu:u<N) (hv:v<N) (huv:u≠v) (hh:h<N) (h1:h≠u) (h2:h≠v):detO al u v h=fol al u v (al h):=by
 have ih:=ha.inv h hh
 unfold detO fol
 by_cases e:al u=v
 ·rw [if_pos e]
  have n1:al h≠u:=fun g=>h2 (by rw [←ih,g,e])
  have n2:al h≠v:=fun g=>h1 (by rw [←ih,g,←e,ha.inv u hu])
  rw [if_neg n1,if_neg n2]
 ·rw [if_neg e]
  unfold det
  rw [if_neg h1,if_neg h2]
  by_cases g1:h=al u
  ·rw [if_pos g1,if_pos (by rw [g1,ha.inv u hu])]
  ·rw [if_neg g1]
   have n1:al h≠u:=fun g=>g1 (by rw [←ih,g])
   rw [if_neg n1]
   by_cases g2:h=al v
   ·rw [if_pos g2,if_pos (by rw [g2,ha.inv v hv])]
   ·rw [if_neg g2,if_neg (fun g=>g2 (by rw [←ih,g]))]
theorem Sph.detO (h:Sph N si al) {u v:Nat} (hu:u<N) (hv:v<N) (huv:u≠v) (s1:si u=v) (s2:si v=u):Sph N si (detO al u v):=by
 unfold Sp.detO
 by_cases e:al u=v
 ·rw [if_pos e];exact h
 ·rw [if_neg e];exact h.detach hu hv huv s1 s2 e
end
theorem follow {u1 v1 u2 v2 h:Nat} {al T:Nat->Nat} {O:Nat->Prop} (i: ∀x,x=u1\/x=v1\/x=u2\/x=v2\/x=h->al (al x)=x/\al x≠x) (d:u1≠v1/\u1≠u2/\u1≠v2/\v1≠u2/\v1≠v2/\u2≠v2)
  (hh:h≠u1/\h≠v1/\h≠u2/\h≠v2) (T1:T u1=al v1) (T2:T v1=al u1) (T3:T u2=al v2) (T4:T v2=al u2) (TO: ∀x,x≠u1->x≠v1->x≠u2->x≠v2->T x=x):
  (if fol al u1 v1 (al h)=u2 then fol al u1 v1 (al v2) else if fol al u1 v1 (al h)=v2 then fol al u1 v1 (al u2) else fol al u1 v1 (al h))=T (T (T (T (T (al h))))):=by
 obtain ⟨d1,d2,d3,d4,d5,d6⟩:=d
 obtain ⟨k1,k2,k3,k4⟩:=hh
 have j1:=i u1 (by simp)
 have j2:=i v1 (by simp)
 have j3:=i u2 (by simp)
 have j4:=i v2 (by simp)
 have j5:=i h (by simp)
 have inj: ∀x y,(x=u1\/x=v1\/x=u2\/x=v2\/x=h)->(y=u1\/y=v1\/y=u2\/y=v2\/y=h)->al x=y->al y=x:=fun x y hx _ e=>by rw [←e];exact (i x hx).1
 have stay: ∀x,x≠u1->x≠v1->x≠u2->x≠v2->T (T (T (T (T x))))=x/\T (T (T (T x)))=x/\T (T (T x))=x:=fun x a1 a2 a3 a4=>by
  have:=TO x a1 a2 a3 a4;simp only [this];simp
 unfold fol
 by_cases c1:al h=u1
 ·have b1:al u1=h:=inj h u1 (by simp) (by simp) c1
  rw [if_pos c1,c1,T1]
  have y1:al v1≠u1:=fun e=>k2 (by rw [←b1];exact inj v1 u1 (by simp) (by simp) e)
  have y2:al v1≠v1:=j2.2
  by_cases c2:al v1=u2
  ·have b2:al u2=v1:=inj v1 u2 (by simp) (by simp) c2
   have z1:al v2≠u1:=fun e=>k4 (by rw [←b1];exact inj v2 u1 (by simp) (by simp) e)
   have z2:al v2≠v1:=fun e=>d6 (by rw [←c2];exact inj v2 v1 (by simp) (by simp) e)
   have z3:al v2≠u2:=fun e=>d5 (by rw [←b2];exact inj v2 u2 (by simp) (by simp) e)
   rw [if_pos c2,if_neg z1,if_neg z2,c2,T3,(stay _ z1 z2 z3 j4.2).2.2]
  ·by_cases c3:al v1=v2
   ·have b2:al v2=v1:=inj v1 v2 (by simp) (by simp) c3
    have z1:al u2≠u1:=fun e=>k3 (by rw [←b1];exact inj u2 u1 (by simp) (by simp) e)
    have z2:al u2≠v1:=fun e=>d6 (by rw [←c3];exact (inj u2 v1 (by simp) (by simp) e).symm)
    have z4:al u2≠v2:=fun e=>d4 (by rw [←b2];exact inj u2 v2 (by simp) (by simp) e)
    rw [if_neg c2,if_pos c3,if_neg z1,if_neg z2,c3,T4,(stay _ z1 z2 j3.2 z4).2.2]
   ·rw [if_neg c2,if_neg c3,(stay _ y1 y2 c2 c3).2.1]
 ·rw [if_neg c1]
  by_cases c1':al h=v1
  ·have b1:al v1=h:=inj h v1 (by simp) (by simp) c1'
   rw [if_pos c1',c1',T2]
   have y1:al u1≠v1:=fun e=>k1 (by rw [←b1];exact inj u1 v1 (by simp) (by simp) e)
   have y2:al u1≠u1:=j1.2
   by_cases c2:al u1=u2
   ·have b2:al u2=u1:=inj u1 u2 (by simp) (by simp) c2
    have z1:al v2≠v1:=fun e=>k4 (by rw [←b1];exact inj v2 v1 (by simp) (by simp) e)
    have z2:al v2≠u1:=fun e=>d6 (by rw [←c2];exact inj v2 u1 (by simp) (by simp) e)
    have z3:al v2≠u2:=fun e=>d3 (by rw [←b2];exact inj v2 u2 (by simp) (by simp) e)
    rw [if_pos c2,if_neg z2,if_neg z1,c2,T3,(stay _ z2 z1 z3 j4.2).2.2]
   ·by_cases c3:al u1=v2
    ·have b2:al v2=u1:=inj u1 v2 (by simp) (by simp) c3
     have z1:al u2≠v1:=fun e=>k3 (by rw [←b1];exact inj u2 v1 (by simp) (by simp) e)
     have z2:al u2≠u1:=fun e=>d6 (by rw [←c3];exact (inj u2 u1 (by simp) (by simp) e).symm)
     have z4:al u2≠v2:=fun e=>d2 (by rw [←b2];exact inj u2 v2 (by simp) (by simp) e)
     rw [if_neg c2,if_pos c3,if_neg z2,if_neg z1,c3,T4,(stay _ z2 z1 j3.2 z4).2.2]
    ·rw [if_neg c2,if_neg c3,(stay _ y2 y1 c2 c3).2.1]
  ·rw [if_neg c1']
   by_cases c4:al h=u2
   ·have b1:al u2=h:=inj h u2 (by simp) (by simp) c4
    rw [if_pos c4,c4,T3]
    have y3:al v2≠u2:=fun e=>k4 (by rw [←b1];exact inj v2 u2 (by simp) (by simp) e)
    by_cases c2:al v2=u1
    ·have b2:al u1=v2:=inj v2 u1 (by simp) (by simp) c2
     have z1:al v1≠u1:=fun e=>d5 (by rw [←b2];exact (inj v1 u1 (by simp) (by simp) e).symm)
     have z3:al v1≠u2:=fun e=>k2 (by rw [←b1];exact inj v1 u2 (by simp) (by simp) e)
     have z4:al v1≠v2:=fun e=>d1 (by rw [←c2];exact inj v1 v2 (by simp) (by simp) e)
     rw [if_pos c2,c2,T1,(stay _ z1 j2.2 z3 z4).2.2]
    ·by_cases c3:al v2=v1
     ·have b2:al v1=v2:=inj v2 v1 (by simp) (by simp) c3
      have z2:al u1≠v1:=fun e=>d3 (by rw [←b2];exact (inj u1 v1 (by simp) (by simp) e).symm)
      have z3:al u1≠u2:=fun e=>k1 (by rw [←b1];exact inj u1 u2 (by simp) (by simp) e)
      have z4:al u1≠v2:=fun e=>d1 (by rw [←c3];exact (inj u1 v2 (by simp) (by simp) e).symm)
      rw [if_neg c2,if_pos c3,c3,T2,(stay _ j1.2 z2 z3 z4).2.2]
     ·rw [if_neg c2,if_neg c3,(stay _ c2 c3 y3 j4.2).2.1]
   ·rw [if_neg c4]
    by_cases c5:al h=v2
    ·have b1:al v2=h:=inj h v2 (by simp) (by simp) c5
     rw [if_pos c5,c5,T4]
     have y3:al u2≠v2:=fun e=>k3 (by rw [←b1];exact inj u2 v2 (by simp) (by simp) e)
     by_cases c2:al u2=u1
     ·have b2:al u1=u2:=inj u2 u1 (by simp) (by simp) c2
      have z1:al v1≠u1:=fun e=>d4 (by rw [←b2];exact (inj v1 u1 (by simp) (by simp) e).symm)
      have z3:al v1≠v2:=fun e=>k2 (by rw [←b1];exact inj v1 v2 (by simp) (by simp) e)
      have z4:al v1≠u2:=fun e=>d1 (by rw [←c2];exact inj v1 u2 (by simp) (by simp) e)
      rw [if_pos c2,c2,T1,(stay _ z1 j2.2 z4 z3).2.2]
     ·by_cases c3:al u2=v1
      ·have b2:al v1=u2:=inj u2 v1 (by simp) (by simp) c3
       have z2:al u1≠v1:=fun e=>d2 (by rw [←b2];exact (inj u1 v1 (by simp) (by simp) e).symm)
       have z3:al u1≠v2:=fun e=>k1 (by rw [←b1];exact inj u1 v2 (by simp) (by simp) e)
       have z4:al u1≠u2:=fun e=>d1 (by rw [←c3];exact (inj u1 u2 (by simp) (by simp) e).symm)
       rw [if_neg c2,if_pos c3,c3,T2,(stay _ j1.2 z2 z4 z3).2.2]
      ·rw [if_neg c2,if_neg c3,(stay _ c2 c3 j3.2 y3).2.1]
    ·rw [if_neg c5,(stay _ c1 c1' c4 c5).1]
end Sp
end Go.Proofs.YtbblgobamoabkaaGreatDoor
namespace Go.Proofs.YtbblgobamoabkaaGreatDoor
namespace Sp
open Classical
theorem yf0 (l k:List Int) (i:Nat) (h:i<l.length):(l++k).getD i 0=l.getD i 0:=by
 rw [List.getD_eq_getElem?_getD,List.getD_eq_getElem?_getD,List.getElem?_append_left h]
theorem yf1 (l k:List Int) (i:Nat) (h:l.length<=i):(l++k).getD i 0=k.getD (i-l.length) 0:=by
 rw [List.getD_eq_getElem?_getD,List.getD_eq_getElem?_getD,List.getElem?_append_right h]
theorem ym8 {E:List Int} {c:Nat}: ∀k,(woM E c k).length=4*(if c<k then k-1 else k)/\ ∀x,x<4*(if c<k then k-1 else k)->(woM E c k).getD x 0=cutM E c (if x/4<c then x else x+4)
 |0=>by simp [woM]
 |k+1=>by
  obtain ⟨h1,h2⟩:=ym8 (E:=E) (c:=c) k
  by_cases hk:k=c
  ·have e:woM E c (k+1)=woM E c k:=by simp [woM,hk]
   rw [e,if_pos (by omega)]
   rw [if_neg (by omega)] at h1 h2
   exact ⟨by omega,fun x hx=>h2 x (by omega)⟩
  ·have e:woM E c (k+1)=woM E c k++[cutM E c (4*k),cutM E c (4*k+1),cutM E c (4*k+2),cutM E c (4*k+3)]:=by simp [woM,woM4,hk]
   rw [e]
   by_cases hck:c<k
   ·rw [if_pos hck] at h1 h2
    rw [if_pos (by omega)]
    refine ⟨by simp [h1];omega,fun x hx=>?_⟩
    by_cases hx2:x<4*(k-1)
    ·rw [yf0 _ _ _ (by omega)];exact h2 x hx2
    ·rw [yf1 _ _ _ (by omega),h1]
     have hx3:x=4*(k-1)\/x=4*(k-1)+1\/x=4*(k-1)+2\/x=4*(k-1)+3:=by omega
     rw [if_neg (by omega)]
     rcases hx3 with rfl|rfl|rfl|rfl
     ·rw [show 4*(k-1)-4*(k-1)=0 by omega,show 4*(k-1)+4=4*k by omega];rfl
     ·rw [show 4*(k-1)+1-4*(k-1)=1 by omega,show 4*(k-1)+1+4=4*k+1 by omega];rfl
     ·rw [show 4*(k-1)+2-4*(k-1)=2 by omega,show 4*(k-1)+2+4=4*k+2 by omega];rfl
     ·rw [show 4*(k-1)+3-4*(k-1)=3 by omega,show 4*(k-1)+3+4=4*k+3 by omega];rfl
   ·rw [if_neg hck] at h1 h2
    rw [if_neg (by omega)]
    refine ⟨by simp [h1];omega,fun x hx=>?_⟩
    by_cases hx2:x<4*k
    ·rw [yf0 _ _ _ (by omega)];exact h2 x hx2
    ·rw [yf1 _ _ _ (by omega),h1]
     have hx3:x=4*k\/x=4*k+1\/x=4*k+2\/x=4*k+3:=by omega
     rw [if_pos (by omega)]
     rcases hx3 with rfl|rfl|rfl|rfl
     ·rw [show 4*k-4*k=0 by omega];rfl
     ·rw [show 4*k+1-4*k=1 by omega];rfl
     ·rw [show 4*k+2-4*k=2 by omega];rfl
     ·rw [show 4*k+3-4*k=3 by omega];rfl
theorem jnF (c:Nat):jnB false (4*c)=4*c+1/\jnB false (4*c+1)=4*c/\jnB false (4*c+2)=4*c+3/\jnB false (4*c+3)=4*c+2:=by
 unfold jnB;simp only [yen,yc7];refine ⟨?_,?_,?_,?_⟩<;>(split<;>rename_i h<;>simp at h<;>omega)
theorem jnT (c:Nat):jnB true (4*c)=4*c+3/\jnB true (4*c+1)=4*c+2/\jnB true (4*c+2)=4*c+1/\jnB true (4*c+3)=4*c:=by
 unfold jnB;simp only [yen,yc7];refine ⟨?_,?_,?_,?_⟩<;>(split<;>rename_i h<;>simp at h<;>omega)
theorem jnFN (c:Nat):(jnB false ((4*c:Nat):Int)).toNat=4*c+1/\(jnB false ((4*c+1:Nat):Int)).toNat=4*c/\(jnB false ((4*c+2:Nat):Int)).toNat=4*c+3/\(jnB false ((4*c+3:Nat):Int)).toNat=4*c+2:=by
 obtain ⟨h1,h2,h3,h4⟩:=jnF c
 refine ⟨?_,?_,?_,?_⟩
 ·rw [show ((4*c:Nat):Int)=4*c by omega,h1];omega
 ·rw [show ((4*c+1:Nat):Int)=4*c+1 by omega,h2];omega
 ·rw [show ((4*c+2:Nat):Int)=4*c+2 by omega,h3];omega
 ·rw [show ((4*c+3:Nat):Int)=4*c+3 by omega,h4];omega
theorem jnTN (c:Nat):(jnB true ((4*c:Nat):Int)).toNat=4*c+3/\(jnB true ((4*c+1:Nat):Int)).toNat=4*c+2/\(jnB true ((4*c+2:Nat):Int)).toNat=4*c+1/\(jnB true ((4*c+3:Nat):Int)).toNat=4*c:=by
 obtain ⟨h1,h2,h3,h4⟩:=jnT c
 refine ⟨?_,?_,?_,?_⟩
 ·rw [show ((4*c:Nat):Int)=4*c by omega,h1];omega
 ·rw [show ((4*c+1:Nat):Int)=4*c+1 by omega,h2];omega
 ·rw [show ((4*c+2:Nat):Int)=4*c+2 by omega,h3];omega
 ·rw [show ((4*c+3:Nat):Int)=4*c+3 by omega,h4];omega
section
variable {m:List Int} {n c:Nat} {b:Bool}
def thT (m:List Int) (b:Bool) (c x:Nat):Nat:=if x/4=c then alD m (jnB b x).toNat else x
theorem yp4 (h:Dia m n) (hc:c<n): ∀f x:Nat,x<4*n->thrX m b c f x=(itn (thT m b c) f x:Nat)
 |0,x,_=>rfl
 |f+1,x,hx=>by
  simp only [itn]
  rw [←yd7 (thT m b c) f x]
  by_cases hxc:x/4=c
  ·have hj:=ycm b (x:Int)
   have hl:(jnB b (x:Int)).toNat<4*n:=by omega
   have e1:thT m b c x=alD m (jnB b x).toNat:=by unfold thT;rw [if_pos hxc]
   rw [e1,ym4 (by omega),←h.cast hl]
   exact yp4 h hc f _ (h.mat.lt _ hl)
  ·have e1:thT m b c x=x:=by unfold thT;rw [if_neg hxc]
   rw [e1,←yp4 h hc f x hx,yj6 (by omega),yj6 (by omega)]
theorem yuw (h:Dia m n) (hc:c<n) (hsp:sphR m n=true):Dia (woM (smE m b c (4*n)) c n) (n-1)/\sphR (woM (smE m b c (4*n)) c n) (n-1)=true:=by
 have hml:=h.prd.ok.1
 have hS:=h.sph.1 hsp
 have ha:=h.mat
 obtain ⟨u1,hu1⟩: ∃u,u=4*c:=⟨_,rfl⟩
 obtain ⟨u2,hu2⟩: ∃u,u=4*c+2:=⟨_,rfl⟩
 obtain ⟨v1,hv1⟩: ∃v,v=if b then 4*c+3 else 4*c+1:=⟨_,rfl⟩
 obtain ⟨v2,hv2⟩: ∃v,v=if b then 4*c+1 else 4*c+3:=⟨_,rfl⟩
 obtain ⟨p,hp⟩: ∃p,p=if b then 4*c+1 else 4*c:=⟨_,rfl⟩
 obtain ⟨q,hq⟩: ∃q,q=if b then 4*c+3 else 4*c+2:=⟨_,rfl⟩
 have hb:(v1=4*c+3/\v2=4*c+1/\p=4*c+1/\q=4*c+3/\b=true)\/(v1=4*c+1/\v2=4*c+3/\p=4*c/\q=4*c+2/\b=false):=by
  cases b
  ·exact .inr ⟨hv1,hv2,hp,hq,rfl⟩
  ·exact .inl ⟨hv1,hv2,hp,hq,rfl⟩
 have hS1:=hS.split (p:=p) (q:=q) (by omega) (by omega) (by omega) (yjj.2 (by omega))
 have sj:swp siD p q u1=v1/\swp siD p q v1=u1/\swp siD p q u2=v2/\swp siD p q v2=u2:=by
  unfold swp siD
  rcases hb with ⟨e1,e2,e3,e4,_⟩|⟨e1,e2,e3,e4,_⟩<;>subst hu1 hu2 e1 e2 e3 e4<;>refine ⟨?_,?_,?_,?_⟩<;>(repeat' split)<;>omega
 have so: ∀x,x/4≠c->swp siD p q x=siD x:=fun x hx=>by unfold swp;rw [if_neg (by omega),if_neg (by omega)]
 have hS2:=hS1.detO (u:=u1) (v:=v1) (by omega) (by omega) (by omega) sj.1 sj.2.1
 have hS3:=hS2.detO (u:=u2) (v:=v2) (by omega) (by omega) (by omega) sj.2.2.1 sj.2.2.2
 have f1: ∀x,x<4*n->x≠u1->x≠v1->detO (alD m) u1 v1 x=fol (alD m) u1 v1 (alD m x):=fun x hx h1 h2=>yp3 ha (by omega) (by omega) (by omega) hx h1 h2
 have hmate: ∀x,x<4*n->x/4≠c->((detO (detO (alD m) u1 v1) u2 v2 x:Nat):Int)=thrX m b c 5 (m.getD x 0):=fun x hx hxc=>by
  have hal:=ha.lt x hx
  rw [←h.cast hx,yp4 h hc 5 _ hal]
  congr 1
  rw [yp3 hS2.mat (by omega) (by omega) (by omega) hx (by omega) (by omega)]
  rw [f1 x hx (by omega) (by omega)]
  have key:=follow (u1:=u1) (v1:=v1) (u2:=u2) (v2:=v2) (h:=x) (al:=alD m) (T:=thT m b c) (O:=fun _=>True)
   (fun y hy=>⟨ha.inv y (by omega),ha.ne y (by omega)⟩) (by omega) (by omega)
   (by
    unfold thT;rw [if_pos (by omega)];congr 1
    rcases hb with ⟨e1,_,_,_,rfl⟩|⟨e1,_,_,_,rfl⟩
    ·rw [hu1,(jnTN c).1,e1]
    ·rw [hu1,(jnFN c).1,e1])
   (by
    unfold thT;rw [if_pos (by omega)];congr 1
    rcases hb with ⟨e1,_,_,_,rfl⟩|⟨e1,_,_,_,rfl⟩
    ·rw [e1,(jnTN c).2.2.2,hu1]
    ·rw [e1,(jnFN c).2.1,hu1])
   (by
    unfold thT;rw [if_pos (by omega)];congr 1
    rcases hb with ⟨_,e2,_,_,rfl⟩|⟨_,e2,_,_,rfl⟩
    ·rw [hu2,(jnTN c).2.2.1,e2]
    ·rw [hu2,(jnFN c).2.2.1,e2])
   (by
    unfold thT;rw [if_pos (by omega)];congr 1
    rcases hb with ⟨_,e2,_,_,rfl⟩|⟨_,e2,_,_,rfl⟩
    ·rw [e2,(jnTN c).2.1,hu2]
    ·rw [e2,(jnFN c).2.2.2,hu2])
   (fun y h1 h2 h3 h4=>by unfold thT;rw [if_neg (by omega)])
  show (if fol (alD m) u1 v1 (alD m x)=u2 then detO (alD m) u1 v1 v2 else if fol (alD m) u1 v1 (alD m x)=v2 then detO (alD m) u1 v1 u2 else fol (alD m) u1 v1 (alD m x))=_
  rw [f1 v2 (by omega) (by omega) (by omega),f1 u2 (by omega) (by omega) (by omega)]
  exact key
 obtain ⟨wl,wg⟩:=ym8 (E:=smE m b c (4*n)) (c:=c) n
 rw [if_pos hc] at wl wg
 obtain ⟨io,hio⟩: ∃io:Nat->Nat,∀x,io x=if x/4<c then x else x+4:=⟨_,fun _=>rfl⟩
 have iol: ∀x,x<4*(n-1)->io x<4*n/\io x/4≠c:=fun x hx=>by rw [hio];split<;>omega
 have hget: ∀x,x<4*(n-1)-> ∃y:Nat,y<4*n/\y/4≠c/\detO (detO (alD m) u1 v1) u2 v2 (io x)=y/\(woM (smE m b c (4*n)) c n).getD x 0=((if c<y/4 then y-4 else y:Nat):Int):=fun x hx=>by
  have hi:=iol x hx
  have e1:=hmate (io x) hi.1 hi.2
  have hout:=yij (b:=b) h.prd hc hi.1 hi.2
  have hrng:=yik (b:=b) h.prd hc 5 (m.getD (io x) 0) (by have:=h.prd.ok.2 (io x) hi.1;unfold InR;omega)
  unfold InR at hrng
  refine ⟨detO (detO (alD m) u1 v1) u2 v2 (io x),by omega,by omega,rfl,?_⟩
  rw [wg x hx,←hio x]
  have e2:(smE m b c (4*n)).getD (io x) 0=thrX m b c 5 (m.getD (io x) 0):=by
   have: ∀k,k<=m.length->io x<k->(smE m b c k).getD (io x) 0=thrX m b c 5 (m.getD (io x) 0):=fun k=>by
    induction k with
    |zero=>intro _ h;omega
    |succ k ih=>
     intro hk hlt
     have hl:=yj7 (m:=m) (b:=b) (c:=c) k
     simp only [smE]
     by_cases hkc:k/4=c
     ·rw [if_pos hkc]
      have:io x≠k:=fun e=>hi.2 (by rw [e];exact hkc)
      exact ih (by omega) (by omega)
     ·rw [if_neg hkc]
      by_cases e:k=io x
      ·rw [←e,yat (by omega)]
      ·rw [yao e];exact ih (by omega) (by omega)
   exact this (4*n) (by omega) hi.1
  unfold cutM
  rw [e2,←e1]
  generalize detO (detO (alD m) u1 v1) u2 v2 (io x)=y at*
  by_cases hy:c<y/4
  ·rw [if_pos hy,if_pos (by omega)];omega
  ·rw [if_neg hy,if_neg (by omega)]
 have hal': ∀x,x<4*(n-1)->alD (woM (smE m b c (4*n)) c n) x<4*(n-1)/\io (alD (woM (smE m b c (4*n)) c n) x)=detO (detO (alD m) u1 v1) u2 v2 (io x)/\((alD (woM (smE m b c (4*n)) c n) x:Nat):Int)=(woM (smE m b c (4*n)) c n).getD x 0:=fun x hx=>by
  obtain ⟨y,y1,y2,y3,y4⟩:=hget x hx
  have e:alD (woM (smE m b c (4*n)) c n) x=if c<y/4 then y-4 else y:=by unfold alD;rw [y4,Int.toNat_natCast]
  rw [e,y3]
  refine ⟨by split<;>omega,?_,y4.symm⟩
  rw [hio]
  by_cases hy:c<y/4
  ·rw [if_pos hy,if_neg (by omega)];omega
  ·rw [if_neg hy,if_pos (by omega)]
 have hS4:Sph (4*(n-1)) siD (alD (woM (smE m b c (4*n)) c n)):=by
  refine hS3.embed (io:=io) (fun x hx=>(iol x hx).1) (fun x y hx hy e=>?_) (fun x hx=>(ycg (n-1)).lt x hx) (fun x hx=>(hal' x hx).1) (fun x hx=>?_) (fun x hx=>(hal' x hx).2.1)
  ·rw [hio,hio] at e
   by_cases h1:x/4<c<;>by_cases h2:y/4<c
   ·rw [if_pos h1,if_pos h2] at e;exact e
   ·rw [if_pos h1,if_neg h2] at e;omega
   ·rw [if_neg h1,if_pos h2] at e;omega
   ·rw [if_neg h1,if_neg h2] at e;omega
  ·rw [so _ (iol x hx).2,hio,hio,yhp]
   by_cases h1:x/4<c
   ·rw [if_pos h1,if_pos h1]
   ·rw [if_neg h1,if_neg h1];unfold siD;omega
 have hD:Dia (woM (smE m b c (4*n)) c n) (n-1):=by
  refine ⟨⟨⟨wl,fun i hi=>?_⟩,fun x hx=>?_⟩,fun x hx e=>?_⟩
  ·have:=hal' i hi;omega
  ·have h1:=hal' x hx
   have h2:=hS4.mat.inv x hx
   have h3:=hal' _ h1.1
   rw [h2] at h3
   rw [←h1.2.2,Int.toNat_natCast,←h3.2.2]
  ·have h1:=hal' x hx
   exact hS4.mat.ne x hx (by omega)
 exact ⟨hD,hD.sph.2 hS4⟩
end
end Sp
end Go.Proofs.YtbblgobamoabkaaGreatDoor
