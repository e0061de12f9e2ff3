/- Plain: a crossing is added to the states of a sweep. -/
import Derived.Test.YtphjphpmfflfpaaGreatDoorZe
import Derived.Test.YtphjphpmfflfpaaGreatDoorZd
import Derived.Test.YtphjphpmfflfpaaGreatDoorZf
namespace Go.Proofs.YtphjphpmfflfpaaGreatDoor
set_option linter.unusedVariables false
set_option linter.unusedSimpArgs false
set_option linter.unusedSectionVars false
structure s5 (m:List Int) (n:Nat) (P:List Nat) (ends:List Int):Prop where
 nd:ends.Nodup
 mem: ∀h:Int,h∈ends↔au n h/\(h/4).toNat∈P/\ ¬(m.getD h.toNat 0/4).toNat∈P
structure oX (T:List Nat) (E:Nat):Prop where
 len:T.length=E
 cn: ∀x,x<E->T.getD x 0<E
 inv: ∀x,x<E->T.getD (T.getD x 0) 0=x
 ne: ∀x,x<E->T.getD x 0≠x
def bST (m:List Int) (P:List Nat) (ends:List Int) (T:List Nat) (ch:Nat->Bool) (h:Int):Int:=
 match ndF ends ends.length h with
 |some x=>ends.getD (T.getD x.toNat 0) 0
 |none=>if (h/4).toNat∈P then m.getD h.toNat 0 else bd (ch (h/4).toNat) h
theorem Ks (hs:List Int) (h:Int): ∀k x,ndF hs k h=some x->0<=x/\x<k/\hs.getD x.toNat 0=h
 |0,x,e=>by cases e
 |k+1,x,e=>by
  simp only [ndF] at e
  split at e
  ·rename_i e1;cases e;exact ⟨by omega,by omega,e1.symm⟩
  ·obtain ⟨h1,h2,h3⟩:=Ks hs h k x e;exact ⟨h1,by omega,h3⟩
theorem KT (hs:List Int) (h:Int): ∀k,ndF hs k h=none-> ∀x,x<k->hs.getD x 0≠h
 |0,_,x,hx=>by omega
 |k+1,e,x,hx=>by
  simp only [ndF] at e
  split at e
  ·cases e
  ·rename_i e1
   by_cases hk:x=k
   ·rw [hk];exact fun g=>e1 g.symm
   ·exact KT hs h k e x (by omega)
theorem Vm (hs:List Int) (h:Int): ∀k,(∀x,x<k->hs.getD x 0≠h)->ndF hs k h=none
 |0,_=>rfl
 |k+1,hx=>by
  simp only [ndF];rw [if_neg fun e=>hx k (by omega) e.symm];exact Vm hs h k fun x h1=>hx x (by omega)
theorem uY {l:List Int} {h:Int}:h∈l↔ ∃x,x<l.length/\l.getD x 0=h:=by
 rw [List.mem_iff_getElem];constructor
 ·rintro ⟨x,hx,e⟩;exact ⟨x,hx,by simp [List.getD_eq_getElem?_getD,hx,e]⟩
 ·rintro ⟨x,hx,e⟩;exact ⟨x,hx,by simpa [List.getD_eq_getElem?_getD,hx] using e⟩
theorem Hz {l:List Int} (h:l.Nodup) {x y:Nat} (hx:x<l.length) (hy:y<l.length) (e:l.getD x 0=l.getD y 0):x=y:=by
 simp only [List.getD_eq_getElem?_getD,List.getElem?_eq_getElem hx,List.getElem?_eq_getElem hy,Option.getD_some] at e;exact (List.getElem_inj h).1 e
theorem Vl {hs:List Int} (h:hs.Nodup) {x:Nat} (hx:x<hs.length):ndF hs hs.length (hs.getD x 0)=some (x:Int):=by
 cases hq:ndF hs hs.length (hs.getD x 0) with
 |none=>exact absurd rfl (KT hs _ _ hq x hx)
 |some y=>
  obtain ⟨h1,h2,h3⟩:=Ks hs _ _ _ hq
  have:=Hz h (by omega) hx h3
  congr 1;omega
theorem NC {hs:List Int} {h:Int} (hn:h∉hs):ndF hs hs.length h=none:=Vm hs h _ fun x hx e=>hn (uY.2 ⟨x,hx,e⟩)
def jL (b:Bool):List Int:=if b then [3,2,1,0] else [1,0,3,2]
theorem x9 (b:Bool) {t:Nat} (ht:t<4):0<=(jL b).getD t 0/\(jL b).getD t 0<=3/\(jL b).getD ((jL b).getD t 0).toNat 0=t/\(jL b).getD t 0≠t:=by
 have:t=0\/t=1\/t=2\/t=3:=by omega
 rcases this with rfl|rfl|rfl|rfl<;>cases b<;>decide
theorem El (b:Bool) (c:Nat) {t:Nat} (ht:t<4):bd b (4*(c:Int)+t)=4*c+(jL b).getD t 0:=by
 obtain ⟨h0,h1,h2,h3,g0,g1,g2,g3⟩:=OO c;have e0:((4*c:Nat):Int)=4*(c:Int)+(0:Nat):=by omega
 have e1:((4*c+1:Nat):Int)=4*(c:Int)+(1:Nat):=by omega
 have e2:((4*c+2:Nat):Int)=4*(c:Int)+(2:Nat):=by omega
 have e3:((4*c+3:Nat):Int)=4*(c:Int)+(3:Nat):=by omega
 rw [e0] at h0 g0;rw [e1] at h1 g1;rw [e2] at h2 g2;rw [e3] at h3 g3
 have:t=0\/t=1\/t=2\/t=3:=by omega
 rcases this with rfl|rfl|rfl|rfl<;>cases b
 ·rw [g0];simp [jL]
 ·rw [h0];simp [jL]
 ·rw [g1];simp [jL]
 ·rw [h1];simp [jL]
 ·rw [g2];simp [jL]
 ·rw [h2];simp [jL]
 ·rw [g3];simp [jL]
 ·rw [h3];simp [jL]
def gb (bt:Nat) (T:List Nat) (b:Bool) (x:Nat):Nat:=if x<bt then T.getD x 0 else bt+((jL b).getD (x-bt) 0).toNat
abbrev bA (m ends:List Int) (c:Nat):List Int:=di (lg (bY ends c) m) (ends.length+4) (ends.length+4)
abbrev dx (m ends:List Int) (c:Nat):List Int:=di (nR (bY ends c) m) (ends.length+4) (ends.length+4)
abbrev aP (m ends:List Int) (c:Nat):List Int:=bh (bY ends c) m (ends.length+4)
theorem Rx {ends:List Int} (c:Int) {x:Nat} (hx:x<ends.length):(bY ends c).getD x 0=ends.getD x 0:=by
 simp only [bY,List.getD_eq_getElem?_getD,List.getElem?_append_left hx]
theorem Rw (ends:List Int) (c:Int) {t:Nat} (ht:t<4):(bY ends c).getD (ends.length+t) 0=4*c+t:=by
 simp only [bY,List.getD_eq_getElem?_getD,List.getElem?_append_right (Nat.le_add_right _ _),Nat.add_sub_cancel_left]
 have:t=0\/t=1\/t=2\/t=3:=by omega
 rcases this with rfl|rfl|rfl|rfl<;>simp
section
variable {m:List Int} {n:Nat} {P:List Nat} {ends:List Int} {c:Nat} (hp:aE m n) (he:s5 m n P ends) (hc:c<n) (bB:c∉P)
include he
theorem s5.at {x:Nat} (hx:x<ends.length):au n (ends.getD x 0)/\(ends.getD x 0/4).toNat∈P/\ ¬(m.getD (ends.getD x 0).toNat 0/4).toNat∈P:=(he.mem _).1 (uY.2 ⟨x,hx,rfl⟩)
include hc bB
theorem OM:(bY ends c).Nodup:=by
 unfold bY;rw [List.nodup_append];refine ⟨he.nd,by simp;omega,fun x hx y hy e=>?_⟩;subst e
 have:=((he.mem x).1 hx).2.1
 have h4:(x/4).toNat=c:=by
  simp only [List.mem_cons,List.not_mem_nil,or_false] at hy;omega
 rw [h4] at this;exact bB this
theorem CP (h:Int):h∈bY ends c↔h∈ends\/(0<=h/\h/4=c):=by
 unfold bY;simp only [List.mem_append,List.mem_cons,List.not_mem_nil,or_false];constructor
 ·rintro (h1|h1)
  ·exact .inl h1
  ·right;omega
 ·rintro (h1|⟨h1,h2⟩)
  ·exact .inl h1
  ·right;omega
theorem yZ {x:Nat} (hx:x<ends.length+4):au n ((bY ends c).getD x 0)/\((bY ends c).getD x 0/4).toNat∈c::P:=by
 have hm:(bY ends c).getD x 0∈bY ends c:=uY.2 ⟨x,by rw [sq];exact hx,rfl⟩;rcases (CP he hc bB _).1 hm with h1|⟨h1,h2⟩
 ·obtain ⟨g1,g2,_⟩:=(he.mem _).1 h1;exact ⟨g1,List.mem_cons_of_mem _ g2⟩
 ·exact ⟨⟨h1,by omega⟩,by rw [h2];simp⟩
include hp
theorem BC {x:Nat} (hx:x<ends.length+4) {y:Int} (h:fD (bY ends c) m x=some y):0<=y/\y<ends.length+4/\(bY ends c).getD y.toNat 0=m.getD ((bY ends c).getD x 0).toNat 0:=by
 unfold fD at h;rw [sq] at h
 have:=Ks _ _ _ _ h
 exact ⟨this.1,by omega,this.2.2⟩
theorem NB {x:Nat} (hx:x<ends.length+4) (h:fD (bY ends c) m x=none):m.getD ((bY ends c).getD x 0).toNat 0∉bY ends c:=by
 unfold fD at h;intro hm;obtain ⟨y,hy,e⟩:=uY.1 hm;exact KT _ _ _ h y hy e
theorem MS {x y:Nat} (hx:x<ends.length+4) (h:fD (bY ends c) m x=some (y:Int)):fD (bY ends c) m y=some (x:Int):=by
 obtain ⟨h1,h2,h3⟩:=BC hp he hc bB hx h;rw [Int.toNat_natCast] at h3;have hr:=(yZ he hc bB hx).1;unfold au at hr
 have:=hp.inv ((bY ends c).getD x 0).toNat (by omega)
 unfold fD;rw [h3,this,Int.toNat_of_nonneg hr.1];exact Vl (OM he hc bB) (by rw [sq];exact hx)
theorem GF {x:Nat} (hx:x<ends.length+4):(bA m ends c).getD x 0=lg (bY ends c) m x:=Sk _ _ _ hx
theorem y9 {x:Nat} (hx:x<ends.length+4):(bA m ends c).getD x 0<0↔fD (bY ends c) m x=none:=by
 rw [GF hp he hc bB hx];unfold lg;cases hq:fD (bY ends c) m x with
 |none=>simp
 |some y=>have:=BC hp he hc bB hx hq;simp;omega
theorem Db {x:Nat} (hx:x<ends.length+4) (h:0<=(bA m ends c).getD x 0): ∃y:Nat,y<ends.length+4/\(bA m ends c).getD x 0=y/\fD (bY ends c) m x=some (y:Int):=by
 rw [GF hp he hc bB hx] at h⊢;unfold lg at h⊢;cases hq:fD (bY ends c) m x with
 |none=>rw [hq] at h;simp at h
 |some y=>
  have:=BC hp he hc bB hx hq
  exact ⟨y.toNat,by omega,by simp;omega,by congr 1;omega⟩
end
section
variable {m:List Int} {n:Nat} {P:List Nat} {ends:List Int} {c:Nat} {T:List Nat} (hp:aE m n) (he:s5 m n P ends) (hT:oX T ends.length)
include hp he hT
theorem GD (ch:Nat->Bool) {x:Nat} (hx:x<ends.length):bST m P ends T ch (ends.getD x 0)=ends.getD (T.getD x 0) 0:=by
 unfold bST;rw [Vl he.nd hx];simp
theorem y8 (ch:Nat->Bool) {h:Int} (hn:h∉ends):bST m P ends T ch h=if (h/4).toNat∈P then m.getD h.toNat 0 else bd (ch (h/4).toNat) h:=by
 unfold bST;rw [NC hn]
theorem Kr (ch:Nat->Bool):Inv2 n (fun x=>m.getD x.toNat 0) (bST m P ends T ch):=by
 have hi:=l6 hp.ok hp.inv hp.ne ch;have key: ∀x,au n x->au n (bST m P ends T ch x)/\bST m P ends T ch (bST m P ends T ch x)=x/\bST m P ends T ch x≠x:=by
  intro x hx;by_cases hm:x∈ends
  ·obtain ⟨k,hk,rfl⟩:=uY.1 hm;rw [GD hp he hT ch hk,GD hp he hT ch (hT.cn k hk),hT.inv k hk];exact ⟨(he.at (hT.cn k hk)).1,rfl,fun e=>hT.ne k hk (Hz he.nd (hT.cn k hk) hk e)⟩
  ·rw [y8 hp he hT ch hm];by_cases hP:(x/4).toNat∈P
   ·rw [if_pos hP];have h1:(m.getD x.toNat 0/4).toNat∈P:=by
     rcases Classical.em ((m.getD x.toNat 0/4).toNat∈P) with h|h
     ·exact h
     ·exact absurd ((he.mem x).2 ⟨hx,hP,h⟩) hm
    have wz:m.getD (m.getD x.toNat 0).toNat 0=x:=hi.mm x hx;have az:m.getD x.toNat 0≠x:=hi.mf x hx;have hr:au n (m.getD x.toNat 0):=hi.mr x hx;refine ⟨hr,?_,az⟩;have h2:m.getD x.toNat 0∉ends:=fun h=>by
     have:=((he.mem _).1 h).2.2
     rw [wz] at this;exact this hP
    rw [y8 hp he hT ch h2,if_pos h1,wz]
   ·rw [if_neg hP];have hr:au n (bd (ch (x/4).toNat) x):=hi.jr x hx;have hd:=xl (ch (x/4).toNat) x;refine ⟨hr,?_,Gm _ x⟩;have h2:bd (ch (x/4).toNat) x∉ends:=fun h=>by
     have:=((he.mem _).1 h).2.1
     rw [hd] at this;exact hP this
    rw [y8 hp he hT ch h2,hd,if_neg hP];exact GU _ x
 exact ⟨hi.mr,fun x hx=>(key x hx).1,hi.mm,fun x hx=>(key x hx).2.1,hi.mf,fun x hx=>(key x hx).2.2⟩
variable (hc:c<n) (bB:c∉P)
include hc bB
theorem GC (ch:Nat->Bool):FV n (ends.length+4) (fun x=>m.getD x.toNat 0) (bST m P ends T ch) (gb ends.length T (ch c)) (fun x=>(bA m ends c).getD x 0) (fun x=>(bY ends c).getD x 0):=by
 have fO: ∀x,x<ends.length+4->gb ends.length T (ch c) x<ends.length+4/\gb ends.length T (ch c) (gb ends.length T (ch c) x)=x/\gb ends.length T (ch c) x≠x:=by
  intro x hx;unfold gb;by_cases h:x<ends.length
  ·have h1:=hT.cn x h;rw [if_pos h,if_pos h1];exact ⟨by omega,hT.inv x h,hT.ne x h⟩
  ·have j:=x9 (ch c) (t:=x-ends.length) (by omega);rw [if_neg h,if_neg (by omega)];rw [Nat.add_sub_cancel_left];refine ⟨by omega,by omega,by omega⟩
 refine ⟨⟨fun x hx=>(fO x hx).1,fun x hx=>(fO x hx).2.1,fun x hx=>(fO x hx).2.2,fun x hx h=>?_,fun x hx h=>?_,fun x hx e=>?_⟩,Kr hp he hT ch,fun x y hx hy e=>Hz (OM he hc bB) (by rw [sq];exact hx) (by rw [sq];exact hy) e,fun x hx=>(yZ he hc bB hx).1,fun x hx h=>?_,fun x hx=>?_⟩
 ·obtain ⟨y,hy,e,_⟩:=Db hp he hc bB hx h;rw [e];omega
 ·obtain ⟨y,hy,e,e2⟩:=Db hp he hc bB hx h;rw [e,Int.toNat_natCast,GF hp he hc bB hy];unfold lg;rw [MS hp he hc bB hx e2];rfl
 ·obtain ⟨y,hy,e1,e2⟩:=Db hp he hc bB hx (by omega);rw [e1] at e
  have:y=x:=by omega
  subst this;have h3:=(BC hp he hc bB hx e2).2.2;have hr:=(yZ he hc bB hx).1;unfold au at hr
  have:=hp.ne ((bY ends c).getD y 0).toNat (by omega)
  rw [Int.toNat_natCast] at h3;omega
 ·obtain ⟨y,hy,e1,e2⟩:=Db hp he hc bB hx h;rw [e1];exact (BC hp he hc bB hx e2).2.2.symm
 ·unfold gb;by_cases h:x<ends.length
  ·rw [if_pos h,Rx _ h,Rx _ (hT.cn x h),GD hp he hT ch h]
  ·obtain ⟨t,rfl⟩: ∃t,x=ends.length+t:=⟨x-ends.length,by omega⟩;have ht:t<4:=by omega
   have j:=x9 (ch c) ht;have e4:((4*(c:Int)+t)/4).toNat=c:=by omega
   rw [if_neg h,Nat.add_sub_cancel_left,Rw _ _ ht,Rw _ _ (by omega)];have hn:4*(c:Int)+t∉ends:=fun g=>by
    have:=((he.mem _).1 g).2.1
    rw [e4] at this;exact bB this
   rw [y8 hp he hT ch hn,e4,if_neg bB,El _ _ ht];omega
end
theorem Sf (hs m:List Int) (j:Nat): ∀d,∃r,bh hs m (j+d)=bh hs m j++r
 |0=>⟨[],by simp⟩
 |d+1=>by
  obtain ⟨r,h⟩:=Sf hs m j d;rw [←Nat.add_assoc];simp only [bh]
  split
  ·exact ⟨r,h⟩
  ·exact ⟨r++[hs.getD (j+d) 0],by rw [h,List.append_assoc]⟩
theorem sA {hs m:List Int} {x k:Nat} (hx:x<k) (h:fD hs m x=none):(bh hs m x).length<(bh hs m k).length/\(bh hs m k).getD (bh hs m x).length 0=hs.getD x 0:=by
 obtain ⟨d,rfl⟩: ∃d,k=x+1+d:=⟨k-x-1,by omega⟩;obtain ⟨r,e⟩:=Sf hs m (x+1) d;have e1:bh hs m (x+1)=bh hs m x++[hs.getD x 0]:=by simp only [bh];rw [h];rfl
 rw [e,e1];refine ⟨by simp only [List.length_append,List.length_cons,List.length_nil];omega,?_⟩;simp [List.getD_eq_getElem?_getD]
theorem vN {hs m:List Int}: ∀(k j:Nat),j<(bh hs m k).length-> ∃x,x<k/\fD hs m x=none/\(bh hs m x).length=j
 |0,j,h=>by simp [bh] at h
 |k+1,j,h=>by
  simp only [bh] at h
  split at h
  ·obtain ⟨x,h1,h2⟩:=vN k j h;exact ⟨x,by omega,h2⟩
  ·rename_i hg
   by_cases hj:j<(bh hs m k).length
   ·obtain ⟨x,h1,h2⟩:=vN k j hj;exact ⟨x,by omega,h2⟩
   ·refine ⟨k,by omega,by simpa using hg,?_⟩;simp only [List.length_append,List.length_cons,List.length_nil] at h;omega
theorem KS {hs m:List Int} {x y:Nat} (hx:fD hs m x=none) (hy:fD hs m y=none) (h:(bh hs m x).length=(bh hs m y).length):x=y:=by
 rcases Nat.lt_trichotomy x y with h1|h1|h1
 ·have:=(sA h1 hx).1;omega
 ·exact h1
 ·have:=(sA h1 hy).1;omega
theorem Se {hs m:List Int} {l:List Bool}: ∀k,k<=l.length->(∀x,x<k->(l.getD x false=true↔fD hs m x≠none))->(bh hs m k).length+(l.take k).count true=k
 |0,_,_=>by simp [bh]
 |k+1,hk,h=>by
  have ih:=Se (l:=l) k (by omega) fun x hx=>h x (by omega);have bN:k<l.length:=by omega
  have h1:=h k (by omega);rw [List.take_add_one,List.getElem?_eq_getElem bN,List.count_append];simp only [List.getD_eq_getElem?_getD,List.getElem?_eq_getElem bN,Option.getD_some] at h1;simp only [bh];cases hq:fD hs m k with
  |none=>
   rw [hq] at h1
   have:l[k]=false:=by cases h2:l[k] with
    |false=>rfl
    |true=>exact absurd rfl (h1.1 h2)
   simp [this];omega
  |some y=>
   rw [hq] at h1
   have:l[k]=true:=h1.2 (by simp)
   simp [this];omega
theorem Zb {l:List Int} (h: ∀i j,i<l.length->j<l.length->l.getD i 0=l.getD j 0->i=j):l.Nodup:=by
 unfold List.Nodup;rw [List.pairwise_iff_getElem];intro i j hi hj eK e
 have:=h i j hi hj (by simp [List.getD_eq_getElem?_getD,hi,hj,e])
 omega
theorem Sd {n:Nat} {mt b b':Int->Int} (hi:Inv2 n mt b) (h: ∀x,au n x->b x=b' x) {x y:Int} (hx:au n x) (hc:aL mt b x y):aL mt b' x y:=by
 induction hc with
 |refl=>exact .refl _
 |aH _ ih=>exact .aH ih
 | @join y hc ih=>rw [h y (hc.cn hi hx)];exact .join ih
theorem y5c {n:Nat} {mt b b':Int->Int} (hi:Inv2 n mt b) (iy:Inv2 n mt b') (h: ∀x,au n x->b x=b' x):ot n mt b=ot n mt b':=by
 have h1:=yT iy;exact zp (yT hi) ⟨h1.rep,fun x y hx hy=>(h1.iff x y hx hy).trans ⟨Sd iy (fun z hz=>(h z hz).symm) (by unfold au;omega),Sd hi h (by unfold au;omega)⟩⟩
theorem Jq {arc:Nat->Nat} {glue index:Nat->Int} {W E:Nat} {en:Nat->Nat}: ∀k,(∀x,x<k->0<=index x->(pthN arc glue (W+1) [] (arc x)).2=en x)->(∀x y,x<k->y<k->0<=index x->index x=index y->x=y)->
  ∀x,x<k->0<=index x->(index x).toNat<E->(txN arc glue index W E k).getD (index x).toNat 0=97+index (en x)
 |0,_,_,x,hx,_,_=>by omega
 |k+1,h1,h2,x,hx,h0,hE=>by
  have ih:=Jq (E:=E) k (fun x hx=>h1 x (by omega)) (fun x y hx hy=>h2 x y (by omega) (by omega));simp only [txN]
  split
  ·rename_i hk
   have:x≠k:=fun e=>by rw [e] at h0;omega
   exact ih x (by omega) h0 hE
  ·rename_i hk
   by_cases e:x=k
   ·subst e;rw [List.getD_eq_getElem?_getD,List.getElem?_set,if_pos rfl,if_pos (by rw [zb];exact hE),h1 x (by omega) h0];rfl
   ·have az:(index k).toNat≠(index x).toNat:=fun e2=>e (h2 x k hx (by omega) h0 (by omega));rw [List.getD_eq_getElem?_getD,List.getElem?_set,if_neg az,←List.getD_eq_getElem?_getD];exact ih x (by omega) h0 hE
theorem Td {W:Nat} {arc:Nat->Nat} {glue:Nat->Int}: ∀k,(∀x,x<k->0<=glue x)->endN W arc glue k=List.replicate W false
 |0,_=>rfl
 |k+1,h=>by simp only [endN];rw [if_pos (h k (by omega))];exact Td k fun x hx=>h x (by omega)
theorem Sc {W:Nat} {arc:Nat->Nat} {glue:Nat->Int} (h0:0<=glue 0): ∀k,1<=(bU W arc glue (List.replicate W false) (k+1)).2
 |0=>by
  have hc: ¬(glue 0<0\/(bU W arc glue (List.replicate W false) 0).1.getD 0 false=true):=by
   rintro (h|h)
   ·omega
   ·simp only [bU] at h;by_cases hW:0<W<;>simp [List.getD_eq_getElem?_getD,hW] at h
  rw [bU,if_neg hc];exact Nat.le_add_left _ _
 |k+1=>by
  have ih:=Sc (W:=W) (arc:=arc) h0 k;rw [bU]
  split
  ·exact ih
  ·omega
section
variable {m:List Int} {n:Nat} {P:List Nat} {ends:List Int} {c:Nat} (hp:aE m n) (he:s5 m n P ends) (hc:c<n) (bB:c∉P)
include hp he hc bB
theorem GB (h:Int):h∈aP m ends c↔ ∃x,x<ends.length+4/\fD (bY ends c) m x=none/\h=(bY ends c).getD x 0:=by
 rw [uY];constructor
 ·rintro ⟨j,hj,rfl⟩;obtain ⟨x,hx,gx,rfl⟩:=vN _ j hj;exact ⟨x,hx,gx,(sA hx gx).2⟩
 ·rintro ⟨x,hx,gx,rfl⟩;exact ⟨_,(sA hx gx).1,(sA hx gx).2⟩
theorem yd {h:Int} (h1:au n h) (h2:(h/4).toNat∈c::P) (h3: ¬(m.getD h.toNat 0/4).toNat∈P\/h/4=c):h∈bY ends c:=by
 rw [CP he hc bB];unfold au at h1;rcases List.mem_cons.1 h2 with e|e
 ·right;exact ⟨h1.1,by omega⟩
 ·rcases h3 with h3|h3
  ·left;exact (he.mem h).2 ⟨by unfold au;omega,e,h3⟩
  ·right;exact ⟨h1.1,h3⟩
theorem Vk:s5 m n (c::P) (aP m ends c):=by
 have hi:=l6 hp.ok hp.inv hp.ne (fun _=>false);refine ⟨Zb fun i j hi hj e=>?_,fun h=>?_⟩
 ·obtain ⟨x,hx,gx,rfl⟩:=vN _ i hi;obtain ⟨y,hy,gy,rfl⟩:=vN _ j hj;rw [(sA hx gx).2,(sA hy gy).2] at e;rw [Hz (OM he hc bB) (by rw [sq];exact hx) (by rw [sq];exact hy) e]
 ·rw [GB hp he hc bB];constructor
  ·rintro ⟨x,hx,gx,rfl⟩;obtain ⟨h1,h2⟩:=yZ he hc bB hx;refine ⟨h1,h2,fun h3=>?_⟩;have h4:=NB hp he hc bB hx gx;have hr:au n (m.getD ((bY ends c).getD x 0).toNat 0):=hi.mr _ h1;have rO:m.getD (m.getD ((bY ends c).getD x 0).toNat 0).toNat 0=(bY ends c).getD x 0:=hi.mm _ h1;refine h4 (yd hp he hc bB hr h3 ?_);rw [rO];by_cases h5:((bY ends c).getD x 0/4).toNat∈P
   ·right;have hm:(bY ends c).getD x 0∈bY ends c:=uY.2 ⟨x,by rw [sq];exact hx,rfl⟩;rcases (CP he hc bB _).1 hm with h6|⟨h6,h7⟩
    ·have h8:=((he.mem _).1 h6).2.2;rcases List.mem_cons.1 h3 with e|e
     ·unfold au at hr;omega
     ·exact absurd e h8
    ·rw [h7] at h5;exact absurd h5 bB
   ·exact .inl h5
  ·rintro ⟨h1,h2,h3⟩;have hm:h∈bY ends c:=yd hp he hc bB h1 h2 (.inl fun g=>h3 (List.mem_cons_of_mem _ g));obtain ⟨x,hx,rfl⟩:=uY.1 hm;rw [sq] at hx;refine ⟨x,hx,?_,rfl⟩;cases hq:fD (bY ends c) m x with
   |none=>rfl
   |some y=>
    obtain ⟨g1,g2,g3⟩:=BC hp he hc bB hx hq
    have:=(yZ he hc bB (x:=y.toNat) (by omega)).2
    rw [g3] at this;exact absurd this h3
theorem Jp {x:Nat} (hx:x<ends.length+4):(dx m ends c).getD x 0=if (fD (bY ends c) m x).isSome then-1 else ((bh (bY ends c) m x).length:Int):=Sk _ _ _ hx
theorem vT {x:Nat} (hx:x<ends.length+4) (h:fD (bY ends c) m x=none):(dx m ends c).getD x 0=(bh (bY ends c) m x).length:=by rw [Jp hp he hc bB hx,h];rfl
theorem Rv {x:Nat} (hx:x<ends.length+4):(dx m ends c).getD x 0<0↔fD (bY ends c) m x≠none:=by
 rw [Jp hp he hc bB hx];cases fD (bY ends c) m x<;>simp
theorem Ru:(aP m ends c).length<=ends.length+4:=KV _ _ _
end
def dG (m ends:List Int) (c:Nat) (T:List Nat) (b:Bool):List Nat:=
 (txN (gb ends.length T b) (fun x=>(bA m ends c).getD x 0) (fun x=>(dx m ends c).getD x 0) (ends.length+4) (aP m ends c).length (ends.length+4)).map fun t=>(t-97).toNat
def c6 (m ends:List Int) (c:Nat) (T:List Nat) (b:Bool):Nat:=
 (bU (ends.length+4) (gb ends.length T b) (fun x=>(bA m ends c).getD x 0) (endN (ends.length+4) (gb ends.length T b) (fun x=>(bA m ends c).getD x 0) (ends.length+4)) (ends.length+4)).2
theorem CO (m ends:List Int) (c:Nat) (T:List Nat) (b:Bool):c6 m ends c T b<=ends.length+4:=Kd _ _ _ _ _
theorem NA (m ends:List Int) (c:Nat) (T:List Nat) (b:Bool):(dG m ends c T b).length=(aP m ends c).length:=by unfold dG;rw [List.length_map,zb]
section
variable {m:List Int} {n:Nat} {P:List Nat} {ends:List Int} {c:Nat} {T:List Nat} (hp:aE m n) (he:s5 m n P ends) (hT:oX T ends.length) (hc:c<n) (bB:c∉P)
include hp he hT hc bB
theorem y5e (ch:Nat->Bool):(∀k,k<ends.length+4->(bA m ends c).getD k 0<0-> ∃ys e,lr (gb ends.length T (ch c)) (fun x=>(bA m ends c).getD x 0) k ys e/\ys.length<=ends.length+4)/\
  (∀k,k<ends.length+4->0<=(bA m ends c).getD k 0->(bU (ends.length+4) (gb ends.length T (ch c)) (fun x=>(bA m ends c).getD x 0) (endN (ends.length+4) (gb ends.length T (ch c)) (fun x=>(bA m ends c).getD x 0) (ends.length+4)) k).1.getD k false=false->
   ∃zs,vG (gb ends.length T (ch c)) (fun x=>(bA m ends c).getD x 0) (bU (ends.length+4) (gb ends.length T (ch c)) (fun x=>(bA m ends c).getD x 0) (endN (ends.length+4) (gb ends.length T (ch c)) (fun x=>(bA m ends c).getD x 0) (ends.length+4)) k).1 k zs/\zs.length<=ends.length+4):=by
 obtain ⟨b,_,_,_,h4,h5,_⟩:=KU (GC hp he hT hc bB ch);exact ⟨fun k hk hg=>let ⟨ys,e,q1,q2,_⟩:=h4 k hk hg;⟨ys,e,q1,q2⟩,h5⟩
theorem DI (b:Bool) (j:Nat) (hj:j<(aP m ends c).length):97<=(txN (gb ends.length T b) (fun x=>(bA m ends c).getD x 0) (fun x=>(dx m ends c).getD x 0) (ends.length+4) (aP m ends c).length (ends.length+4)).getD j 0:=by
 obtain ⟨_,_,_,_,h4,_⟩:=KU (GC hp he hT hc bB fun _=>b);obtain ⟨x,hx,hg,rfl⟩:=vN _ j hj;have tQ: ∀x,x<ends.length+4->0<=(dx m ends c).getD x 0->fD (bY ends c) m x=none:=fun x hx h0=>by
  cases hq:fD (bY ends c) m x with
  |none=>rfl
  |some y=>have:=(Rv hp he hc bB hx).2 (by rw [hq];simp);omega
 obtain ⟨ys,e,q1,q2,q3,q4,q5⟩:=h4 x hx ((y9 hp he hc bB hx).2 hg);have hi:=vT hp he hc bB hx hg;have vy:=vT hp he hc bB q3 ((y9 hp he hc bB q3).1 q4)
 have:=Jq (arc:=gb ends.length T b) (glue:=fun x=>(bA m ends c).getD x 0) (index:=fun x=>(dx m ends c).getD x 0) (W:=ends.length+4) (E:=(aP m ends c).length) (en:=fun x=>(pthN (gb ends.length T b) (fun x=>(bA m ends c).getD x 0) (ends.length+4+1) [] (gb ends.length T b x)).2) (ends.length+4) (fun _ _ _=>rfl) (fun x y hx hy h0 e=>by
  have gx:=tQ x hx h0;have gy:=tQ y hy (by omega);rw [vT hp he hc bB hx gx,vT hp he hc bB hy gy] at e;exact KS gx gy (by omega)) x hx (by omega) (by rw [hi,Int.toNat_natCast];exact hj)
 rw [BI q1 _ [] (by omega),hi,vy,Int.toNat_natCast] at this;omega
theorem vS (ch:Nat->Bool):oX (dG m ends c T (ch c)) (aP m ends c).length/\
  2*ot n (fun x=>m.getD x.toNat 0) (bST m (c::P) (aP m ends c) (dG m ends c T (ch c)) ch)+2*c6 m ends c T (ch c)+(aP m ends c).length=2*ot n (fun x=>m.getD x.toNat 0) (bST m P ends T ch)+ends.length+4:=by
 have E:=GC hp he hT hc bB ch;obtain ⟨b,h1,h2,h3,h4,_,g,h6,h7,h8⟩:=KU E;have Qa:=Vk hp he hc bB;have rR:=fun {x:Nat} (hx:x<ends.length+4)=>y9 hp he hc bB hx
 have P9: ∀x,x<ends.length+4->fD (bY ends c) m x=none-> ∃e,e<ends.length+4/\fD (bY ends c) m e=none/\(pthN (gb ends.length T (ch c)) (fun x=>(bA m ends c).getD x 0) (ends.length+4+1) [] (gb ends.length T (ch c) x)).2=e/\b ((bY ends c).getD x 0)=(bY ends c).getD e 0:=fun x hx hg=>by
  obtain ⟨ys,e,q1,q2,q3,q4,q5⟩:=h4 x hx ((rR hx).2 hg);exact ⟨e,q3,(rR q3).1 q4,by rw [BI q1 _ [] (by omega)],q5⟩
 have tQ: ∀x,x<ends.length+4->0<=(dx m ends c).getD x 0->fD (bY ends c) m x=none:=fun x hx h0=>by
  cases hq:fD (bY ends c) m x with
  |none=>rfl
  |some y=>have:=(Rv hp he hc bB hx).2 (by rw [hq];simp);omega
 have yg: ∀x,x<ends.length+4->fD (bY ends c) m x=none-> ∃e,e<ends.length+4/\fD (bY ends c) m e=none/\b ((bY ends c).getD x 0)=(bY ends c).getD e 0/\(dG m ends c T (ch c)).getD (bh (bY ends c) m x).length 0=(bh (bY ends c) m e).length:=fun x hx hg=>by
  obtain ⟨e,q1,q2,q3,q4⟩:=P9 x hx hg;have hi:=vT hp he hc bB hx hg;have vy:=vT hp he hc bB q1 q2;have hl:=(sA hx hg).1;refine ⟨e,q1,q2,q4,?_⟩
  have:=Jq (arc:=gb ends.length T (ch c)) (glue:=fun x=>(bA m ends c).getD x 0) (index:=fun x=>(dx m ends c).getD x 0) (W:=ends.length+4) (E:=(aP m ends c).length) (en:=fun x=>(pthN (gb ends.length T (ch c)) (fun x=>(bA m ends c).getD x 0) (ends.length+4+1) [] (gb ends.length T (ch c) x)).2) (ends.length+4) (fun _ _ _=>rfl) (fun x y hx hy h0 e=>by
   have gx:=tQ x hx h0;have gy:=tQ y hy (by omega);rw [vT hp he hc bB hx gx,vT hp he hc bB hy gy] at e;exact KS gx gy (by omega)) x hx (by omega) (by rw [hi,Int.toNat_natCast];exact hl)
  rw [q3,hi,vy,Int.toNat_natCast] at this;unfold dG;rw [List.getD_eq_getElem?_getD,List.getElem?_map];rw [List.getD_eq_getElem?_getD] at this;have aG:(bh (bY ends c) m x).length<(txN (gb ends.length T (ch c)) (fun x=>(bA m ends c).getD x 0) (fun x=>(dx m ends c).getD x 0) (ends.length+4) (aP m ends c).length (ends.length+4)).length:=by rw [zb];exact hl
  rw [List.getElem?_eq_getElem aG] at this⊢;simp only [Option.getD_some,Option.map_some] at this⊢;rw [this];omega
 have vn:=fun {x:Nat} (hx:x<ends.length+4)=>(yZ he hc bB hx).1;have qN:oX (dG m ends c T (ch c)) (aP m ends c).length:=by
  refine ⟨NA _ _ _ _ _,fun j hj=>?_,fun j hj=>?_,fun j hj e=>?_⟩
  ·obtain ⟨x,hx,gx,rfl⟩:=vN _ j hj;obtain ⟨e,q1,q2,q3,q4⟩:=yg x hx gx;rw [q4];exact (sA q1 q2).1
  ·obtain ⟨x,hx,gx,rfl⟩:=vN _ j hj;obtain ⟨e,q1,q2,q3,q4⟩:=yg x hx gx;obtain ⟨e',p1,p2,p3,p4⟩:=yg e q1 q2;rw [q4,p4];rw [←q3,h1.jj _ (vn hx)] at p3;rw [E.inj x e' hx p1 p3]
  ·obtain ⟨x,hx,gx,rfl⟩:=vN _ j hj;obtain ⟨e',q1,q2,q3,q4⟩:=yg x hx gx;rw [q4] at e
   have:=KS q2 gx e
   rw [this] at q3;exact h1.jf _ (vn hx) q3
 refine ⟨qN,?_⟩;have hb: ∀h,au n h->bST m (c::P) (aP m ends c) (dG m ends c T (ch c)) ch h=b h:=fun h hr=>by
  by_cases hm:h∈aP m ends c
  ·obtain ⟨x,hx,gx,rfl⟩:=(GB hp he hc bB h).1 hm;obtain ⟨e,q1,q2,q3,q4⟩:=yg x hx gx;have g1:=sA hx gx
   have:=GD hp Qa qN ch g1.1
   rw [g1.2,q4,(sA q1 q2).2] at this;rw [this,q3]
  ·rw [y8 hp Qa qN ch hm];by_cases hh:h∈bY ends c
   ·obtain ⟨x,hx,rfl⟩:=uY.1 hh;rw [sq] at hx;rw [if_pos (yZ he hc bB hx).2];refine (h3 x hx ?_).symm;rcases Int.lt_or_le ((bA m ends c).getD x 0) 0 with q|q
    ·exact absurd ((GB hp he hc bB _).2 ⟨x,hx,(rR hx).1 q,rfl⟩) hm
    ·exact q
   ·have h9:b h=bST m P ends T ch h:=h2 h hr fun x hx e=>hh (uY.2 ⟨x,by rw [sq];exact hx,e.symm⟩);have QI:h∉ends:=fun g=>hh ((CP he hc bB h).2 (.inl g));have Az:(h/4).toNat≠c:=fun e=>hh ((CP he hc bB h).2 (.inr ⟨hr.1,by have:=hr.1;omega⟩));rw [h9,y8 hp he hT ch QI];by_cases h12:(h/4).toNat∈P
    ·rw [if_pos h12,if_pos (List.mem_cons_of_mem _ h12)]
    ·rw [if_neg h12,if_neg fun g=>by rcases List.mem_cons.1 g with e|e;exact Az e;exact h12 e]
 rw [y5c (Kr hp Qa qN ch) h1 hb];have cL:(bU (ends.length+4) (gb ends.length T (ch c)) (fun x=>(bA m ends c).getD x 0) (endN (ends.length+4) (gb ends.length T (ch c)) (fun x=>(bA m ends c).getD x 0) (ends.length+4)) (ends.length+4)).1.length=ends.length+4:=by rw [Hh,Hi]
 have jN:=Se (hs:=bY ends c) (m:=m) (l:=(bU (ends.length+4) (gb ends.length T (ch c)) (fun x=>(bA m ends c).getD x 0) (endN (ends.length+4) (gb ends.length T (ch c)) (fun x=>(bA m ends c).getD x 0) (ends.length+4)) (ends.length+4)).1) (ends.length+4) (by omega) fun x hx=>by
  rw [h8 x hx];constructor
  ·intro h e;have:=(rR hx).2 e;omega
  ·intro h;rcases Int.lt_or_le ((bA m ends c).getD x 0) 0 with q|q
   ·exact absurd ((rR hx).1 q) h
   ·exact q
 rw [List.take_of_length_le (by omega),←h7] at jN;unfold c6
 have:(aP m ends c).length+g=ends.length+4:=jN
 omega
theorem Vj (b:Bool) (h0:aP m ends c=[]):1<=c6 m ends c T b:=by
 have hg: ∀x,x<ends.length+4->0<=(bA m ends c).getD x 0:=fun x hx=>by
  rcases Int.lt_or_le ((bA m ends c).getD x 0) 0 with q|q
  ·have:=(GB hp he hc bB _).2 ⟨x,hx,(y9 hp he hc bB hx).1 q,rfl⟩
   rw [h0] at this;simp at this
  ·exact q
 unfold c6;rw [Td _ hg];exact Sc (hg 0 (by omega)) (ends.length+3)
end
theorem GA {m:List Int} {n:Nat} {P:List Nat} {ends:List Int} (hp:aE m n) (he:s5 m n P ends) (hP: ∀c,c<n->c∈P):ends=[]:=by
 match ends,he with
 |[],_=>rfl
 |h::t,he=>
  obtain ⟨h1,_,h3⟩:=(he.mem h).1 (List.mem_cons_self ..);have hr:au n (m.getD h.toNat 0):=(l6 hp.ok hp.inv hp.ne (fun _=>false)).mr _ h1;unfold au at hr;exact absurd (hP _ (by omega)) h3
theorem Jo {k i:Nat} (h:k<2^i):cA k i=false:=by unfold cA;rw [Nat.div_eq_of_lt h];rfl
theorem Rt {k i c:Nat} (hc:c<i):cA (2^i+k) c=cA k c:=by
 unfold cA;obtain ⟨d,rfl⟩: ∃d,i=c+(d+1):=⟨i-c-1,by omega⟩;rw [Nat.pow_add,Nat.mul_add_div (Nat.pow_pos (by omega)),Nat.pow_succ];congr 1;omega
theorem Kq {k i:Nat} (h:k<2^i):cA (2^i+k) i=true:=by
 unfold cA
 have:=Nat.mul_add_div (m:=2^i) (Nat.pow_pos (by omega)) 1 k
 rw [Nat.mul_one,Nat.div_eq_of_lt h] at this;rw [this];rfl
theorem Jn {l k:List Nat} (hn:l.Nodup) (Q:Nat->Nat->Prop) (h: ∀x∈l,∃y∈k,Q x y) (hi: ∀x x' y,x∈l->x'∈l->Q x y->Q x' y->x=x'):l.length<=k.length:=by
 have hc: ∀x:Nat,∃y,x∈l->y∈k/\Q x y:=fun x=>by
  by_cases hx:x∈l
  ·obtain ⟨y,h1,h2⟩:=h x hx;exact ⟨y,fun _=>⟨h1,h2⟩⟩
  ·exact ⟨0,fun h=>absurd h hx⟩
 have hf:=fun x=>Classical.choose_spec (hc x)
 have:l.length=(l.map fun x=>Classical.choose (hc x)).length:=by simp
 rw [this];refine te (HT (fun x hx y hy e=>?_) hn) fun y hy=>?_
 ·have a:=(hf x hx).2;have b:=(hf y hy).2;rw [e] at a;exact hi x y _ hx hy a b
 ·obtain ⟨x,hx,rfl⟩:=List.mem_map.1 hy;exact (hf x hx).1
theorem Kp (f:Nat->Int) (a:Nat): ∀b,sm f (a*b)=sm (fun k2=>sm (fun k1=>f (a*k2+k1)) a) b
 |0=>rfl
 |b+1=>by rw [Nat.mul_succ,Dn,Kp f a b];rfl
theorem Ko {k1 k2 i c:Nat} (hc:c<i):cA (2^i*k2+k1) c=cA k1 c:=by
 unfold cA;obtain ⟨d,rfl⟩: ∃d,i=c+(d+1):=⟨i-c-1,by omega⟩;rw [Nat.pow_add,Nat.mul_assoc,Nat.mul_add_div (Nat.pow_pos (by omega)),Nat.pow_succ,Nat.mul_comm (2^d) 2,Nat.mul_assoc,Nat.mul_add_mod]
theorem Vi {k1 k2 i c:Nat} (h:k1<2^i):cA (2^i*k2+k1) (i+c)=cA k2 c:=by
 unfold cA;rw [Nat.pow_add,←Nat.div_div_eq_div_mul,Nat.mul_add_div (Nat.pow_pos (by omega)),Nat.div_eq_of_lt h,Nat.add_zero]
theorem B5 {b:Bool} {ch ch':Nat->Bool}: ∀{n:Nat},(∀c,c<n->ch c=ch' c)->difS b ch n=difS b ch' n
 |0,_=>rfl
 |n+1,h=>by simp only [difS];rw [B5 fun c hc=>h c (by omega),h n (by omega)]
theorem Sb (b:Bool) (ch:Nat->Bool) (n1:Nat): ∀n2,difS b ch (n1+n2)=difS b ch n1+difS b (fun c=>ch (n1+c)) n2
 |0=>rfl
 |n2+1=>by rw [←Nat.add_assoc];simp only [difS];rw [Sb b ch n1 n2];omega
theorem Za {k1 k2 n1 n2:Nat} (h:k1<2^n1):jm (2^n1*k2+k1) (n1+n2)=jm k1 n1+jm k2 n2:=by
 rw [tb,tb,tb,Sb,B5 fun c hc=>Ko hc,B5 (n:=n2) fun c _=>Vi h]
theorem B0 {f g:Int->Int} (h: ∀e,f e=g e) (e:Int):cS f e=cS g e:=by simp only [cS,h]
theorem tc {f g:Int->Int} (h: ∀e,f e=g e): ∀i e,dmn i f e=dmn i g e
 |0,e=>h e
 |i+1,e=>B0 (tc h i) e
theorem KR (f:Int->Int) (j:Nat): ∀i e,dmn i (dmn j f) e=dmn (i+j) f e
 |0,e=>by rw [Nat.zero_add];rfl
 |i+1,e=>by rw [Nat.add_right_comm];exact B0 (KR f j i) e
theorem Tc (f:Int->Int) (a:Int): ∀i e,dmn i (fun x=>f (x-a)) e=dmn i f (e-a)
 |0,e=>rfl
 |i+1,e=>by
  simp only [dmn,cS,Tc f a i];rw [show e+2-a=e-a+2 by omega,show e-2-a=e-a-2 by omega]
theorem Sa: ∀i e,dmn i (fun _=>0) e=0
 |0,_=>rfl
 |i+1,e=>by simp only [dmn,cS,Sa i];rfl
theorem Gz: ∀i e,dmn i (fun x=>if x=0 then 1 else 0) e=dpw i e
 |0,_=>rfl
 |i+1,e=>B0 (Gz i) e
def lB (ch:Nat->Bool) (c:Nat) (b:Bool):Nat->Bool:=fun x=>if x=c then b else ch x
def psm (F:(Nat->Bool)->Int):List Nat->(Nat->Bool)->Int
 |[],ch=>F ch
 |c::r,ch=>psm F r (lB ch c false)+psm F r (lB ch c true)
theorem Tb {F G:(Nat->Bool)->Int}: ∀(r:List Nat) (ch:Nat->Bool),(∀ch',(∀x,x∉r->ch' x=ch x)->F ch'=G ch')->psm F r ch=psm G r ch
 |[],ch,h=>h ch fun _ _=>rfl
 |c::r,ch,h=>by
  have key: ∀b,psm F r (lB ch c b)=psm G r (lB ch c b):=fun b=>Tb r _ fun ch' h'=>h ch' fun x hx=>by
   rw [h' x fun g=>hx (List.mem_cons_of_mem _ g)];exact if_neg fun (e:x=c)=>hx (by rw [e];exact List.mem_cons_self ..)
  simp only [psm,key]
theorem He (ch:Nat->Bool) {x y:Nat} (h:x≠y) (a b:Bool):lB (lB ch y a) x b=lB (lB ch x b) y a:=by
 funext z;unfold lB;by_cases e1:z=x
 ·subst e1;simp [h]
 ·simp [e1]
theorem Y9 (F:(Nat->Bool)->Int) {l k:List Nat} (h:l.Perm k): ∀ch,psm F l ch=psm F k ch:=by
 induction h with
 |nil=>exact fun _=>rfl
 |cons x _ ih=>exact fun ch=>by simp only [psm,ih]
 |swap x y l=>
  intro ch;by_cases e:x=y
  ·rw [e]
  ·simp only [psm];rw [He ch e false false,He ch e false true,He ch e true false,He ch e true true];omega
 |trans _ _ h1 h2=>exact fun ch=>(h1 ch).trans (h2 ch)
def dtL:Nat->List Nat
 |0=>[]
 |n+1=>n::dtL n
theorem Da {c:Nat}: ∀{n:Nat},c∈dtL n↔c<n
 |0=>by simp [dtL]
 |n+1=>by simp only [dtL,List.mem_cons,Da (n:=n)];omega
theorem Vh: ∀n,(dtL n).Nodup
 |0=>by simp [dtL]
 |n+1=>by
  simp only [dtL,List.nodup_cons];exact ⟨fun h=>by have:=Da.1 h;omega,Vh n⟩
theorem Rs: ∀n,(dtL n).length=n
 |0=>rfl
 |n+1=>by simp [dtL,Rs n]
theorem Jm (F:(Nat->Bool)->Int): ∀(i:Nat) (ch:Nat->Bool),psm F (dtL i) ch=sm (fun k=>F (fun c=>if c<i then cA k c else ch c)) (2^i)
 |0,ch=>by simp only [dtL,psm,Nat.pow_zero,sm,Int.zero_add];congr 1
 |i+1,ch=>by
  simp only [dtL,psm];rw [Jm F i,Jm F i,Nat.pow_succ,Nat.mul_two,Dn];congr 1
  ·refine dO fun k hk=>?_;congr 1;funext c;by_cases e:c=i
   ·subst e;rw [if_neg (by omega),if_pos (by omega),Jo hk];simp [lB]
   ·by_cases e2:c<i
    ·rw [if_pos e2,if_pos (by omega)]
    ·rw [if_neg e2,if_neg (by omega)];simp [lB,e]
  ·refine dO fun k hk=>?_;congr 1;funext c;by_cases e:c=i
   ·subst e;rw [if_neg (by omega),if_pos (by omega),Kq hk];simp [lB]
   ·by_cases e2:c<i
    ·rw [if_pos e2,if_pos (by omega),Rt e2]
    ·rw [if_neg e2,if_neg (by omega)];simp [lB,e]
theorem Rr {l:List Nat} {n:Nat} (hn:l.Nodup) (hl:l.length=n) (hr: ∀c∈l,c<n):l.Perm (dtL n):=by
 refine (List.perm_ext_iff_of_nodup hn (Vh n)).2 fun a=>⟨fun h=>Da.2 (hr a h),fun h=>?_⟩;by_cases hm:a∈l
 ·exact hm
 ·exfalso;have h2:=te (l:=a::l) (k:=dtL n) (List.nodup_cons.2 ⟨hm,hn⟩) fun y hy=>by
   rcases List.mem_cons.1 hy with rfl|hy
   ·exact h
   ·exact Da.2 (hr y hy)
  rw [Rs] at h2;simp at h2;omega
def yK (b:Bool):Int:=if b then-1 else 1
def wL (r:List Nat) (ch:Nat->Bool):Int:=(r.map fun c=>yK (ch c)).sum
theorem Nz {l k:List Nat} (h:l.Perm k) (ch:Nat->Bool):wL l ch=wL k ch:=KX (h.map _)
theorem xH (ch:Nat->Bool): ∀n,wL (dtL n) ch=n-2*(difS false ch n:Int)
 |0=>rfl
 |n+1=>by
  have:=xH ch n
  have e:wL (dtL (n+1)) ch=yK (ch n)+wL (dtL n) ch:=rfl;rw [e,this];simp only [difS,yK];cases ch n<;>simp<;>omega
def spN:List Nat->Nat
 |[]=>1
 |_::_=>0
def finR (m:List Int):List Nat->List Int->List Nat->(Int->Int)->Int->Int
 |[],_,_,f=>f
 |c::r,ends,T,f=>fun e=>
  finR m r (aP m ends c) (dG m ends c T false) (dmn (c6 m ends c T false-spN r) (fun e=>f (e-1))) e+
  finR m r (aP m ends c) (dG m ends c T true) (dmn (c6 m ends c T true-spN r) (fun e=>f (e- -1))) e
theorem u7 (m:List Int): ∀(r:List Nat) (ends:List Int) (T:List Nat) {f g:Int->Int},(∀e,f e=g e)-> ∀e,finR m r ends T f e=finR m r ends T g e
 |[],_,_,f,g,h,e=>h e
 |c::r,ends,T,f,g,h,e=>by
  simp only [finR];rw [u7 m r _ _ (tc (fun x=>h (x-1)) _),u7 m r _ _ (tc (fun x=>h (x- -1)) _)]
theorem KQ (m:List Int): ∀(r:List Nat) (ends:List Int) (T:List Nat) (f g:Int->Int) (e:Int),finR m r ends T (fun x=>f x+g x) e=finR m r ends T f e+finR m r ends T g e
 |[],_,_,f,g,e=>rfl
 |c::r,ends,T,f,g,e=>by
  simp only [finR];rw [u7 m r _ _ (GM (fun x=>f (x-1)) (fun x=>g (x-1)) _),u7 m r _ _ (GM (fun x=>f (x- -1)) (fun x=>g (x- -1)) _),KQ m r,KQ m r];omega
def nQ (m:List Int) (n:Nat) (P:List Nat) (ends:List Int) (T:List Nat) (r:List Nat) (ch:Nat->Bool):Nat:=(2*ot n (fun x=>m.getD x.toNat 0) (bST m P ends T ch)+ends.length+4*r.length-4*n)/2
theorem MR {n:Nat} {mt b:Int->Int} (hi:Inv2 n mt b) (h: ∀x,au n x->b x=mt x):ot n mt b=2*n:=by
 have hR:=yT hi;unfold ot;generalize crN mt b (4*n) (4*n)=R at*;have hc: ∀(x y:Int),au n x->aL mt b x y->y=x\/y=mt x:=fun x y hx hc=>by
  induction hc with
  |refl=>exact .inl rfl
  |aH _ ih=>rcases ih with e|e<;>rw [e];exact .inr rfl;exact .inl (hi.mm _ hx)
  |join hc ih=>
   rw [h _ (hc.cn hi hx)];rcases ih with e|e<;>rw [e];exact .inr rfl;exact .inl (hi.mm _ hx)
 have Cw: ∀x:Nat,x<4*n->au n x:=fun x hx=>by unfold au;omega
 have oK: ∀x:Nat,x<4*n->(mt x).toNat<4*n/\((mt x).toNat:Int)=mt x:=fun x hx=>by have:=hi.mr _ (Cw x hx);unfold au at this;omega
 have Pr: ∀x:Nat,x<4*n->(if R.getD x 0==(x:Int) then (1:Int) else 0)+(if R.getD (mt x).toNat 0==((mt x).toNat:Int) then 1 else 0)=1:=fun x hx=>by
  obtain ⟨a1,a2⟩:=oK x hx;have wz:R.getD (mt x).toNat 0=R.getD x 0:=by
   refine (hR.iff _ _ a1 hx).2 ?_;rw [a2]
   have:=aL.aH (mt:=mt) (jn:=b) (aL.refl (mt x))
   rw [hi.mm _ (Cw x hx)] at this;exact this
  have Ip:=hR.rep.cn x hx;have hid:=hR.rep.idem x hx;have h1:=hc x _ (Cw x hx) ((hR.iff x (R.getD x 0).toNat hx (by omega)).1 hid.symm);have az:=hi.mf _ (Cw x hx);rw [Int.toNat_of_nonneg Ip.1] at h1;rw [wz,a2];rcases h1 with e|e
  ·rw [e,if_pos (by simp),if_neg (by simp;exact fun e=>az e.symm)];rfl
  ·rw [e,if_neg (by simp;exact az),if_pos (by simp)];rfl
 unfold roots;rw [hR.rep.len];have h2:=B1 (fun x=>R.getD x 0==(x:Int)) (4*n);have h3:=xr (fun x=>if R.getD x 0==(x:Int) then (1:Int) else 0) (N:=4*n) (fun x=>(mt x).toNat) (fun x hx=>(oK x hx).1) fun x y hx hy e=>by
  have h1:=oK x hx;have h2:=oK y hy
  have:mt x=mt y:=by have e':(mt x).toNat=(mt y).toNat:=e;omega
  have:=congrArg mt this
  rw [hi.mm _ (Cw x hx),hi.mm _ (Cw y hy)] at this;omega
 have h4:=nH (fun x=>if R.getD x 0==(x:Int) then (1:Int) else 0) (fun x=>if R.getD (mt x).toNat 0==((mt x).toNat:Int) then (1:Int) else 0) (4*n);rw [dO (g:=fun _=>1) Pr,k8] at h4;omega
structure sa (m:List Int) (n:Nat) (P:List Nat) (ends:List Int) (r:List Nat):Prop where
 he:s5 m n P ends
 nd:r.Nodup
 dj: ∀c∈r,c∉P/\c<n
 al: ∀c,c<n->c∈P\/c∈r
section
variable {m:List Int} {n:Nat} (hp:aE m n)
include hp
theorem sa.step {P:List Nat} {ends:List Int} {c:Nat} {r:List Nat} (h:sa m n P ends (c::r)):sa m n (c::P) (aP m ends c) r:=by
 have h1:=h.dj c (List.mem_cons_self ..);have h2:=List.nodup_cons.1 h.nd;refine ⟨Vk hp h.he h1.2 h1.1,h2.2,fun x hx=>?_,fun x hx=>?_⟩
 ·have h3:=h.dj x (List.mem_cons_of_mem _ hx);refine ⟨fun g=>?_,h3.2⟩;rcases List.mem_cons.1 g with e|e
  ·rw [e] at hx;exact h2.1 hx
  ·exact h3.1 e
 ·rcases h.al x hx with g|g
  ·exact .inl (List.mem_cons_of_mem _ g)
  ·rcases List.mem_cons.1 g with e|e
   ·rw [e];exact .inl (List.mem_cons_self ..)
   ·exact .inr e
omit hp in
theorem sa.init {r:List Nat} (hn:r.Nodup) (hl:r.length=n) (hr: ∀c∈r,c<n):sa m n [] [] r:=
 ⟨⟨by simp,by simp⟩,hn,fun c hc=>⟨by simp,hr c hc⟩,fun c hc=> .inr ((Rr hn hl hr).mem_iff.2 (Da.2 hc))⟩
theorem BG: ∀(r:List Nat) (P:List Nat) (ends:List Int) (T:List Nat),sa m n P ends r->oX T ends.length-> ∀ch:Nat->Bool,
  2*nQ m n P ends T r ch+4*n=2*ot n (fun x=>m.getD x.toNat 0) (bST m P ends T ch)+ends.length+4*r.length/\(r≠[]->1<=nQ m n P ends T r ch)/\(r=[]->nQ m n P ends T r ch=0)/\
  ∀c r',r=c::r'->nQ m n P ends T r ch=nQ m n (c::P) (aP m ends c) (dG m ends c T (ch c)) r' ch+c6 m ends c T (ch c)
 |[],P,ends,T,h,hT,ch=>by
  have h0:=GA hp h.he fun c hc=>by rcases h.al c hc with g|g;exact g;simp at g
  subst h0;have h1:=MR (Kr hp h.he hT ch) fun x hx=>by
   rw [y8 hp h.he hT ch (by simp)];exact if_pos (by
    rcases h.al (x/4).toNat (by unfold au at hx;omega) with g|g
    ·exact g
    ·simp at g)
  unfold nQ;rw [h1];refine ⟨by simp only [List.length_nil];omega,fun h=>absurd rfl h,fun _=>by simp only [List.length_nil];omega,fun c r' e=>by simp at e⟩
 |c::r,P,ends,T,h,hT,ch=>by
  have h1:=h.dj c (List.mem_cons_self ..);have hs:=h.step hp;obtain ⟨q1,q2⟩:=vS hp h.he hT h1.2 h1.1 ch;obtain ⟨k1,k2,k3,_⟩:=BG r _ _ _ hs q1 ch;have key:2*ot n (fun x=>m.getD x.toNat 0) (bST m P ends T ch)+ends.length+4*(c::r).length=2*(nQ m n (c::P) (aP m ends c) (dG m ends c T (ch c)) r ch+c6 m ends c T (ch c))+4*n:=by
   simp only [List.length_cons];omega
  have e:nQ m n P ends T (c::r) ch=nQ m n (c::P) (aP m ends c) (dG m ends c T (ch c)) r ch+c6 m ends c T (ch c):=by
   conv=>lhs;unfold nQ
   rw [key];omega
  refine ⟨by rw [key,e],fun _=>?_,fun h=>by simp at h,fun c' r' e'=>by cases e';exact e⟩;cases r with
  |nil=>
   have h0:=GA hp hs.he fun c hc=>by rcases hs.al c hc with g|g;exact g;simp at g
   have:=Vj hp h.he hT h1.2 h1.1 (ch c) h0
   omega
  |cons x r=>have:=k2 (by simp);omega
def B8:List Nat->Nat
 |[]=>0
 |_::_=>1
theorem R9: ∀(r:List Nat) (P:List Nat) (ends:List Int) (T:List Nat),sa m n P ends r->oX T ends.length-> ∀(f:Int->Int) (e:Int) (CE:Nat->Bool),
  finR m r ends T f e=psm (fun ch=>dmn (nQ m n P ends T r ch-B8 r) f (e-wL r ch)) r CE
 |[],P,ends,T,h,hT,f,e,CE=>by
  have:=(BG hp [] P ends T h hT CE).2.2.1 rfl
  simp only [finR,psm,B8,this,wL,List.map_nil,List.sum_nil,Int.sub_zero];rfl
 |c::r,P,ends,T,h,hT,f,e,CE=>by
  have h1:=h.dj c (List.mem_cons_self ..);have hs:=h.step hp;have vB:=(List.nodup_cons.1 h.nd).1;simp only [finR,psm];have key: ∀b:Bool,finR m r (aP m ends c) (dG m ends c T b) (dmn (c6 m ends c T b-spN r) (fun x=>f (x-yK b))) e=psm (fun ch=>dmn (nQ m n P ends T (c::r) ch-B8 (c::r)) f (e-wL (c::r) ch)) r (lB CE c b):=fun b=>by
   have q1:=(vS hp h.he hT h1.2 h1.1 (fun _=>b)).1;rw [R9 r _ _ _ hs q1 _ e (lB CE c b)];refine Tb r _ fun ch nW=>?_;have kM:ch c=b:=by rw [nW c vB];exact if_pos rfl
   have e1:=(BG hp (c::r) P ends T h hT ch).2.2.2 c r rfl;obtain ⟨_,k2,k3,_⟩:=BG hp r _ _ _ hs q1 ch;rw [kM] at e1;have hw:wL (c::r) ch=yK b+wL r ch:=by simp only [wL,List.map_cons,List.sum_cons,kM]
   rw [KR,Tc,e1,hw];rw [show e-wL r ch-yK b=e-(yK b+wL r ch) by omega];congr 1;cases r with
   |nil=>
    have h0:=GA hp hs.he fun c hc=>by rcases hs.al c hc with g|g;exact g;simp at g
    have:=Vj hp h.he hT h1.2 h1.1 b h0
    have:=k3 rfl
    simp only [spN,B8];omega
   |cons x r=>have:=k2 (by simp);simp only [spN,B8];omega
  have kf:=key false;have kt:=key true;simp only [yK,Bool.false_eq_true,if_false,if_true] at kf kt;rw [kf,kt]
theorem R8 (ch:Nat->Bool) {r:List Nat} (h:sa m n [] [] r) (hl:r.length=n):nQ m n [] [] [] r ch=aX m n ch:=by
 have h1:=(BG hp r [] [] [] h ⟨rfl,fun x hx=>by simp at hx,fun x hx=>by simp at hx,fun x hx=>by simp at hx⟩ ch).1;have h2:ot n (fun x=>m.getD x.toNat 0) (bST m [] [] [] ch)=aX m n ch:=by
  have hi:=l6 hp.ok hp.inv hp.ne ch;have e:bST m [] [] [] ch=fun x=>bd (ch (x/4).toNat) x:=by
   funext x;simp [bST,ndF]
  rw [e];exact zp (yT hi) (s7 hp.ok hp.inv hp.ne)
 rw [h2,hl] at h1;simp only [List.length_nil] at h1;omega
theorem Ny {r:List Nat} (hn:r.Nodup) (hl:r.length=n) (hr: ∀c∈r,c<n) (jM:0<n) (e:Int):finR m r [] [] (fun x=>if x=0 then 1 else 0) e=aU m n 0 1 e:=by
 have hS:=sa.init (m:=m) hn hl hr;have cQ:=Rr hn hl hr;rw [R9 hp r [] [] [] hS ⟨rfl,fun x hx=>by simp at hx,fun x hx=>by simp at hx,fun x hx=>by simp at hx⟩ _ e (fun _=>false)];rw [Y9 _ cQ,Jm];unfold aU pc;refine dO fun k hk=>?_;rw [R8 hp _ hS hl,Nz cQ,xH,Gz]
 have eZ:B8 r=1:=by cases r with
  |nil=>simp at hl;omega
  |cons _ _=>rfl
 have e1:aX m n (fun c=>if c<n then cA k c else false)=aX m n (cA k):=by unfold aX;rw [xB fun c hc=>if_pos hc]
 have e2:difS false (fun c=>if c<n then cA k c else false) n=jm k n:=by rw [tb];exact B5 fun c hc=>if_pos hc
 have:=vU hp (cA k) jM
 rw [eZ,e1,e2];unfold cN wB;rw [if_pos (by omega),Nat.add_zero]
def nmR (m:List Int):List Nat->List Int->List Nat->Nat
 |[],_,_=>1
 |c::r,ends,T=>2^c6 m ends c T false*nmR m r (aP m ends c) (dG m ends c T false)+2^c6 m ends c T true*nmR m r (aP m ends c) (dG m ends c T true)
omit hp in
theorem Gy (m:List Int): ∀(r:List Nat) (ends:List Int) (T:List Nat),1<=nmR m r ends T
 |[],_,_=>Nat.le_refl _
 |c::r,ends,T=>by
  have h1:=Gy m r (aP m ends c) (dG m ends c T false);have h2:1<=2^c6 m ends c T false:=Nat.one_le_two_pow
  have:=Nat.mul_le_mul h2 h1
  simp only [nmR];omega
omit hp in
theorem MQ (P:List Nat) (ends:List Int) (T:List Nat) (ch:Nat->Bool) (c:Nat) (b:Bool) (h:c∈P):bST m P ends T (lB ch c b)=bST m P ends T ch:=by
 funext x;unfold bST
 split
 ·rfl
 ·split
  ·rfl
  ·rename_i hn
   have:(x/4).toNat≠c:=fun e=>hn (e▸h)
   simp only [lB,if_neg this]
theorem Vg: ∀(r:List Nat) (P:List Nat) (ends:List Int) (T:List Nat),sa m n P ends r->oX T ends.length-> ∀M:Nat,(∀ch,nQ m n P ends T r ch<=M)->nmR m r ends T<=2^(r.length+M)
 |[],P,ends,T,h,hT,M,hM=>Nat.one_le_two_pow
 |c::r,P,ends,T,h,hT,M,hM=>by
  have h1:=h.dj c (List.mem_cons_self ..);have hs:=h.step hp;have key: ∀b:Bool,2^c6 m ends c T b*nmR m r (aP m ends c) (dG m ends c T b)<=2^(r.length+M):=fun b=>by
   have q1:=(vS hp h.he hT h1.2 h1.1 (fun _=>b)).1;have hk: ∀ch,nQ m n (c::P) (aP m ends c) (dG m ends c T b) r ch+c6 m ends c T b<=M:=fun ch=>by
    have e1:=(BG hp (c::r) P ends T h hT (lB ch c b)).2.2.2 c r rfl;have e2:lB ch c b c=b:=if_pos rfl;have e3:nQ m n (c::P) (aP m ends c) (dG m ends c T b) r (lB ch c b)=nQ m n (c::P) (aP m ends c) (dG m ends c T b) r ch:=by
     unfold nQ;rw [MQ _ _ _ _ _ _ (List.mem_cons_self ..)]
    rw [e2,e3] at e1
    have:=hM (lB ch c b)
    omega
   have hM0:=hk (fun _=>false);have ih:=Vg r _ _ _ hs q1 (M-c6 m ends c T b) fun ch=>by have:=hk ch;omega
   refine Nat.le_trans (Nat.mul_le_mul_left _ ih) ?_;rw [←Nat.pow_add];exact Nat.pow_le_pow_right (by omega) (by omega)
  have kf:=key false;have kt:=key true;simp only [nmR,List.length_cons]
  have:2^(r.length+1+M)=2^(r.length+M)+2^(r.length+M):=by rw [Nat.add_right_comm,Nat.pow_succ];omega
  omega
theorem Y8 {r:List Nat} (hn:r.Nodup) (hl:r.length=n) (hr: ∀c∈r,c<n):nmR m r [] []<=2^(3*n):=by
 have hS:=sa.init (m:=m) hn hl hr
 have:=Vg hp r [] [] [] hS ⟨rfl,fun x hx=>by simp at hx,fun x hx=>by simp at hx,fun x hx=>by simp at hx⟩ (2*n) fun ch=>by
  rw [R8 hp ch hS hl];exact qq hp ch
 rw [hl] at this;rwa [show 3*n=n+2*n by omega]
end
end Go.Proofs.YtphjphpmfflfpaaGreatDoor
