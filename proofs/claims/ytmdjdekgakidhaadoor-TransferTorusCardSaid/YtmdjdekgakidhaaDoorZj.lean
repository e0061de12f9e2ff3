/- Plain: a crossing is added to the states of a sweep. -/
import Derived.Test.YtmdjdekgakidhaaDoorTc7
import Derived.Test.YtmdjdekgakidhaaDoorZe
import Derived.Test.YtmdjdekgakidhaaDoorZi
namespace Go.Proofs.YtmdjdekgakidhaaDoor
set_option linter.unusedVariables false
set_option linter.unusedSimpArgs false
set_option linter.unusedSectionVars false
structure yda (m:List Int) (n:Nat) (P:List Nat) (ends:List Int):Prop where
 nd:ends.Nodup
 mem: ∀h:Int,h∈ends↔InR n h/\(h/4).toNat∈P/\ ¬(m.getD h.toNat 0/4).toNat∈P
structure ybp (T:List Nat) (E:Nat):Prop where
 len:T.length=E
 rng: ∀x,x<E->T.getD x 0<E
 inv: ∀x,x<E->T.getD (T.getD x 0) 0=x
 ne: ∀x,x<E->T.getD x 0≠x
def bST (m:List Int) (P:List Nat) (ends:List Int) (T:List Nat) (ch:Nat->Bool) (h:Int):Int:=
 match ndF ends ends.length h with
 |some x=>ends.getD (T.getD x.toNat 0) 0
 |none=>if (h/4).toNat∈P then m.getD h.toNat 0 else jnB (ch (h/4).toNat) h
theorem ym7 (hs:List Int) (h:Int): ∀k x,ndF hs k h=some x->0<=x/\x<k/\hs.getD x.toNat 0=h
 |0,x,e=>by cases e
 |k+1,x,e=>by
  simp only [ndF] at e
  split at e
  ·rename_i e1;cases e;exact ⟨by omega,by omega,e1.symm⟩
  ·obtain ⟨h1,h2,h3⟩:=ym7 hs h k x e;exact ⟨h1,by omega,h3⟩
theorem ykz (hs:List Int) (h:Int): ∀k,ndF hs k h=none-> ∀x,x<k->hs.getD x 0≠h
 |0,_,x,hx=>by omega
 |k+1,e,x,hx=>by
  simp only [ndF] at e
  split at e
  ·cases e
  ·rename_i e1
   by_cases hk:x=k
   ·rw [hk];exact fun g=>e1 g.symm
   ·exact ykz hs h k e x (by omega)
theorem ywg (hs:List Int) (h:Int): ∀k,(∀x,x<k->hs.getD x 0≠h)->ndF hs k h=none
 |0,_=>rfl
 |k+1,hx=>by
  simp only [ndF]
  rw [if_neg fun e=>hx k (by omega) e.symm]
  exact ywg hs h k fun x h1=>hx x (by omega)
theorem yb8 {l:List Int} {h:Int}:h∈l↔ ∃x,x<l.length/\l.getD x 0=h:=by
 rw [List.mem_iff_getElem]
 constructor
 ·rintro ⟨x,hx,e⟩;exact ⟨x,hx,by simp [List.getD_eq_getElem?_getD,hx,e]⟩
 ·rintro ⟨x,hx,e⟩;exact ⟨x,hx,by simpa [List.getD_eq_getElem?_getD,hx] using e⟩
theorem ygj {l:List Int} (h:l.Nodup) {x y:Nat} (hx:x<l.length) (hy:y<l.length) (e:l.getD x 0=l.getD y 0):x=y:=by
 simp only [List.getD_eq_getElem?_getD,List.getElem?_eq_getElem hx,List.getElem?_eq_getElem hy,Option.getD_some] at e
 exact (List.getElem_inj h).1 e
theorem ywh {hs:List Int} (h:hs.Nodup) {x:Nat} (hx:x<hs.length):ndF hs hs.length (hs.getD x 0)=some (x:Int):=by
 cases hq:ndF hs hs.length (hs.getD x 0) with
 |none=>exact absurd rfl (ykz hs _ _ hq x hx)
 |some y=>
  obtain ⟨h1,h2,h3⟩:=ym7 hs _ _ _ hq
  have:=ygj h (by omega) hx h3
  congr 1;omega
theorem y27 {hs:List Int} {h:Int} (hn:h∉hs):ndF hs hs.length h=none:=ywg hs h _ fun x hx e=>hn (yb8.2 ⟨x,hx,e⟩)
def jL (b:Bool):List Int:=if b then [3,2,1,0] else [1,0,3,2]
theorem y0p (b:Bool) {t:Nat} (ht:t<4):0<=(jL b).getD t 0/\(jL b).getD t 0<=3/\(jL b).getD ((jL b).getD t 0).toNat 0=t/\(jL b).getD t 0≠t:=by
 have:t=0\/t=1\/t=2\/t=3:=by omega
 rcases this with rfl|rfl|rfl|rfl<;>cases b<;>decide
theorem y6p (b:Bool) (c:Nat) {t:Nat} (ht:t<4):jnB b (4*(c:Int)+t)=4*c+(jL b).getD t 0:=by
 obtain ⟨h0,h1,h2,h3,g0,g1,g2,g3⟩:=y0f c
 have e0:((4*c:Nat):Int)=4*(c:Int)+(0:Nat):=by omega
 have e1:((4*c+1:Nat):Int)=4*(c:Int)+(1:Nat):=by omega
 have e2:((4*c+2:Nat):Int)=4*(c:Int)+(2:Nat):=by omega
 have e3:((4*c+3:Nat):Int)=4*(c:Int)+(3:Nat):=by omega
 rw [e0] at h0 g0
 rw [e1] at h1 g1
 rw [e2] at h2 g2
 rw [e3] at h3 g3
 have:t=0\/t=1\/t=2\/t=3:=by omega
 rcases this with rfl|rfl|rfl|rfl<;>cases b
 ·rw [g0];simp [jL]
 ·rw [h0];simp [jL]
 ·rw [g1];simp [jL]
 ·rw [h1];simp [jL]
 ·rw [g2];simp [jL]
 ·rw [h2];simp [jL]
 ·rw [g3];simp [jL]
 ·rw [h3];simp [jL]
def arN (cnt:Nat) (T:List Nat) (b:Bool) (x:Nat):Nat:=if x<cnt then T.getD x 0 else cnt+((jL b).getD (x-cnt) 0).toNat
abbrev gluL (m ends:List Int) (c:Nat):List Int:=rowK (glS (hvL ends c) m) (ends.length+4) (ends.length+4)
abbrev idxL (m ends:List Int) (c:Nat):List Int:=rowK (idS (hvL ends c) m) (ends.length+4) (ends.length+4)
abbrev endL (m ends:List Int) (c:Nat):List Int:=endS (hvL ends c) m (ends.length+4)
theorem ysl {ends:List Int} (c:Int) {x:Nat} (hx:x<ends.length):(hvL ends c).getD x 0=ends.getD x 0:=by
 simp only [hvL,List.getD_eq_getElem?_getD,List.getElem?_append_left hx]
theorem ysm (ends:List Int) (c:Int) {t:Nat} (ht:t<4):(hvL ends c).getD (ends.length+t) 0=4*c+t:=by
 simp only [hvL,List.getD_eq_getElem?_getD,List.getElem?_append_right (Nat.le_add_right _ _),Nat.add_sub_cancel_left]
 have:t=0\/t=1\/t=2\/t=3:=by omega
 rcases this with rfl|rfl|rfl|rfl<;>simp
section
variable {m:List Int} {n:Nat} {P:List Nat} {ends:List Int} {c:Nat} (hp:PmOk m n) (he:yda m n P ends) (hc:c<n) (hcP:c∉P)
include he
theorem yda.at {x:Nat} (hx:x<ends.length):InR n (ends.getD x 0)/\(ends.getD x 0/4).toNat∈P/\ ¬(m.getD (ends.getD x 0).toNat 0/4).toNat∈P:=(he.mem _).1 (yb8.2 ⟨x,hx,rfl⟩)
include hc hcP
theorem yt8:(hvL ends c).Nodup:=by
 unfold hvL
 rw [List.nodup_append]
 refine ⟨he.nd,by simp;omega,fun x hx y hy e=>?_⟩
 subst e
 have:=((he.mem x).1 hx).2.1
 have h4:(x/4).toNat=c:=by
  simp only [List.mem_cons,List.not_mem_nil,or_false] at hy
  omega
 rw [h4] at this
 exact hcP this
theorem yiu (h:Int):h∈hvL ends c↔h∈ends\/(0<=h/\h/4=c):=by
 unfold hvL
 simp only [List.mem_append,List.mem_cons,List.not_mem_nil,or_false]
 constructor
 ·rintro (h1|h1)
  ·exact .inl h1
  ·right;omega
 ·rintro (h1|⟨h1,h2⟩)
  ·exact .inl h1
  ·right;omega
theorem yf4 {x:Nat} (hx:x<ends.length+4):InR n ((hvL ends c).getD x 0)/\((hvL ends c).getD x 0/4).toNat∈c::P:=by
 have hm:(hvL ends c).getD x 0∈hvL ends c:=yb8.2 ⟨x,by rw [yb3];exact hx,rfl⟩
 rcases (yiu he hc hcP _).1 hm with h1|⟨h1,h2⟩
 ·obtain ⟨g1,g2,_⟩:=(he.mem _).1 h1
  exact ⟨g1,List.mem_cons_of_mem _ g2⟩
 ·exact ⟨⟨h1,by omega⟩,by rw [h2];simp⟩
include hp
theorem yfo {x:Nat} (hx:x<ends.length+4) {y:Int} (h:glO (hvL ends c) m x=some y):0<=y/\y<ends.length+4/\(hvL ends c).getD y.toNat 0=m.getD ((hvL ends c).getD x 0).toNat 0:=by
 unfold glO at h
 rw [yb3] at h
 have:=ym7 _ _ _ _ h
 exact ⟨this.1,by omega,this.2.2⟩
theorem y28 {x:Nat} (hx:x<ends.length+4) (h:glO (hvL ends c) m x=none):m.getD ((hvL ends c).getD x 0).toNat 0∉hvL ends c:=by
 unfold glO at h
 intro hm
 obtain ⟨y,hy,e⟩:=yb8.1 hm
 exact ykz _ _ _ h y hy e
theorem y48 {x y:Nat} (hx:x<ends.length+4) (h:glO (hvL ends c) m x=some (y:Int)):glO (hvL ends c) m y=some (x:Int):=by
 obtain ⟨h1,h2,h3⟩:=yfo hp he hc hcP hx h
 rw [Int.toNat_natCast] at h3
 have hr:=(yf4 he hc hcP hx).1
 unfold InR at hr
 have:=hp.inv ((hvL ends c).getD x 0).toNat (by omega)
 unfold glO
 rw [h3,this,Int.toNat_of_nonneg hr.1]
 exact ywh (yt8 he hc hcP) (by rw [yb3];exact hx)
theorem yjj {x:Nat} (hx:x<ends.length+4):(gluL m ends c).getD x 0=glS (hvL ends c) m x:=ypr _ _ _ hx
theorem yee {x:Nat} (hx:x<ends.length+4):(gluL m ends c).getD x 0<0↔glO (hvL ends c) m x=none:=by
 rw [yjj hp he hc hcP hx]
 unfold glS
 cases hq:glO (hvL ends c) m x with
 |none=>simp
 |some y=>have:=yfo hp he hc hcP hx hq;simp;omega
theorem yg2 {x:Nat} (hx:x<ends.length+4) (h:0<=(gluL m ends c).getD x 0): ∃y:Nat,y<ends.length+4/\(gluL m ends c).getD x 0=y/\glO (hvL ends c) m x=some (y:Int):=by
 rw [yjj hp he hc hcP hx] at h⊢
 unfold glS at h⊢
 cases hq:glO (hvL ends c) m x with
 |none=>rw [hq] at h;simp at h
 |some y=>
  have:=yfo hp he hc hcP hx hq
  exact ⟨y.toNat,by omega,by simp;omega,by congr 1;omega⟩
end
section
variable {m:List Int} {n:Nat} {P:List Nat} {ends:List Int} {c:Nat} {T:List Nat} (hp:PmOk m n) (he:yda m n P ends) (hT:ybp T ends.length)
include hp he hT
theorem yjk (ch:Nat->Bool) {x:Nat} (hx:x<ends.length):bST m P ends T ch (ends.getD x 0)=ends.getD (T.getD x 0) 0:=by
 unfold bST
 rw [ywh he.nd hx];simp
theorem yef (ch:Nat->Bool) {h:Int} (hn:h∉ends):bST m P ends T ch h=if (h/4).toNat∈P then m.getD h.toNat 0 else jnB (ch (h/4).toNat) h:=by
 unfold bST
 rw [y27 hn]
theorem ym8 (ch:Nat->Bool):Inv2 n (fun x=>m.getD x.toNat 0) (bST m P ends T ch):=by
 have hi:=ydp hp.ok hp.inv hp.ne ch
 have key: ∀x,InR n x->InR n (bST m P ends T ch x)/\bST m P ends T ch (bST m P ends T ch x)=x/\bST m P ends T ch x≠x:=by
  intro x hx
  by_cases hm:x∈ends
  ·obtain ⟨k,hk,rfl⟩:=yb8.1 hm
   rw [yjk hp he hT ch hk,yjk hp he hT ch (hT.rng k hk),hT.inv k hk]
   exact ⟨(he.at (hT.rng k hk)).1,rfl,fun e=>hT.ne k hk (ygj he.nd (hT.rng k hk) hk e)⟩
  ·rw [yef hp he hT ch hm]
   by_cases hP:(x/4).toNat∈P
   ·rw [if_pos hP]
    have h1:(m.getD x.toNat 0/4).toNat∈P:=by
     rcases Classical.em ((m.getD x.toNat 0/4).toNat∈P) with h|h
     ·exact h
     ·exact absurd ((he.mem x).2 ⟨hx,hP,h⟩) hm
    have hxm:m.getD (m.getD x.toNat 0).toNat 0=x:=hi.mm x hx
    have hne:m.getD x.toNat 0≠x:=hi.mf x hx
    have hr:InR n (m.getD x.toNat 0):=hi.mr x hx
    refine ⟨hr,?_,hne⟩
    have h2:m.getD x.toNat 0∉ends:=fun h=>by
     have:=((he.mem _).1 h).2.2
     rw [hxm] at this
     exact this hP
    rw [yef hp he hT ch h2,if_pos h1,hxm]
   ·rw [if_neg hP]
    have hr:InR n (jnB (ch (x/4).toNat) x):=hi.jr x hx
    have hd:=yfh (ch (x/4).toNat) x
    refine ⟨hr,?_,ylx _ x⟩
    have h2:jnB (ch (x/4).toNat) x∉ends:=fun h=>by
     have:=((he.mem _).1 h).2.1
     rw [hd] at this
     exact hP this
    rw [yef hp he hT ch h2,hd,if_neg hP]
    exact yi8 _ x
 exact ⟨hi.mr,fun x hx=>(key x hx).1,hi.mm,fun x hx=>(key x hx).2.1,hi.mf,fun x hx=>(key x hx).2.2⟩
variable (hc:c<n) (hcP:c∉P)
include hc hcP
theorem yjl (ch:Nat->Bool):Emb n (ends.length+4) (fun x=>m.getD x.toNat 0) (bST m P ends T ch) (arN ends.length T (ch c)) (fun x=>(gluL m ends c).getD x 0) (fun x=>(hvL ends c).getD x 0):=by
 have har: ∀x,x<ends.length+4->arN ends.length T (ch c) x<ends.length+4/\arN ends.length T (ch c) (arN ends.length T (ch c) x)=x/\arN ends.length T (ch c) x≠x:=by
  intro x hx
  unfold arN
  by_cases h:x<ends.length
  ·have h1:=hT.rng x h
   rw [if_pos h,if_pos h1]
   exact ⟨by omega,hT.inv x h,hT.ne x h⟩
  ·have j:=y0p (ch c) (t:=x-ends.length) (by omega)
   rw [if_neg h,if_neg (by omega)]
   rw [Nat.add_sub_cancel_left]
   refine ⟨by omega,by omega,by omega⟩
 refine ⟨⟨fun x hx=>(har x hx).1,fun x hx=>(har x hx).2.1,fun x hx=>(har x hx).2.2,fun x hx h=>?_,fun x hx h=>?_,fun x hx e=>?_⟩,ym8 hp he hT ch,fun x y hx hy e=>ygj (yt8 he hc hcP) (by rw [yb3];exact hx) (by rw [yb3];exact hy) e,fun x hx=>(yf4 he hc hcP hx).1,fun x hx h=>?_,fun x hx=>?_⟩
 ·obtain ⟨y,hy,e,_⟩:=yg2 hp he hc hcP hx h
  rw [e];omega
 ·obtain ⟨y,hy,e,e2⟩:=yg2 hp he hc hcP hx h
  rw [e,Int.toNat_natCast,yjj hp he hc hcP hy]
  unfold glS
  rw [y48 hp he hc hcP hx e2];rfl
 ·obtain ⟨y,hy,e1,e2⟩:=yg2 hp he hc hcP hx (by omega)
  rw [e1] at e
  have:y=x:=by omega
  subst this
  have h3:=(yfo hp he hc hcP hx e2).2.2
  have hr:=(yf4 he hc hcP hx).1
  unfold InR at hr
  have:=hp.ne ((hvL ends c).getD y 0).toNat (by omega)
  rw [Int.toNat_natCast] at h3
  omega
 ·obtain ⟨y,hy,e1,e2⟩:=yg2 hp he hc hcP hx h
  rw [e1]
  exact (yfo hp he hc hcP hx e2).2.2.symm
 ·unfold arN
  by_cases h:x<ends.length
  ·rw [if_pos h,ysl _ h,ysl _ (hT.rng x h),yjk hp he hT ch h]
  ·obtain ⟨t,rfl⟩: ∃t,x=ends.length+t:=⟨x-ends.length,by omega⟩
   have ht:t<4:=by omega
   have j:=y0p (ch c) ht
   have e4:((4*(c:Int)+t)/4).toNat=c:=by omega
   rw [if_neg h,Nat.add_sub_cancel_left,ysm _ _ ht,ysm _ _ (by omega)]
   have hn:4*(c:Int)+t∉ends:=fun g=>by
    have:=((he.mem _).1 g).2.1
    rw [e4] at this
    exact hcP this
   rw [yef hp he hT ch hn,e4,if_neg hcP,y6p _ _ ht]
   omega
end
end Go.Proofs.YtmdjdekgakidhaaDoor
namespace Go.Proofs.YtmdjdekgakidhaaDoor
set_option linter.unusedVariables false
set_option linter.unusedSimpArgs false
set_option linter.unusedSectionVars false
theorem yqe (hs m:List Int) (j:Nat): ∀d,∃r,endS hs m (j+d)=endS hs m j++r
 |0=>⟨[],by simp⟩
 |d+1=>by
  obtain ⟨r,h⟩:=yqe hs m j d
  rw [←Nat.add_assoc]
  simp only [endS]
  split
  ·exact ⟨r,h⟩
  ·exact ⟨r++[hs.getD (j+d) 0],by rw [h,List.append_assoc]⟩
theorem ybt {hs m:List Int} {x k:Nat} (hx:x<k) (h:glO hs m x=none):(endS hs m x).length<(endS hs m k).length/\(endS hs m k).getD (endS hs m x).length 0=hs.getD x 0:=by
 obtain ⟨d,rfl⟩: ∃d,k=x+1+d:=⟨k-x-1,by omega⟩
 obtain ⟨r,e⟩:=yqe hs m (x+1) d
 have e1:endS hs m (x+1)=endS hs m x++[hs.getD x 0]:=by simp only [endS];rw [h];rfl
 rw [e,e1]
 refine ⟨by simp only [List.length_append,List.length_cons,List.length_nil];omega,?_⟩
 simp [List.getD_eq_getElem?_getD]
theorem ydb {hs m:List Int}: ∀(k j:Nat),j<(endS hs m k).length-> ∃x,x<k/\glO hs m x=none/\(endS hs m x).length=j
 |0,j,h=>by simp [endS] at h
 |k+1,j,h=>by
  simp only [endS] at h
  split at h
  ·obtain ⟨x,h1,h2⟩:=ydb k j h
   exact ⟨x,by omega,h2⟩
  ·rename_i hg
   by_cases hj:j<(endS hs m k).length
   ·obtain ⟨x,h1,h2⟩:=ydb k j hj
    exact ⟨x,by omega,h2⟩
   ·refine ⟨k,by omega,by simpa using hg,?_⟩
    simp only [List.length_append,List.length_cons,List.length_nil] at h
    omega
theorem yk0 {hs m:List Int} {x y:Nat} (hx:glO hs m x=none) (hy:glO hs m y=none) (h:(endS hs m x).length=(endS hs m y).length):x=y:=by
 rcases Nat.lt_trichotomy x y with h1|h1|h1
 ·have:=(ybt h1 hx).1;omega
 ·exact h1
 ·have:=(ybt h1 hy).1;omega
theorem yqf {hs m:List Int} {l:List Bool}: ∀k,k<=l.length->(∀x,x<k->(l.getD x false=true↔glO hs m x≠none))->(endS hs m k).length+(l.take k).count true=k
 |0,_,_=>by simp [endS]
 |k+1,hk,h=>by
  have ih:=yqf (l:=l) k (by omega) fun x hx=>h x (by omega)
  have hkl:k<l.length:=by omega
  have h1:=h k (by omega)
  rw [List.take_add_one,List.getElem?_eq_getElem hkl,List.count_append]
  simp only [List.getD_eq_getElem?_getD,List.getElem?_eq_getElem hkl,Option.getD_some] at h1
  simp only [endS]
  cases hq:glO hs m k with
  |none=>
   rw [hq] at h1
   have:l[k]=false:=by cases h2:l[k] with
    |false=>rfl
    |true=>exact absurd rfl (h1.1 h2)
   simp [this];omega
  |some y=>
   rw [hq] at h1
   have:l[k]=true:=h1.2 (by simp)
   simp [this];omega
theorem yzn {l:List Int} (h: ∀i j,i<l.length->j<l.length->l.getD i 0=l.getD j 0->i=j):l.Nodup:=by
 unfold List.Nodup
 rw [List.pairwise_iff_getElem]
 intro i j hi hj hij e
 have:=h i j hi hj (by simp [List.getD_eq_getElem?_getD,hi,hj,e])
 omega
theorem yqg {n:Nat} {mt b b':Int->Int} (hi:Inv2 n mt b) (h: ∀x,InR n x->b x=b' x) {x y:Int} (hx:InR n x) (hc:Cir mt b x y):Cir mt b' x y:=by
 induction hc with
 |refl=>exact .refl _
 |mate _ ih=>exact .mate ih
 | @join y hc ih=>rw [h y (hc.rng hi hx)];exact .join ih
theorem ywi {n:Nat} {mt b b':Int->Int} (hi:Inv2 n mt b) (hi':Inv2 n mt b') (h: ∀x,InR n x->b x=b' x):ncl n mt b=ncl n mt b':=by
 have h1:=yhv hi'
 exact yhu (yhv hi) ⟨h1.rep,fun x y hx hy=>(h1.iff x y hx hy).trans ⟨yqg hi' (fun z hz=>(h z hz).symm) (by unfold InR;omega),yqg hi h (by unfold InR;omega)⟩⟩
theorem yqh {arc:Nat->Nat} {glue index:Nat->Int} {W E:Nat} {en:Nat->Nat}: ∀k,(∀x,x<k->0<=index x->(pthN arc glue (W+1) [] (arc x)).2=en x)->(∀x y,x<k->y<k->0<=index x->index x=index y->x=y)->
  ∀x,x<k->0<=index x->(index x).toNat<E->(txN arc glue index W E k).getD (index x).toNat 0=97+index (en x)
 |0,_,_,x,hx,_,_=>by omega
 |k+1,h1,h2,x,hx,h0,hE=>by
  have ih:=yqh (E:=E) k (fun x hx=>h1 x (by omega)) (fun x y hx hy=>h2 x y (by omega) (by omega))
  simp only [txN]
  split
  ·rename_i hk
   have:x≠k:=fun e=>by rw [e] at h0;omega
   exact ih x (by omega) h0 hE
  ·rename_i hk
   by_cases e:x=k
   ·subst e
    rw [List.getD_eq_getElem?_getD,List.getElem?_set,if_pos rfl,if_pos (by rw [yea];exact hE),h1 x (by omega) h0];rfl
   ·have hne:(index k).toNat≠(index x).toNat:=fun e2=>e (h2 x k hx (by omega) h0 (by omega))
    rw [List.getD_eq_getElem?_getD,List.getElem?_set,if_neg hne,←List.getD_eq_getElem?_getD]
    exact ih x (by omega) h0 hE
theorem ynz {W:Nat} {arc:Nat->Nat} {glue:Nat->Int}: ∀k,(∀x,x<k->0<=glue x)->endN W arc glue k=List.replicate W false
 |0,_=>rfl
 |k+1,h=>by simp only [endN];rw [if_pos (h k (by omega))];exact ynz k fun x hx=>h x (by omega)
theorem yqi {W:Nat} {arc:Nat->Nat} {glue:Nat->Int} (h0:0<=glue 0): ∀k,1<=(cirN W arc glue (List.replicate W false) (k+1)).2
 |0=>by
  have hc: ¬(glue 0<0\/(cirN W arc glue (List.replicate W false) 0).1.getD 0 false=true):=by
   rintro (h|h)
   ·omega
   ·simp only [cirN] at h
    by_cases hW:0<W<;>simp [List.getD_eq_getElem?_getD,hW] at h
  rw [cirN,if_neg hc]
  exact Nat.le_add_left _ _
 |k+1=>by
  have ih:=yqi (W:=W) (arc:=arc) h0 k
  rw [cirN]
  split
  ·exact ih
  ·omega
section
variable {m:List Int} {n:Nat} {P:List Nat} {ends:List Int} {c:Nat} (hp:PmOk m n) (he:yda m n P ends) (hc:c<n) (hcP:c∉P)
include hp he hc hcP
theorem yjm (h:Int):h∈endL m ends c↔ ∃x,x<ends.length+4/\glO (hvL ends c) m x=none/\h=(hvL ends c).getD x 0:=by
 rw [yb8]
 constructor
 ·rintro ⟨j,hj,rfl⟩
  obtain ⟨x,hx,gx,rfl⟩:=ydb _ j hj
  exact ⟨x,hx,gx,(ybt hx gx).2⟩
 ·rintro ⟨x,hx,gx,rfl⟩
  exact ⟨_,(ybt hx gx).1,(ybt hx gx).2⟩
theorem y0q {h:Int} (h1:InR n h) (h2:(h/4).toNat∈c::P) (h3: ¬(m.getD h.toNat 0/4).toNat∈P\/h/4=c):h∈hvL ends c:=by
 rw [yiu he hc hcP]
 unfold InR at h1
 rcases List.mem_cons.1 h2 with e|e
 ·right;exact ⟨h1.1,by omega⟩
 ·rcases h3 with h3|h3
  ·left;exact (he.mem h).2 ⟨by unfold InR;omega,e,h3⟩
  ·right;exact ⟨h1.1,h3⟩
theorem ywj:yda m n (c::P) (endL m ends c):=by
 have hi:=ydp hp.ok hp.inv hp.ne (fun _=>false)
 refine ⟨yzn fun i j hi hj e=>?_,fun h=>?_⟩
 ·obtain ⟨x,hx,gx,rfl⟩:=ydb _ i hi
  obtain ⟨y,hy,gy,rfl⟩:=ydb _ j hj
  rw [(ybt hx gx).2,(ybt hy gy).2] at e
  rw [ygj (yt8 he hc hcP) (by rw [yb3];exact hx) (by rw [yb3];exact hy) e]
 ·rw [yjm hp he hc hcP]
  constructor
  ·rintro ⟨x,hx,gx,rfl⟩
   obtain ⟨h1,h2⟩:=yf4 he hc hcP hx
   refine ⟨h1,h2,fun h3=>?_⟩
   have h4:=y28 hp he hc hcP hx gx
   have hr:InR n (m.getD ((hvL ends c).getD x 0).toNat 0):=hi.mr _ h1
   have hmm:m.getD (m.getD ((hvL ends c).getD x 0).toNat 0).toNat 0=(hvL ends c).getD x 0:=hi.mm _ h1
   refine h4 (y0q hp he hc hcP hr h3 ?_)
   rw [hmm]
   by_cases h5:((hvL ends c).getD x 0/4).toNat∈P
   ·right
    have hm:(hvL ends c).getD x 0∈hvL ends c:=yb8.2 ⟨x,by rw [yb3];exact hx,rfl⟩
    rcases (yiu he hc hcP _).1 hm with h6|⟨h6,h7⟩
    ·have h8:=((he.mem _).1 h6).2.2
     rcases List.mem_cons.1 h3 with e|e
     ·unfold InR at hr;omega
     ·exact absurd e h8
    ·rw [h7] at h5;exact absurd h5 hcP
   ·exact .inl h5
  ·rintro ⟨h1,h2,h3⟩
   have hm:h∈hvL ends c:=y0q hp he hc hcP h1 h2 (.inl fun g=>h3 (List.mem_cons_of_mem _ g))
   obtain ⟨x,hx,rfl⟩:=yb8.1 hm
   rw [yb3] at hx
   refine ⟨x,hx,?_,rfl⟩
   cases hq:glO (hvL ends c) m x with
   |none=>rfl
   |some y=>
    obtain ⟨g1,g2,g3⟩:=yfo hp he hc hcP hx hq
    have:=(yf4 he hc hcP (x:=y.toNat) (by omega)).2
    rw [g3] at this
    exact absurd this h3
theorem yqj {x:Nat} (hx:x<ends.length+4):(idxL m ends c).getD x 0=if (glO (hvL ends c) m x).isSome then-1 else ((endS (hvL ends c) m x).length:Int):=ypr _ _ _ hx
theorem ycl {x:Nat} (hx:x<ends.length+4) (h:glO (hvL ends c) m x=none):(idxL m ends c).getD x 0=(endS (hvL ends c) m x).length:=by rw [yqj hp he hc hcP hx,h];rfl
theorem ysn {x:Nat} (hx:x<ends.length+4):(idxL m ends c).getD x 0<0↔glO (hvL ends c) m x≠none:=by
 rw [yqj hp he hc hcP hx]
 cases glO (hvL ends c) m x<;>simp
theorem yso:(endL m ends c).length<=ends.length+4:=yks _ _ _
end
def nxT (m ends:List Int) (c:Nat) (T:List Nat) (b:Bool):List Nat:=
 (txN (arN ends.length T b) (fun x=>(gluL m ends c).getD x 0) (fun x=>(idxL m ends c).getD x 0) (ends.length+4) (endL m ends c).length (ends.length+4)).map fun t=>(t-97).toNat
def ccN (m ends:List Int) (c:Nat) (T:List Nat) (b:Bool):Nat:=
 (cirN (ends.length+4) (arN ends.length T b) (fun x=>(gluL m ends c).getD x 0) (endN (ends.length+4) (arN ends.length T b) (fun x=>(gluL m ends c).getD x 0) (ends.length+4)) (ends.length+4)).2
theorem yg3 (m ends:List Int) (c:Nat) (T:List Nat) (b:Bool):ccN m ends c T b<=ends.length+4:=ymw _ _ _ _ _
theorem y29 (m ends:List Int) (c:Nat) (T:List Nat) (b:Bool):(nxT m ends c T b).length=(endL m ends c).length:=by unfold nxT;rw [List.length_map,yea]
section
variable {m:List Int} {n:Nat} {P:List Nat} {ends:List Int} {c:Nat} {T:List Nat} (hp:PmOk m n) (he:yda m n P ends) (hT:ybp T ends.length) (hc:c<n) (hcP:c∉P)
include hp he hT hc hcP
theorem ywk (ch:Nat->Bool):(∀k,k<ends.length+4->(gluL m ends c).getD k 0<0-> ∃ys e,Pth (arN ends.length T (ch c)) (fun x=>(gluL m ends c).getD x 0) k ys e/\ys.length<=ends.length+4)/\
  (∀k,k<ends.length+4->0<=(gluL m ends c).getD k 0->(cirN (ends.length+4) (arN ends.length T (ch c)) (fun x=>(gluL m ends c).getD x 0) (endN (ends.length+4) (arN ends.length T (ch c)) (fun x=>(gluL m ends c).getD x 0) (ends.length+4)) k).1.getD k false=false->
   ∃zs,Cyc (arN ends.length T (ch c)) (fun x=>(gluL m ends c).getD x 0) (cirN (ends.length+4) (arN ends.length T (ch c)) (fun x=>(gluL m ends c).getD x 0) (endN (ends.length+4) (arN ends.length T (ch c)) (fun x=>(gluL m ends c).getD x 0) (ends.length+4)) k).1 k zs/\zs.length<=ends.length+4):=by
 obtain ⟨b,_,_,_,h4,h5,_⟩:=yky (yjl hp he hT hc hcP ch)
 exact ⟨fun k hk hg=>let ⟨ys,e,q1,q2,_⟩:=h4 k hk hg;⟨ys,e,q1,q2⟩,h5⟩
theorem y6q (b:Bool) (j:Nat) (hj:j<(endL m ends c).length):97<=(txN (arN ends.length T b) (fun x=>(gluL m ends c).getD x 0) (fun x=>(idxL m ends c).getD x 0) (ends.length+4) (endL m ends c).length (ends.length+4)).getD j 0:=by
 obtain ⟨_,_,_,_,h4,_⟩:=yky (yjl hp he hT hc hcP fun _=>b)
 obtain ⟨x,hx,hg,rfl⟩:=ydb _ j hj
 have hix0: ∀x,x<ends.length+4->0<=(idxL m ends c).getD x 0->glO (hvL ends c) m x=none:=fun x hx h0=>by
  cases hq:glO (hvL ends c) m x with
  |none=>rfl
  |some y=>have:=(ysn hp he hc hcP hx).2 (by rw [hq];simp);omega
 obtain ⟨ys,e,q1,q2,q3,q4,q5⟩:=h4 x hx ((yee hp he hc hcP hx).2 hg)
 have hi:=ycl hp he hc hcP hx hg
 have he2:=ycl hp he hc hcP q3 ((yee hp he hc hcP q3).1 q4)
 have:=yqh (arc:=arN ends.length T b) (glue:=fun x=>(gluL m ends c).getD x 0) (index:=fun x=>(idxL m ends c).getD x 0) (W:=ends.length+4) (E:=(endL m ends c).length) (en:=fun x=>(pthN (arN ends.length T b) (fun x=>(gluL m ends c).getD x 0) (ends.length+4+1) [] (arN ends.length T b x)).2) (ends.length+4) (fun _ _ _=>rfl) (fun x y hx hy h0 e=>by
  have gx:=hix0 x hx h0
  have gy:=hix0 y hy (by omega)
  rw [ycl hp he hc hcP hx gx,ycl hp he hc hcP hy gy] at e
  exact yk0 gx gy (by omega)) x hx (by omega) (by rw [hi,Int.toNat_natCast];exact hj)
 rw [yd9 q1 _ [] (by omega),hi,he2,Int.toNat_natCast] at this
 omega
theorem yb2 (ch:Nat->Bool):ybp (nxT m ends c T (ch c)) (endL m ends c).length/\
  2*ncl n (fun x=>m.getD x.toNat 0) (bST m (c::P) (endL m ends c) (nxT m ends c T (ch c)) ch)+2*ccN m ends c T (ch c)+(endL m ends c).length=2*ncl n (fun x=>m.getD x.toNat 0) (bST m P ends T ch)+ends.length+4:=by
 have E:=yjl hp he hT hc hcP ch
 obtain ⟨b,h1,h2,h3,h4,_,g,h6,h7,h8⟩:=yky E
 have he':=ywj hp he hc hcP
 have hgn:=fun {x:Nat} (hx:x<ends.length+4)=>yee hp he hc hcP hx
 have hend: ∀x,x<ends.length+4->glO (hvL ends c) m x=none-> ∃e,e<ends.length+4/\glO (hvL ends c) m e=none/\(pthN (arN ends.length T (ch c)) (fun x=>(gluL m ends c).getD x 0) (ends.length+4+1) [] (arN ends.length T (ch c) x)).2=e/\b ((hvL ends c).getD x 0)=(hvL ends c).getD e 0:=fun x hx hg=>by
  obtain ⟨ys,e,q1,q2,q3,q4,q5⟩:=h4 x hx ((hgn hx).2 hg)
  exact ⟨e,q3,(hgn q3).1 q4,by rw [yd9 q1 _ [] (by omega)],q5⟩
 have hix0: ∀x,x<ends.length+4->0<=(idxL m ends c).getD x 0->glO (hvL ends c) m x=none:=fun x hx h0=>by
  cases hq:glO (hvL ends c) m x with
  |none=>rfl
  |some y=>have:=(ysn hp he hc hcP hx).2 (by rw [hq];simp);omega
 have htx: ∀x,x<ends.length+4->glO (hvL ends c) m x=none-> ∃e,e<ends.length+4/\glO (hvL ends c) m e=none/\b ((hvL ends c).getD x 0)=(hvL ends c).getD e 0/\(nxT m ends c T (ch c)).getD (endS (hvL ends c) m x).length 0=(endS (hvL ends c) m e).length:=fun x hx hg=>by
  obtain ⟨e,q1,q2,q3,q4⟩:=hend x hx hg
  have hi:=ycl hp he hc hcP hx hg
  have he2:=ycl hp he hc hcP q1 q2
  have hl:=(ybt hx hg).1
  refine ⟨e,q1,q2,q4,?_⟩
  have:=yqh (arc:=arN ends.length T (ch c)) (glue:=fun x=>(gluL m ends c).getD x 0) (index:=fun x=>(idxL m ends c).getD x 0) (W:=ends.length+4) (E:=(endL m ends c).length) (en:=fun x=>(pthN (arN ends.length T (ch c)) (fun x=>(gluL m ends c).getD x 0) (ends.length+4+1) [] (arN ends.length T (ch c) x)).2) (ends.length+4) (fun _ _ _=>rfl) (fun x y hx hy h0 e=>by
   have gx:=hix0 x hx h0
   have gy:=hix0 y hy (by omega)
   rw [ycl hp he hc hcP hx gx,ycl hp he hc hcP hy gy] at e
   exact yk0 gx gy (by omega)) x hx (by omega) (by rw [hi,Int.toNat_natCast];exact hl)
  rw [q3,hi,he2,Int.toNat_natCast] at this
  unfold nxT
  rw [List.getD_eq_getElem?_getD,List.getElem?_map]
  rw [List.getD_eq_getElem?_getD] at this
  have hlt:(endS (hvL ends c) m x).length<(txN (arN ends.length T (ch c)) (fun x=>(gluL m ends c).getD x 0) (fun x=>(idxL m ends c).getD x 0) (ends.length+4) (endL m ends c).length (ends.length+4)).length:=by rw [yea];exact hl
  rw [List.getElem?_eq_getElem hlt] at this⊢
  simp only [Option.getD_some,Option.map_some] at this⊢
  rw [this];omega
 have hrg:=fun {x:Nat} (hx:x<ends.length+4)=>(yf4 he hc hcP hx).1
 have hpair:ybp (nxT m ends c T (ch c)) (endL m ends c).length:=by
  refine ⟨y29 _ _ _ _ _,fun j hj=>?_,fun j hj=>?_,fun j hj e=>?_⟩
  ·obtain ⟨x,hx,gx,rfl⟩:=ydb _ j hj
   obtain ⟨e,q1,q2,q3,q4⟩:=htx x hx gx
   rw [q4];exact (ybt q1 q2).1
  ·obtain ⟨x,hx,gx,rfl⟩:=ydb _ j hj
   obtain ⟨e,q1,q2,q3,q4⟩:=htx x hx gx
   obtain ⟨e',p1,p2,p3,p4⟩:=htx e q1 q2
   rw [q4,p4]
   rw [←q3,h1.jj _ (hrg hx)] at p3
   rw [E.inj x e' hx p1 p3]
  ·obtain ⟨x,hx,gx,rfl⟩:=ydb _ j hj
   obtain ⟨e',q1,q2,q3,q4⟩:=htx x hx gx
   rw [q4] at e
   have:=yk0 q2 gx e
   rw [this] at q3
   exact h1.jf _ (hrg hx) q3
 refine ⟨hpair,?_⟩
 have hb: ∀h,InR n h->bST m (c::P) (endL m ends c) (nxT m ends c T (ch c)) ch h=b h:=fun h hr=>by
  by_cases hm:h∈endL m ends c
  ·obtain ⟨x,hx,gx,rfl⟩:=(yjm hp he hc hcP h).1 hm
   obtain ⟨e,q1,q2,q3,q4⟩:=htx x hx gx
   have g1:=ybt hx gx
   have:=yjk hp he' hpair ch g1.1
   rw [g1.2,q4,(ybt q1 q2).2] at this
   rw [this,q3]
  ·rw [yef hp he' hpair ch hm]
   by_cases hh:h∈hvL ends c
   ·obtain ⟨x,hx,rfl⟩:=yb8.1 hh
    rw [yb3] at hx
    rw [if_pos (yf4 he hc hcP hx).2]
    refine (h3 x hx ?_).symm
    rcases Int.lt_or_le ((gluL m ends c).getD x 0) 0 with q|q
    ·exact absurd ((yjm hp he hc hcP _).2 ⟨x,hx,(hgn hx).1 q,rfl⟩) hm
    ·exact q
   ·have h9:b h=bST m P ends T ch h:=h2 h hr fun x hx e=>hh (yb8.2 ⟨x,by rw [yb3];exact hx,e.symm⟩)
    have h10:h∉ends:=fun g=>hh ((yiu he hc hcP h).2 (.inl g))
    have h11:(h/4).toNat≠c:=fun e=>hh ((yiu he hc hcP h).2 (.inr ⟨hr.1,by have:=hr.1;omega⟩))
    rw [h9,yef hp he hT ch h10]
    by_cases h12:(h/4).toNat∈P
    ·rw [if_pos h12,if_pos (List.mem_cons_of_mem _ h12)]
    ·rw [if_neg h12,if_neg fun g=>by rcases List.mem_cons.1 g with e|e;exact h11 e;exact h12 e]
 rw [ywi (ym8 hp he' hpair ch) h1 hb]
 have hsl:(cirN (ends.length+4) (arN ends.length T (ch c)) (fun x=>(gluL m ends c).getD x 0) (endN (ends.length+4) (arN ends.length T (ch c)) (fun x=>(gluL m ends c).getD x 0) (ends.length+4)) (ends.length+4)).1.length=ends.length+4:=by rw [yh0,yhz]
 have hcnt:=yqf (hs:=hvL ends c) (m:=m) (l:=(cirN (ends.length+4) (arN ends.length T (ch c)) (fun x=>(gluL m ends c).getD x 0) (endN (ends.length+4) (arN ends.length T (ch c)) (fun x=>(gluL m ends c).getD x 0) (ends.length+4)) (ends.length+4)).1) (ends.length+4) (by omega) fun x hx=>by
  rw [h8 x hx]
  constructor
  ·intro h e;have:=(hgn hx).2 e;omega
  ·intro h
   rcases Int.lt_or_le ((gluL m ends c).getD x 0) 0 with q|q
   ·exact absurd ((hgn hx).1 q) h
   ·exact q
 rw [List.take_of_length_le (by omega),←h7] at hcnt
 unfold ccN
 have:(endL m ends c).length+g=ends.length+4:=hcnt
 omega
theorem ywl (b:Bool) (h0:endL m ends c=[]):1<=ccN m ends c T b:=by
 have hg: ∀x,x<ends.length+4->0<=(gluL m ends c).getD x 0:=fun x hx=>by
  rcases Int.lt_or_le ((gluL m ends c).getD x 0) 0 with q|q
  ·have:=(yjm hp he hc hcP _).2 ⟨x,hx,(yee hp he hc hcP hx).1 q,rfl⟩
   rw [h0] at this;simp at this
  ·exact q
 unfold ccN
 rw [ynz _ hg]
 exact yqi (hg 0 (by omega)) (ends.length+3)
end
theorem yg4 {m:List Int} {n:Nat} {P:List Nat} {ends:List Int} (hp:PmOk m n) (he:yda m n P ends) (hP: ∀c,c<n->c∈P):ends=[]:=by
 match ends,he with
 |[],_=>rfl
 |h::t,he=>
  obtain ⟨h1,_,h3⟩:=(he.mem h).1 (List.mem_cons_self ..)
  have hr:InR n (m.getD h.toNat 0):=(ydp hp.ok hp.inv hp.ne (fun _=>false)).mr _ h1
  unfold InR at hr
  exact absurd (hP _ (by omega)) h3
end Go.Proofs.YtmdjdekgakidhaaDoor
namespace Go.Proofs.YtmdjdekgakidhaaDoor
set_option linter.unusedSimpArgs false
set_option linter.unusedVariables false
theorem y49 {k i:Nat} (h:k<2^i):chB k i=false:=by unfold chB;rw [Nat.div_eq_of_lt h];rfl
theorem y3a {k i c:Nat} (hc:c<i):chB (2^i+k) c=chB k c:=by
 unfold chB
 obtain ⟨d,rfl⟩: ∃d,i=c+(d+1):=⟨i-c-1,by omega⟩
 rw [Nat.pow_add,Nat.mul_add_div (Nat.pow_pos (by omega)),Nat.pow_succ]
 congr 1;omega
theorem y3b {k i:Nat} (h:k<2^i):chB (2^i+k) i=true:=by
 unfold chB
 have:=Nat.mul_add_div (m:=2^i) (Nat.pow_pos (by omega)) 1 k
 rw [Nat.mul_one,Nat.div_eq_of_lt h] at this
 rw [this];rfl
theorem ymb {b:Bool} {ch ch':Nat->Bool}: ∀{n:Nat},(∀c,c<n->ch c=ch' c)->difS b ch n=difS b ch' n
 |0,_=>rfl
 |n+1,h=>by simp only [difS];rw [ymb fun c hc=>h c (by omega),h n (by omega)]
end Go.Proofs.YtmdjdekgakidhaaDoor
