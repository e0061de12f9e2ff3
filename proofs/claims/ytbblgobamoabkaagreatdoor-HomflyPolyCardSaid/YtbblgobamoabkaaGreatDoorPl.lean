/- Plain functions and facts: labels, cycles, spheres, circles, smoothing. -/
set_option linter.unusedSimpArgs false
set_option linter.unusedVariables false
namespace Go.Proofs.YtbblgobamoabkaaGreatDoor
def lb1 (m:List Int) (c p:Int) (s:Nat) (st:List Int×List Int):List Int×List Int:=
 let to:=m.getD (4*c+s).toNat 0/4
 if st.1.getD to.toNat 0<0 then (st.1.set to.toNat p,st.2++[to]) else st
def lb4 (m:List Int) (c p:Int) (st:List Int×List Int):Nat->List Int×List Int
 |0=>st
 |s+1=>lb1 m c p s (lb4 m c p st s)
def bfs (m:List Int) (p:Int):Nat->List Int->List Int->List Int
 |_,part,[]=>part
 |0,part,_::_=>part
 |n+1,part,c::q=>let st:=lb4 m c p (part,q) 4;bfs m p n st.1 st.2
def lbC (m:List Int) (n c:Nat) (st:List Int×Int):List Int×Int:=
 if 0<=st.1.getD c 0 then st else (bfs m st.2 (2*n+1) (st.1.set c st.2) [(c:Int)],st.2+1)
def lbN (m:List Int) (n:Nat):Nat->List Int×Int
 |0=>(List.replicate n (-1),0)
 |c+1=>lbC m n c (lbN m n c)
def yaw (m:List Int) (n:Nat):List Int×Int:=lbN m n n
theorem yat {α:Type} {l:List α} {i:Nat} {a d:α} (h:i<l.length):(l.set i a).getD i d=a:=by simp [h]
theorem yao {α:Type} {l:List α} {i j:Nat} {a d:α} (h:i≠j):(l.set i a).getD j d=l.getD j d:=by simp [h]
theorem y0s {α:Type} (a b:α) (n k:Nat) (h:k<n):(List.replicate k a++List.replicate (n-k) b).set k a=List.replicate (k+1) a++List.replicate (n-(k+1)) b:=by
 rw [List.set_append_right _ _ (by simp),List.length_replicate,Nat.sub_self]
 obtain ⟨d,hd⟩: ∃d,n-k=d+1:=⟨n-k-1,by omega⟩
 rw [hd,List.replicate_succ,List.set_cons_zero,show n-(k+1)=d by omega,List.replicate_succ',List.append_assoc];rfl
def negs (l:List Int):Nat:=l.countP fun x=>decide (x<0)
theorem yk9 {l:List Int} {i:Nat} {p:Int} (hi:i<l.length) (hl:l.getD i 0<0) (hp:0<=p):negs (l.set i p)+1=negs l:=by
 unfold negs
 induction l generalizing i with
 |nil=>simp at hi
 |cons x l ih=>
  cases i with
  |zero=>
   simp at hl
   simp [List.countP_cons,hl,Int.not_lt.2 hp]
  |succ i=>
   simp only [List.set_cons_succ,List.countP_cons]
   have:=ih (i:=i) (by simpa using hi) (by simpa using hl)
   omega
theorem ysg (l:List Int):negs l<=l.length:=List.countP_le_length
def ybn (m:List Int) (n:Nat):Prop:=m.length=4*n/\ ∀i,i<4*n->0<=m.getD i 0/\m.getD i 0<4*n
def qOk (n:Nat) (q:List Int):Prop:= ∀x∈q,0<=x/\x<n
def pOk (n:Nat) (p:Int) (l:List Int):Prop:=l.length=n/\ ∀i,i<n-> -1<=l.getD i 0/\l.getD i 0<=p
theorem ywt {m:List Int} {n:Nat} (hm:ybn m n) {c p:Int} (hc:0<=c/\c<n) (hp:0<=p) {s:Nat} (hs:s<4) {st:List Int×List Int} (h1:pOk n p st.1) (h2:qOk n st.2):
  pOk n p (lb1 m c p s st).1/\qOk n (lb1 m c p s st).2/\2*negs (lb1 m c p s st).1+(lb1 m c p s st).2.length<=2*negs st.1+st.2.length/\(lb1 m c p s st).2.length<=st.2.length+1:=by
 have hto:=hm.2 (4*c+s).toNat (by omega)
 unfold lb1
 simp only
 have hto':0<=m.getD (4*c+s).toNat 0/4/\m.getD (4*c+s).toNat 0/4<n:=by omega
 generalize m.getD (4*c+s).toNat 0/4=to at*
 split
 ·rename_i hneg
  have hlt:to.toNat<st.1.length:=by rw [h1.1];omega
  have hn:=yk9 hlt hneg hp
  refine ⟨⟨by simp [h1.1],fun i hi=>?_⟩,fun x hx=>?_,?_,by simp⟩
  ·by_cases e:to.toNat=i
   ·subst e;rw [yat hlt];omega
   ·rw [yao e];exact h1.2 i hi
  ·rcases List.mem_append.1 hx with hx|hx
   ·exact h2 x hx
   ·rw [List.mem_singleton.1 hx];exact hto'
  ·simp only [List.length_append,List.length_singleton];omega
 ·exact ⟨h1,h2,Nat.le_refl _,by omega⟩
theorem yl9 {m:List Int} {n:Nat} (hm:ybn m n) {c p:Int} (hc:0<=c/\c<n) (hp:0<=p) {st:List Int×List Int} (h1:pOk n p st.1) (h2:qOk n st.2): ∀s,s<=4->
  pOk n p (lb4 m c p st s).1/\qOk n (lb4 m c p st s).2/\2*negs (lb4 m c p st s).1+(lb4 m c p st s).2.length<=2*negs st.1+st.2.length/\(lb4 m c p st s).2.length<=st.2.length+s
 |0,_=>⟨h1,h2,Nat.le_refl _,by simp [lb4]⟩
 |s+1,hs=>by
  obtain ⟨g1,g2,g3,g5⟩:=yl9 hm hc hp h1 h2 s (by omega)
  obtain ⟨k1,k2,k3,k5⟩:=ywt hm hc hp (show s<4 by omega) g1 g2
  exact ⟨k1,k2,by simp only [lb4];omega,by simp only [lb4];omega⟩
theorem ypn {m:List Int} {n:Nat} (hm:ybn m n) {p:Int} (hp:0<=p): ∀(f:Nat) (part q:List Int),pOk n p part->qOk n q->pOk n p (bfs m p f part q)
 |_,part,[],h,_=>by unfold bfs;exact h
 |0,part,_::_,h,_=>by simpa [bfs] using h
 |f+1,part,c::q,h,hq=>by
  simp only [bfs]
  obtain ⟨g1,g2,_⟩:=yl9 hm (hq c (by simp)) hp (st:=(part,q)) h (fun x hx=>hq x (by simp [hx])) 4 (Nat.le_refl _)
  exact ypn hm hp f _ _ g1 g2
theorem yjb {m:List Int} {n:Nat} (hm:ybn m n): ∀k,k<=n->pOk n (lbN m n k).2 (lbN m n k).1/\0<=(lbN m n k).2/\(lbN m n k).2<=k
 |0,_=>⟨⟨by simp [lbN],fun i hi=>by simp [lbN,hi]⟩,by simp [lbN],by simp [lbN]⟩
 |k+1,hk=>by
  obtain ⟨h1,h2,h3⟩:=yjb hm k (by omega)
  simp only [lbN,lbC]
  split
  ·exact ⟨h1,h2,by omega⟩
  ·refine ⟨?_,by omega,by omega⟩
   have:pOk n ((lbN m n k).2) (bfs m (lbN m n k).2 (2*n+1) ((lbN m n k).1.set k (lbN m n k).2) [(k:Int)]):=by
    refine ypn hm h2 _ _ _ ⟨by simp [h1.1],fun i hi=>?_⟩ (fun x hx=>by simp at hx;omega)
    have hkl:k<(lbN m n k).1.length:=by rw [h1.1];omega
    by_cases e:k=i
    ·subst e;rw [yat hkl];omega
    ·rw [yao e];exact h1.2 i hi
   exact ⟨this.1,fun i hi=>by have:=this.2 i hi;simp only;omega⟩
end Go.Proofs.YtbblgobamoabkaaGreatDoor
namespace Go.Proofs.YtbblgobamoabkaaGreatDoor
def yar (h b:Int):Int:=h-h % 4+(h % 4+b.tmod 4+4)% 4
theorem ydc {h b:Int} {n:Nat} (h0:0<=h) (h1:h<4*n):0<=yar h b/\yar h b<4*n:=by
 have: -4<b.tmod 4/\b.tmod 4<4:=⟨Int.lt_tmod_of_pos b (by decide),Int.tmod_lt_of_pos b (by decide)⟩
 unfold yar;omega
theorem y0t {m:List Int} {c p:Int} {s:Nat} {st:List Int×List Int} {i:Nat} (h:0<=st.1.getD i 0):(lb1 m c p s st).1.getD i 0=st.1.getD i 0:=by
 unfold lb1
 simp only
 split
 ·rename_i hn
  by_cases e:(m.getD (4*c+s).toNat 0/4).toNat=i
  ·subst e;omega
  ·simp only;rw [yao e]
 ·rfl
theorem ypo {m:List Int} {c p:Int} {st:List Int×List Int} {i:Nat} (h:0<=st.1.getD i 0): ∀s,(lb4 m c p st s).1.getD i 0=st.1.getD i 0
 |0=>rfl
 |s+1=>by
  have:=ypo (m:=m) (c:=c) (p:=p) h s
  simp only [lb4];rw [y0t (by omega),this]
theorem yla {m:List Int} {p:Int} {i:Nat}: ∀(f:Nat) (part q:List Int),0<=part.getD i 0->(bfs m p f part q).getD i 0=part.getD i 0
 |_,part,[],h=>by unfold bfs;rfl
 |0,part,_::_,h=>by simp [bfs]
 |f+1,part,c::q,h=>by
  simp only [bfs]
  have:=ypo (m:=m) (c:=c) (p:=p) (st:=(part,q)) h 4
  rw [yla f _ _ (by rw [this];exact h),this]
theorem yjc {m:List Int} {n:Nat} (hm:ybn m n): ∀k,k<=n-> ∀i,i<n->(lbN m n k).1.getD i 0<(lbN m n k).2/\(i<k->0<=(lbN m n k).1.getD i 0)
 |0,_,i,hi=>by simp [lbN,hi]
 |k+1,hk,i,hi=>by
  obtain ⟨h1,h2⟩:=yjc hm k (by omega) i hi
  obtain ⟨g1,g2,g3⟩:=yjb hm k (by omega)
  simp only [lbN,lbC]
  split
  ·rename_i h0
   refine ⟨h1,fun hik=>?_⟩
   rcases Nat.lt_or_ge i k with g|g
   ·exact h2 g
   ·rwa [show i=k by omega]
  ·rename_i h0
   have hkl:k<(lbN m n k).1.length:=by rw [g1.1];omega
   have hset:pOk n (lbN m n k).2 ((lbN m n k).1.set k (lbN m n k).2):=⟨by simp [g1.1],fun i hi=>by
    by_cases e:k=i
    ·subst e;rw [yat hkl];omega
    ·rw [yao e];exact g1.2 i hi⟩
   have hb:=ypn hm g2 (2*n+1) _ [(k:Int)] hset (fun x hx=>by simp at hx;omega)
   have hbi:=hb.2 i hi
   refine ⟨by simp only;omega,fun hik=>?_⟩
   have hnn:0<=((lbN m n k).1.set k (lbN m n k).2).getD i 0:=by
    by_cases e:k=i
    ·subst e;rw [yat hkl];exact g2
    ·rw [yao e];exact h2 (by omega)
   simp only
   rw [yla _ _ _ hnn];exact hnn
theorem yjd {m:List Int} {n:Nat} (hm:ybn m n):(yaw m n).1.length=n/\0<=(yaw m n).2/\(yaw m n).2<=n/\ ∀i,i<n->0<=(yaw m n).1.getD i 0/\(yaw m n).1.getD i 0<(yaw m n).2:=by
 obtain ⟨g1,g2,g3⟩:=yjb hm n (Nat.le_refl _)
 exact ⟨g1.1,g2,g3,fun i hi=>⟨(yjc hm n (Nat.le_refl _) i hi).2 hi,(yjc hm n (Nat.le_refl _) i hi).1⟩⟩
def decs (part:List Int) (np:Nat):Nat->List Int
 |0=>List.replicate np 0
 |k+1=>let e:=decs part np k;let p:=(part.getD k 0).toNat;e.set p (e.getD p 0-1)
theorem yj4 (part:List Int) (np:Nat): ∀k,(decs part np k).length=np/\ ∀i,-(k:Int)<=(decs part np k).getD i 0/\(decs part np k).getD i 0<=0
 |0=>⟨by simp [decs],fun i=>by
   by_cases h:i<np
   ·simp [decs,h]
   ·simp [decs,h]⟩
 |k+1=>by
  obtain ⟨h1,h2⟩:=yj4 part np k
  refine ⟨by simp [decs,h1],fun i=>?_⟩
  simp only [decs]
  by_cases e:(part.getD k 0).toNat=i
  ·by_cases hl:i<(decs part np k).length
   ·subst e;rw [yat hl];have:=h2 (part.getD k 0).toNat;omega
   ·have:=h2 i;rw [List.set_eq_of_length_le (by omega)];omega
  ·rw [yao e];have:=h2 i;omega
def mark (m:List Int):Nat->List Bool->Int->List Bool
 |0,s,_=>s
 |f+1,s,g=>if s.getD g.toNat false then s else mark m f (s.set g.toNat true) (yar (m.getD g.toNat 0) (-1))
def sph1 (m part:List Int) (h:Nat) (st:List Int×List Bool):List Int×List Bool:=
 if st.2.getD h false then st else
  let p:=(part.getD (h/4) 0).toNat
  (st.1.set p (st.1.getD p 0+1),mark m (m.length+1) st.2 h)
def sphN (m part:List Int) (np:Nat):Nat->List Int×List Bool
 |0=>(decs part np part.length,List.replicate m.length false)
 |h+1=>sph1 m part h (sphN m part np h)
def sphM (m:List Int) (n:Nat):Bool:=(sphN m (yaw m n).1 (yaw m n).2.toNat m.length).1.all (· ==2)
def unm (s:List Bool):Nat:=s.countP fun x=> !x
theorem ysh {l:List Bool} {i:Nat} (hi:i<l.length) (hl:l.getD i false=false):unm (l.set i true)+1=unm l:=by
 unfold unm
 induction l generalizing i with
 |nil=>simp at hi
 |cons x l ih=>
  cases i with
  |zero=>
   simp at hl
   simp [hl]
  |succ i=>
   simp only [List.set_cons_succ,List.countP_cons]
   have:=ih (i:=i) (by simpa using hi) (by simpa using hl)
   omega
theorem y48 (l:List Bool):unm l<=l.length:=List.countP_le_length
theorem ypp (m:List Int): ∀(f:Nat) (s:List Bool) (g:Int),(mark m f s g).length=s.length
 |0,_,_=>rfl
 |f+1,s,g=>by
  simp only [mark]
  split
  ·rfl
  ·rw [ypp m f];simp
theorem yf6 (m part:List Int) (np:Nat): ∀h,(sphN m part np h).1.length=np/\(sphN m part np h).2.length=m.length/\ ∀i,-(part.length:Int)<=(sphN m part np h).1.getD i 0/\(sphN m part np h).1.getD i 0<=h
 |0=>by
  obtain ⟨h1,h2⟩:=yj4 part np part.length
  exact ⟨h1,by simp [sphN],fun i=>by have:=h2 i;simp only [sphN];omega⟩
 |h+1=>by
  obtain ⟨h1,h2,h3⟩:=yf6 m part np h
  simp only [sphN,sph1]
  split
  ·exact ⟨h1,h2,fun i=>by have:=h3 i;omega⟩
  ·refine ⟨by simp [h1],by simp only;rw [ypp];exact h2,fun i=>?_⟩
   simp only
   by_cases e:(part.getD (h/4) 0).toNat=i
   ·by_cases hl:i<(sphN m part np h).1.length
    ·subst e;rw [yat hl];have:=h3 (part.getD (h/4) 0).toNat;omega
    ·have:=h3 i;rw [List.set_eq_of_length_le (by omega)];omega
   ·rw [yao e];have:=h3 i;omega
def outB (s:List Int) (h:Int):Bool:=if h % 4=1 then s.getD (h/4).toNat 0==1 else if h % 4=2 then true else if h % 4=3 then s.getD (h/4).toNat 0== -1 else false
def ycl (s:List Int) (k:Nat):Prop:= ∀i,i<k->s.getD i 0=1\/s.getD i 0= -1
def ydd (s m:List Int) (k:Nat):Prop:= ∀h:Nat,h<k->0<=m.getD h 0/\m.getD h 0<4*s.length/\m.getD h 0≠h/\m.getD (m.getD h 0).toNat 0=h/\outB s h≠outB s (m.getD h 0)
instance (s:List Int) (k:Nat):Decidable (ycl s k):=inferInstanceAs (Decidable (∀i,i<k->s.getD i 0=1\/s.getD i 0= -1))
instance (s m:List Int) (k:Nat):Decidable (ydd s m k):=inferInstanceAs (Decidable (∀h:Nat,h<k->0<=m.getD h 0/\m.getD h 0<4*s.length/\m.getD h 0≠h/\m.getD (m.getD h 0).toNat 0=h/\outB s h≠outB s (m.getD h 0)))
def ycc (s m:List Int) (L:Int):Bool:=decide (s.length<=64/\m.length=4*s.length/\0<=L/\L<=64/\ycl s s.length/\ydd s m (4*s.length))
def yap (s m:List Int) (L:Int):Bool:=ycc s m L&&sphM m s.length
theorem vbF {s m:List Int} {L:Int} (h: ¬(s.length<=64/\m.length=4*s.length/\0<=L/\L<=64/\ycl s s.length/\ydd s m (4*s.length))):false=yap s m L:=by
 unfold yap ycc;rw [decide_eq_false h];rfl
theorem vbT {s m:List Int} {L:Int} (h:s.length<=64/\m.length=4*s.length/\0<=L/\L<=64/\ycl s s.length/\ydd s m (4*s.length)):sphM m s.length=yap s m L:=by
 unfold yap ycc;rw [decide_eq_true h];rfl
theorem yun {s m:List Int} {L:Int}:yap s m L=true↔(s.length<=64/\m.length=4*s.length/\0<=L/\L<=64/\ycl s s.length/\ydd s m (4*s.length))/\sphM m s.length=true:=by
 unfold yap ycc
 rw [Bool.and_eq_true,decide_eq_true_iff]
theorem ygn {s:List Int} {k:Nat} (h:ycl s k) (hx:s.getD k 0=1\/s.getD k 0= -1):ycl s (k+1):=fun i hi=>by
 rcases Nat.lt_or_ge i k with g|g
 ·exact h i g
 ·rw [show i=k by omega];exact hx
theorem yje {s m:List Int} {k:Nat} (h:ydd s m k) (hx:0<=m.getD k 0/\m.getD k 0<4*s.length/\m.getD k 0≠k/\m.getD (m.getD k 0).toNat 0=k/\outB s k≠outB s (m.getD k 0)):ydd s m (k+1):=fun i hi=>by
 rcases Nat.lt_or_ge i k with g|g
 ·exact h i g
 ·rw [show i=k by omega];exact hx
theorem nbt {b:Bool} (h:b=false): ¬b=true:=by simp [h]
theorem yuo {l:List Int} {k:Nat} (hk:k<l.length) (h: ¬l.getD k 0=2):l.all (· ==2)=false:=by
 cases ha:l.all (· ==2) with
 |false=>rfl
 |true=>
  have:=List.all_eq_true.1 ha _ (List.getElem_mem hk)
  simp only [beq_iff_eq] at this
  simp [hk,this] at h
theorem ywu {l:List Int} (h: ∀i,i<l.length->l.getD i 0=2):l.all (· ==2)=true:=by
 rw [List.all_eq_true]
 intro x hx
 obtain ⟨i,hi,rfl⟩:=List.mem_iff_getElem.1 hx
 have:=h i hi
 simpa [hi] using this
end Go.Proofs.YtbblgobamoabkaaGreatDoor
namespace Go.Proofs.YtbblgobamoabkaaGreatDoor
def it (nx:Int->Int):Nat->Int->Int
 |0,x=>x
 |j+1,x=>nx (it nx j x)
def its (nx:Int->Int) (x:Int) (k:Nat):List Int:=(List.range k).map fun j=>it nx j x
theorem ypq (nx:Int->Int) (x:Int) (k:Nat):its nx x (k+1)=its nx x k++[it nx k x]:=by simp [its,List.range_succ]
theorem ym2 (nx:Int->Int) (x:Int) (k:Nat):(its nx x k).length=k:=by simp [its]
structure Per (nx:Int->Int) (x:Int) (k:Nat):Prop where
 pos:0<k
 back:it nx k x=x
 first: ∀j,0<j->j<k->it nx j x≠x
def ybt (seen:List Bool):List Int->List Bool
 |[]=>seen
 |g::r=>ybt (seen.set g.toNat true) r
theorem yfk (l:List Int): ∀seen,(ybt seen l).length=seen.length:=by
 induction l with
 |nil=>intro s;rfl
 |cons g r ih=>intro s;simp [ybt,ih]
theorem ygo (a:List Int): ∀(seen:List Bool) (b:List Int),ybt seen (a++b)=ybt (ybt seen a) b:=by
 induction a with
 |nil=>intro s b;rfl
 |cons g r ih=>intro s b;simp [ybt,ih]
theorem yee (l:List Int): ∀(seen:List Bool) (i:Nat),(∀g∈l,0<=g/\g.toNat<seen.length)->(ybt seen l).getD i false=(seen.getD i false||decide ((i:Int)∈l)):=by
 induction l with
 |nil=>intro s i _;simp [ybt]
 |cons g r ih=>
  intro s i h
  have hg:=h g (by simp)
  rw [ybt,ih _ _ (fun x hx=>by simpa using h x (by simp [hx]))]
  by_cases e:g.toNat=i
  ·subst e
   rw [yat hg.2]
   have:((g.toNat:Nat):Int)=g:=by omega
   simp [this]
  ·rw [yao e]
   have:(i:Int)≠g:=by omega
   simp [this]
def cys1 (want:Int->Bool) (orb:Int->List Int) (h:Nat) (st:List (List Int)×List Bool):List (List Int)×List Bool:=
 if st.2.getD h false|| !want h then st else (st.1++[orb h],ybt st.2 (orb h))
def cysN (N:Nat) (want:Int->Bool) (orb:Int->List Int):Nat->List (List Int)×List Bool
 |0=>([],List.replicate N false)
 |h+1=>cys1 want orb h (cysN N want orb h)
theorem yih (N:Nat) (want:Int->Bool) (orb:Int->List Int): ∀h,(cysN N want orb h).2.length=N/\(cysN N want orb h).1.length<=h
 |0=>by simp [cysN]
 |h+1=>by
  obtain ⟨h1,h2⟩:=yih N want orb h
  simp only [cysN,cys1]
  split
  ·exact ⟨h1,by omega⟩
  ·exact ⟨by simp only;rw [yfk];exact h1,by simp;omega⟩
end Go.Proofs.YtbblgobamoabkaaGreatDoor
namespace Go.Proofs.YtbblgobamoabkaaGreatDoor
theorem ypr: ∀(N:Nat) (f:Nat->Nat),(∀i,i<=N->f i<N)-> ∃i j,i<j/\j<=N/\f i=f j
 |0,f,h=>absurd (h 0 (Nat.le_refl _)) (by omega)
 |N+1,f,h=>by
  by_cases hx: ∃i,i<=N/\f i=f (N+1)
  ·obtain ⟨i,hi,e⟩:=hx;exact ⟨i,N+1,by omega,by omega,e⟩
  ·have hne: ∀i,i<=N->f i≠f (N+1):=fun i hi e=>hx ⟨i,hi,e⟩
   have hg: ∀i,i<=N->(if f i=N then f (N+1) else f i)<N:=by
    intro i hi
    have h1:=h i (by omega)
    have h2:=h (N+1) (by omega)
    have h3:=hne i hi
    split<;>omega
   obtain ⟨i,j,hij,hj,e⟩:=ypr N (fun i=>if f i=N then f (N+1) else f i) hg
   refine ⟨i,j,hij,by omega,?_⟩
   have h1:=hne i (by omega)
   have h2:=hne j hj
   split at e<;>split at e<;>omega
theorem yma {p:Nat->Prop}: ∀n,p n-> ∃k,k<=n/\p k/\ ∀m,m<k-> ¬p m:=by
 intro n
 induction n using Nat.strongRecOn with
 |_ n ih=>
  intro hn
  by_cases hx: ∃m,m<n/\p m
  ·obtain ⟨m,hm,hp⟩:=hx
   obtain ⟨k,h1,h2,h3⟩:=ih m hm hp
   exact ⟨k,by omega,h2,h3⟩
  ·exact ⟨n,Nat.le_refl _,hn,fun m hm hp=>hx ⟨m,hm,hp⟩⟩
theorem ymb (nx:Int->Int) (i j:Nat) (x:Int):it nx (i+j) x=it nx i (it nx j x):=by
 induction i with
 |zero=>simp [it]
 |succ i ih=>rw [Nat.add_right_comm];simp [it,ih]
structure Perm (nx:Int->Int) (N:Nat) (S:Int->Prop):Prop where
 rng: ∀x,S x->0<=x/\x<N
 closed: ∀x,S x->S (nx x)
 inj: ∀x y,S x->S y->nx x=nx y->x=y
section
variable {nx:Int->Int} {N:Nat} {S:Int->Prop}
theorem Perm.it (h:Perm nx N S) {x:Int} (hx:S x): ∀j,S (it nx j x)
 |0=>hx
 |j+1=>h.closed _ (h.it hx j)
theorem Perm.cancel (h:Perm nx N S) {x:Int} (hx:S x): ∀i d,Proofs.YtbblgobamoabkaaGreatDoor.it nx (i+d) x=Proofs.YtbblgobamoabkaaGreatDoor.it nx i x->Proofs.YtbblgobamoabkaaGreatDoor.it nx d x=x
 |0,d,e=>by simpa [Proofs.YtbblgobamoabkaaGreatDoor.it] using e
 |i+1,d,e=>by
  rw [Nat.add_right_comm] at e
  exact h.cancel hx i d (h.inj _ _ (h.it hx _) (h.it hx _) e)
theorem Perm.per (h:Perm nx N S) {x:Int} (hx:S x): ∃k,k<=N/\Per nx x k:=by
 obtain ⟨i,j,hij,hj,e⟩:=ypr N (fun j=>(Proofs.YtbblgobamoabkaaGreatDoor.it nx j x).toNat) (fun i _=>by have:=h.rng _ (h.it hx i);omega)
 have r1:=h.rng _ (h.it hx i)
 have r2:=h.rng _ (h.it hx j)
 have e':Proofs.YtbblgobamoabkaaGreatDoor.it nx (i+(j-i)) x=Proofs.YtbblgobamoabkaaGreatDoor.it nx i x:=by rw [show i+(j-i)=j by omega];omega
 have hd:=h.cancel hx i (j-i) e'
 obtain ⟨k,h1,⟨h2,h3⟩,h4⟩:=yma (p:=fun d=>0<d/\Proofs.YtbblgobamoabkaaGreatDoor.it nx d x=x) (j-i) ⟨by omega,hd⟩
 exact ⟨k,by omega,h2,h3,fun m hm hlt e=>h4 m hlt ⟨hm,e⟩⟩
theorem ywv {x:Int} {k:Nat} (h:Per nx x k): ∀j,it nx j x=it nx (j % k) x:=by
 intro j
 induction j using Nat.strongRecOn with
 |_ j ih=>
  rcases Nat.lt_or_ge j k with g|g
  ·rw [Nat.mod_eq_of_lt g]
  ·have h0:=h.pos
   have:it nx j x=it nx (j-k) x:=by
    conv=>lhs;rw [show j=(j-k)+k by omega]
    rw [ymb,h.back]
   rw [this,ih (j-k) (by omega),←Nat.mod_eq_sub_mod g]
theorem yj5 {x y:Int} {k:Nat}:y∈its nx x k↔ ∃j,j<k/\it nx j x=y:=by simp [its]
theorem ykv {x y:Int} {k:Nat} (h:Per nx x k):y∈its nx x k↔ ∃j,it nx j x=y:=by
 rw [yj5]
 constructor
 ·rintro ⟨j,_,e⟩;exact ⟨j,e⟩
 ·rintro ⟨j,e⟩;exact ⟨j % k,Nat.mod_lt _ h.pos,by rw [←ywv h,e]⟩
theorem yup {x y:Int} {k:Nat} (h:Per nx x k) (hy: ∃j,it nx j x=y): ∃j,it nx j y=x:=by
 obtain ⟨j,e⟩:=hy
 have h0:=h.pos
 refine ⟨k-j % k,?_⟩
 have hlt:=Nat.mod_lt j h0
 rw [←e,ywv h j,←ymb,show k-j % k+j % k=k by omega,h.back]
theorem yrq {x y z:Int} (h1: ∃j,it nx j x=y) (h2: ∃j,it nx j y=z): ∃j,it nx j x=z:=by
 obtain ⟨i,rfl⟩:=h1;obtain ⟨j,rfl⟩:=h2;exact ⟨j+i,ymb nx j i x⟩
theorem yww (h:Perm nx N S) {x:Int} {k:Nat} (hx:S x) (hp:Per nx x k):(its nx x k).Nodup:=by
 unfold its
 rw [List.nodup_iff_pairwise_ne,List.pairwise_map]
 refine List.Pairwise.imp_of_mem ?_ (List.pairwise_lt_range)
 intro a b ha hb hlt e
 have hb:=List.mem_range.1 hb
 have:=h.cancel hx a (b-a) (by rw [show a+(b-a)=b by omega];exact e.symm)
 exact hp.first (b-a) (by omega) (by omega) this
end
def ybc (x:Int) (l:List Int):Bool:=l.all fun y=>decide (x<=y)
theorem yem {x:Int} {l:List Int}:ybc x l=true↔ ∀y∈l,x<=y:=by simp [ybc]
theorem ysi {N:Nat} {want:Int->Bool} {orb:Int->List Int} (hr: ∀x:Nat,x<N->want x=true-> ∀y∈orb x,0<=y/\y<N) (hx: ∀x:Nat,x<N->want x=true->(x:Int)∈orb x)
  (hs: ∀x y:Nat,x<N->y<N->want x=true->(y:Int)∈orb x->want y=true/\(x:Int)∈orb y)
  (ht: ∀x y z:Nat,x<N->y<N->z<N->want x=true->(y:Int)∈orb x->(z:Int)∈orb y->(z:Int)∈orb x): ∀h,h<=N->
  (cysN N want orb h).1=((List.range h).filter fun i:Nat=>want i&&ybc i (orb i)).map (fun i:Nat=>orb i)/\
  ∀g,g<N->((cysN N want orb h).2.getD g false=true↔ ∃x:Nat,x<h/\want x=true/\(g:Int)∈orb x)
 |0,_=>⟨by simp [cysN],fun g hg=>by simp [cysN,hg]⟩
 |h+1,hh=>by
  obtain ⟨h1,h2⟩:=ysi hr hx hs ht h (by omega)
  obtain ⟨hl,_⟩:=yih N want orb h
  have h3:=h2 h (by omega)
  simp only [cysN,cys1]
  by_cases hc:(cysN N want orb h).2.getD h false=true\/want h=false
  ·rw [if_pos (by rcases hc with hc|hc<;>rw [hc]<;>simp)]
   have hf:(want h&&ybc h (orb h))=false:=by
    rcases hc with hc|hc
    ·obtain ⟨x,hxh,hwx,hm⟩:=h3.1 hc
     cases hw:want h with
     |false=>simp
     |true=>
      have hxo:=(hs x h (by omega) (by omega) hwx hm).2
      cases hlb:ybc h (orb h) with
      |false=>simp
      |true=>have:=yem.1 hlb _ hxo;omega
    ·simp [hc]
   refine ⟨by rw [h1,List.range_succ,List.filter_append];simp [hf],fun g hg=>?_⟩
   rw [h2 g hg]
   constructor
   ·rintro ⟨x,h4,h5⟩;exact ⟨x,by omega,h5⟩
   ·rintro ⟨x,h4,h5,h6⟩
    rcases Nat.lt_or_ge x h with q|q
    ·exact ⟨x,q,h5,h6⟩
    ·obtain rfl:x=h:=by omega
     rcases hc with hc|hc
     ·obtain ⟨z,hz,hwz,hm⟩:=h3.1 hc
      exact ⟨z,hz,hwz,ht z x g (by omega) (by omega) hg hwz hm h6⟩
     ·simp [hc] at h5
  ·have hw:want h=true:=by cases hw:want h<;>simp_all
   have hn: ¬(cysN N want orb h).2.getD h false=true:=fun e=>hc (.inl e)
   have hlb:ybc h (orb h)=true:=yem.2 fun y hy=>by
    have hry:=hr h (by omega) hw y hy
    obtain ⟨n,rfl⟩: ∃n:Nat,y=n:=⟨y.toNat,by omega⟩
    rcases Nat.lt_or_ge n h with q|q
    ·have:=hs h n (by omega) (by omega) hw hy
     exact absurd (h3.2 ⟨n,q,this.1,this.2⟩) hn
    ·omega
   rw [if_neg (by simp only [Bool.not_eq_true] at hn;rw [hn,hw];simp)]
   refine ⟨by simp only [h1];rw [List.range_succ,List.filter_append];simp [hw,hlb],fun g hg=>?_⟩
   simp only
   rw [yee _ _ _ (fun y hy=>by have:=hr h (by omega) hw y hy;exact ⟨this.1,by omega⟩),Bool.or_eq_true,h2 g hg,decide_eq_true_iff]
   constructor
   ·rintro (⟨x,h4,h5⟩|h4)
    ·exact ⟨x,by omega,h5⟩
    ·exact ⟨h,by omega,hw,h4⟩
   ·rintro ⟨x,h4,h5,h6⟩
    rcases Nat.lt_or_ge x h with q|q
    ·exact .inl ⟨x,q,h5,h6⟩
    ·obtain rfl:x=h:=by omega
     exact .inr h6
end Go.Proofs.YtbblgobamoabkaaGreatDoor
namespace Go.Proofs.YtbblgobamoabkaaGreatDoor
def nb (m:List Int) (a s:Nat):Nat:=(m.getD (4*a+s) 0/4).toNat
inductive Conn (m:List Int):Nat->Nat->Prop
 |refl (a:Nat):Conn m a a
 |step {a b:Nat} (s:Nat) (hs:s<4) (h:Conn m a b):Conn m a (nb m b s)
structure yau (m:List Int) (n:Nat):Prop where
 ok:ybn m n
 inv: ∀h:Nat,h<4*n->m.getD (m.getD h 0).toNat 0=h
section
variable {m:List Int} {n:Nat}
theorem Conn.trans {a b c:Nat} (h1:Conn m a b) (h2:Conn m b c):Conn m a c:=by
 induction h2 with
 |refl=>exact h1
 |step s hs _ ih=>exact .step s hs ih
theorem yau.nb_lt (hp:yau m n) {a s:Nat} (ha:a<n) (hs:s<4):nb m a s<n:=by
 have:=hp.ok.2 (4*a+s) (by omega);unfold nb;omega
theorem yau.back (hp:yau m n) {a s:Nat} (ha:a<n) (hs:s<4): ∃t,t<4/\nb m (nb m a s) t=a:=by
 have h1:=hp.ok.2 (4*a+s) (by omega)
 have h2:=hp.inv (4*a+s) (by omega)
 refine ⟨(m.getD (4*a+s) 0 % 4).toNat,by omega,?_⟩
 unfold nb
 rw [show 4*(m.getD (4*a+s) 0/4).toNat+(m.getD (4*a+s) 0 % 4).toNat=(m.getD (4*a+s) 0).toNat by omega,h2]
 omega
theorem Conn.lt (hp:yau m n) {a b:Nat} (h:Conn m a b) (ha:a<n):b<n:=by
 induction h with
 |refl=>exact ha
 |step s hs _ ih=>exact hp.nb_lt ih hs
theorem Conn.symm (hp:yau m n) {a b:Nat} (h:Conn m a b) (ha:a<n):Conn m b a:=by
 induction h with
 |refl=>exact .refl _
 | @step b s hs h ih=>
   obtain ⟨t,ht,e⟩:=hp.back (h.lt hp ha) hs
   have h1:=Conn.step t ht (Conn.refl (m:=m) (nb m b s))
   rw [e] at h1
   exact h1.trans ih
theorem Conn.closed (hp:yau m n) {S:Nat->Prop} (hc: ∀a s,a<n->s<4->S a->S (nb m a s)) {a b:Nat} (h:Conn m a b) (ha:a<n) (hS:S a):S b:=by
 induction h with
 |refl=>exact hS
 |step s hs h ih=>exact hc _ s (h.lt hp ha) hs ih
structure BJ (m:List Int) (n:Nat) (p:Int) (c:Nat) (part q:List Int) (at':Nat) (s:Nat):Prop where
 pok:pOk n p part
 qok:qOk n q
 old: ∀a,a<n->0<=part.getD a 0->part.getD a 0≠p-> ∀s,s<4->part.getD (nb m a s) 0=part.getD a 0
 cur: ∀a,a<n->part.getD a 0=p->(a:Int)∉q->a≠at'-> ∀s,s<4->part.getD (nb m a s) 0=p
 con: ∀a,a<n->part.getD a 0=p->Conn m c a
 que: ∀x∈q,part.getD x.toNat 0=p
 hd:at'<n->part.getD at' 0=p/\ ∀s',s'<s->part.getD (nb m at' s') 0=p
theorem BJ.one (hp:yau m n) {p:Int} (h0:0<=p) {c a s:Nat} {st:List Int×List Int} (h:BJ m n p c st.1 st.2 a s) (ha:a<n) (hs:s<4):BJ m n p c (lb1 m a p s st).1 (lb1 m a p s st).2 a (s+1):=by
 have hlt:=hp.nb_lt ha hs
 have hok:=ywt hp.ok (c:=(a:Int)) (p:=p) ⟨by omega,by omega⟩ h0 hs h.pok h.qok
 obtain ⟨hd1,hd2⟩:=h.hd ha
 have e0:m.getD (4*(a:Int)+s).toNat 0/4=(nb m a s:Int):=by
  have:=hp.ok.2 (4*a+s) (by omega)
  unfold nb
  rw [show (4*(a:Int)+s).toNat=4*a+s by omega];omega
 have hl1:=h.pok.1
 by_cases hn:st.1.getD (nb m a s) 0<0
 ·have e:lb1 m a p s st=(st.1.set (nb m a s) p,st.2++[(nb m a s:Int)]):=by
   unfold lb1;simp only;rw [e0];simp only [Int.toNat_natCast];rw [if_pos hn]
  rw [e] at hok⊢
  have hg: ∀b,(st.1.set (nb m a s) p).getD b 0=if b=nb m a s then p else st.1.getD b 0:=by
   intro b
   by_cases eb:nb m a s=b
   ·subst eb;rw [if_pos rfl,yat (by omega)]
   ·rw [yao eb,if_neg (Ne.symm eb)]
  refine ⟨hok.1,hok.2.1,?_,?_,?_,?_,?_⟩
  ·intro b hb h1 h2 t ht
   simp only [hg] at h1 h2⊢
   by_cases eb:b=nb m a s
   ·rw [if_pos eb] at h2;omega
   ·rw [if_neg eb] at h1 h2⊢
    have h3:=h.old b hb h1 h2 t ht
    rw [if_neg ?_,h3]
    intro e';rw [e'] at h3;omega
  ·intro b hb h1 h2 h3 t ht
   simp only [hg] at h1⊢
   have eb:b≠nb m a s:=fun e'=>h2 (by simp [e'])
   rw [if_neg eb] at h1
   have:=h.cur b hb h1 (fun hm=>h2 (by simp [hm])) h3 t ht
   split
   ·rfl
   ·exact this
  ·intro b hb h1
   simp only [hg] at h1
   by_cases eb:b=nb m a s
   ·subst eb;exact .step s hs (h.con a ha hd1)
   ·rw [if_neg eb] at h1;exact h.con b hb h1
  ·intro x hx
   rcases List.mem_append.1 hx with hx|hx
   ·have:=h.que x hx
    simp only [hg];split
    ·rfl
    ·exact this
   ·rw [List.mem_singleton.1 hx];simp only [hg,Int.toNat_natCast,if_pos]
  ·intro _
   simp only [hg]
   refine ⟨?_,fun s' hs'=>?_⟩
   ·split
    ·rfl
    ·exact hd1
   ·rcases Nat.lt_or_ge s' s with g|g
    ·split
     ·rfl
     ·exact hd2 s' g
    ·rw [show s'=s by omega,if_pos rfl]
 ·have e:lb1 m a p s st=st:=by
   unfold lb1;simp only;rw [e0];simp only [Int.toNat_natCast];rw [if_neg hn]
  rw [e]
  refine ⟨h.pok,h.qok,h.old,h.cur,h.con,h.que,fun _=>⟨hd1,fun s' hs'=>?_⟩⟩
  rcases Nat.lt_or_ge s' s with g|g
  ·exact hd2 s' g
  ·obtain rfl:s'=s:=by omega
   by_cases ep:st.1.getD (nb m a s') 0=p
   ·exact ep
   ·obtain ⟨t,ht,eb⟩:=hp.back ha hs
    have:=h.old (nb m a s') hlt (by omega) ep t ht
    rw [eb] at this
    omega
theorem BJ.four (hp:yau m n) {p:Int} (h0:0<=p) {c a:Nat} {st:List Int×List Int} (h:BJ m n p c st.1 st.2 a 0) (ha:a<n): ∀s,s<=4->BJ m n p c (lb4 m a p st s).1 (lb4 m a p st s).2 a s
 |0,_=>h
 |s+1,hs=>(BJ.four hp h0 h ha s (by omega)).one hp h0 ha (by omega)
theorem ywx (hp:yau m n) {p:Int} (h0:0<=p) {c:Nat}: ∀(f:Nat) (part q:List Int),BJ m n p c part q n 0->2*negs part+q.length<=f->BJ m n p c (bfs m p f part q) [] n 0
 |f,part,[],h,_=>by unfold bfs;exact h
 |0,part,_::_,_,hf=>by simp at hf
 |f+1,part,x::q,h,hf=>by
  obtain ⟨hx0,hx1⟩:=h.qok x (by simp)
  have hxp:=h.que x (by simp)
  obtain ⟨a,rfl⟩: ∃a:Nat,x=a:=⟨x.toNat,by omega⟩
  have ha:a<n:=by omega
  simp only [Int.toNat_natCast] at hxp
  have h1:BJ m n p c (part,q).1 (part,q).2 a 0:=⟨h.pok,fun y hy=>h.qok y (by simp [hy]),h.old,fun b hb hbp hbq hne s hs=>h.cur b hb hbp (by simp only [List.mem_cons,not_or];exact ⟨by omega,hbq⟩) (by omega) s hs,h.con,fun y hy=>h.que y (by simp [hy]),fun _=>⟨hxp,fun s' hs'=>by omega⟩⟩
  have h2:=BJ.four hp h0 h1 ha 4 (Nat.le_refl _)
  obtain ⟨_,_,h3,_⟩:=yl9 hp.ok (c:=(a:Int)) (p:=p) ⟨by omega,by omega⟩ h0 (st:=(part,q)) h1.pok h1.qok 4 (Nat.le_refl _)
  simp only [bfs]
  simp only [List.length_cons] at hf
  simp only at h3
  refine ywx hp h0 f _ _ ⟨h2.pok,h2.qok,h2.old,fun b hb hbp hbq _ s hs=>?_,h2.con,h2.que,fun hh=>by omega⟩ (by omega)
  by_cases e:b=a
  ·subst e;exact (h2.hd ha).2 s hs
  ·exact h2.cur b hb hbp hbq e s hs
theorem y49 (m:List Int) (c p:Int) (s:Nat) (st:List Int×List Int) (i:Nat):(lb1 m c p s st).1.getD i 0=st.1.getD i 0\/(lb1 m c p s st).1.getD i 0=p:=by
 unfold lb1
 simp only
 split
 ·by_cases e:(m.getD (4*c+s).toNat 0/4).toNat=i
  ·subst e
   by_cases hl:(m.getD (4*c+s).toNat 0/4).toNat<st.1.length
   ·right;simp only;rw [yat hl]
   ·left;simp only;rw [List.set_eq_of_length_le (by omega)]
  ·left;simp only;rw [yao e]
 ·exact .inl rfl
theorem ywy (m:List Int) (c p:Int) (st:List Int×List Int) (i:Nat): ∀s,(lb4 m c p st s).1.getD i 0=st.1.getD i 0\/(lb4 m c p st s).1.getD i 0=p
 |0=> .inl rfl
 |s+1=>by
  rcases y49 m c p s (lb4 m c p st s) i with h|h
  ·rcases ywy m c p st i s with g|g
   ·exact .inl (by simp only [lb4];rw [h,g])
   ·exact .inr (by simp only [lb4];rw [h,g])
  ·exact .inr h
theorem ywz (m:List Int) (p:Int) (i:Nat): ∀(f:Nat) (part q:List Int),(bfs m p f part q).getD i 0=part.getD i 0\/(bfs m p f part q).getD i 0=p
 |_,part,[]=>by unfold bfs;exact .inl rfl
 |0,part,_::_=>by simp [bfs]
 |f+1,part,c::q=>by
  simp only [bfs]
  rcases ywz m p i f (lb4 m c p (part,q) 4).1 (lb4 m c p (part,q) 4).2 with h|h
  ·rcases ywy m c p (part,q) i 4 with g|g
   ·exact .inl (h.trans g)
   ·exact .inr (h.trans g)
  ·exact .inr h
structure LI (m:List Int) (n:Nat) (st:List Int×Int):Prop where
 clo: ∀a,a<n->0<=st.1.getD a 0-> ∀s,s<4->st.1.getD (nb m a s) 0=st.1.getD a 0
 con: ∀a b,a<n->b<n->0<=st.1.getD a 0->st.1.getD a 0=st.1.getD b 0->Conn m a b
 att: ∀p:Nat,(p:Int)<st.2-> ∃a,a<n/\st.1.getD a 0=p
theorem yps (hp:yau m n): ∀k,k<=n->LI m n (lbN m n k)
 |0,_=>⟨fun a ha h=>by simp [lbN,ha] at h,fun a b ha _ h=>by simp [lbN,ha] at h,fun p h=>by simp [lbN] at h;omega⟩
 |k+1,hk=>by
  have ih:=yps hp k (by omega)
  obtain ⟨g1,g2,g3⟩:=yjb hp.ok k (by omega)
  have glt:=fun i hi=>(yjc hp.ok k (by omega) i hi).1
  simp only [lbN,lbC]
  split
  ·exact ih
  ·rename_i hneg
   have hneg:(lbN m n k).1.getD k 0<0:=by omega
   generalize lbN m n k=st at*
   obtain ⟨part,p⟩:=st
   simp only at*
   have hpl:=g1.1
   have hset: ∀b,(part.set k p).getD b 0=if b=k then p else part.getD b 0:=by
    intro b
    by_cases eb:k=b
    ·subst eb;rw [if_pos rfl,yat (by omega)]
    ·rw [yao eb,if_neg (Ne.symm eb)]
   have hb0:BJ m n p k (part.set k p) [(k:Int)] n 0:=by
    refine ⟨⟨by simp [hpl],fun i hi=>by rw [hset];have:=g1.2 i hi;split<;>omega⟩,fun x hx=>by simp at hx;omega,?_,?_,?_,fun x hx=>by simp at hx;subst hx;simp only [Int.toNat_natCast];rw [hset,if_pos rfl],fun hh=>by omega⟩
    ·intro a ha h1 h2 s hs
     simp only [hset] at h1 h2⊢
     by_cases e:a=k
     ·rw [if_pos e] at h2;omega
     ·rw [if_neg e] at h1 h2⊢
      have:part.getD (nb m a s) 0=part.getD a 0:=ih.clo a ha h1 s hs
      rw [if_neg ?_,this]
      intro e';rw [e'] at this;omega
    ·intro a ha h1 h2 _ s hs
     simp only [hset] at h1
     by_cases e:a=k
     ·subst e;simp at h2
     ·rw [if_neg e] at h1;have:=glt a ha;omega
    ·intro a ha h1
     simp only [hset] at h1
     by_cases e:a=k
     ·subst e;exact .refl _
     ·rw [if_neg e] at h1;have:=glt a ha;omega
   have hn1:=yk9 (i:=k) (p:=p) (by omega) hneg g2
   have hn2:=ysg part
   have hb:=ywx hp g2 (2*n+1) _ _ hb0 (by simp only [List.length_singleton];omega)
   have hkeep:=fun i=>yla (m:=m) (p:=p) (i:=i) (2*n+1) (part.set k p) [(k:Int)]
   have hck:(bfs m p (2*n+1) (part.set k p) [(k:Int)]).getD k 0=p:=by
    rw [hkeep k (by rw [hset,if_pos rfl];exact g2),hset,if_pos rfl]
   have hor:=fun i=>ywz m p i (2*n+1) (part.set k p) [(k:Int)]
   generalize bfs m p (2*n+1) (part.set k p) [(k:Int)]=res at*
   have hold: ∀a,a<n->0<=part.getD a 0->res.getD a 0=part.getD a 0:=by
    intro a ha h1
    have e:a≠k:=fun e=>by subst e;omega
    have h2:=hkeep a
    rw [hset,if_neg e] at h2
    exact h2 h1
   have hnew: ∀a,a<n->0<=res.getD a 0->res.getD a 0≠p->0<=part.getD a 0:=by
    intro a ha h1 h2
    have h3:=hor a
    rw [hset] at h3
    rcases h3 with h3|h3
    ·split at h3
     ·omega
     ·omega
    ·omega
   have c1: ∀a,a<n->0<=res.getD a 0-> ∀s,s<4->res.getD (nb m a s) 0=res.getD a 0:=fun a ha h1 s hs=>by
    by_cases e:res.getD a 0=p
    ·rw [e];exact hb.cur a ha e (by simp) (by omega) s hs
    ·exact hb.old a ha h1 e s hs
   have c2: ∀a b,a<n->b<n->0<=res.getD a 0->res.getD a 0=res.getD b 0->Conn m a b:=fun a b ha hbn h1 h2=>by
    by_cases e:res.getD a 0=p
    ·exact (Conn.symm hp (hb.con a ha e) (by omega)).trans (hb.con b hbn (by omega))
    ·have ha':=hnew a ha h1 e
     have hb':=hnew b hbn (by omega) (by omega)
     exact ih.con a b ha hbn ha' (by show part.getD a 0=part.getD b 0;rw [←hold a ha ha',←hold b hbn hb'];exact h2)
   have c3: ∀q:Nat,(q:Int)<p+1-> ∃a,a<n/\res.getD a 0=q:=fun q hq=>by
    rcases Int.lt_or_le q p with g|g
    ·obtain ⟨a,ha,e⟩:=ih.att q g
     have e:part.getD a 0=q:=e
     exact ⟨a,ha,by rw [hold a ha (by omega),e]⟩
    ·exact ⟨k,by omega,by rw [hck];omega⟩
   exact ⟨c1,c2,c3⟩
theorem ymc (hp:yau m n) {a b:Nat} (ha:a<n) (hb:b<n):(yaw m n).1.getD a 0=(yaw m n).1.getD b 0↔Conn m a b:=by
 have h:=yps hp n (Nat.le_refl _)
 have h0:=fun i hi=>(yjc hp.ok n (Nat.le_refl _) i hi).2 hi
 constructor
 ·exact fun e=>h.con a b ha hb (h0 a ha) e
 ·intro hc
  refine (Conn.closed hp (S:=fun x=>x<n/\(yaw m n).1.getD x 0=(yaw m n).1.getD a 0) ?_ hc ha ⟨ha,rfl⟩).2.symm
  intro x s hx hs ⟨_,e⟩
  exact ⟨hp.nb_lt hx hs,by rw [←e];exact h.clo x hx (h0 x hx) s hs⟩
theorem yuq (hp:yau m n) {p:Nat} (h:(p:Int)<(yaw m n).2): ∃a,a<n/\(yaw m n).1.getD a 0=p:=(yps hp n (Nat.le_refl _)).att p h
def rl1 (m:List Int) (h:Nat) (l:List Int):List Int:=(l.set (h/4) (min (l.getD (h/4) 0) (l.getD (m.getD h 0/4).toNat 0))).set (m.getD h 0/4).toNat (min (l.getD (h/4) 0) (l.getD (m.getD h 0/4).toNat 0))
def rlH (m l:List Int):Nat->List Int
 |0=>l
 |h+1=>rl1 m h (rlH m l h)
def rlP (m:List Int) (n:Nat):Nat->List Int
 |0=>(List.range n).map fun (i:Nat)=>(i:Int)
 |k+1=>rlH m (rlP m n k) (4*n)
def RI (m:List Int) (n:Nat) (l:List Int):Prop:=l.length=n/\ ∀c,c<n->0<=l.getD c 0/\l.getD c 0<=c/\Conn m c (l.getD c 0).toNat
theorem ysj (hp:yau m n) {l:List Int} (hl:l.length=n) {h:Nat} (hh:h<4*n) (c:Nat):(rl1 m h l).getD c 0=if c=h/4\/c=nb m (h/4) (h % 4) then min (l.getD (h/4) 0) (l.getD (nb m (h/4) (h % 4)) 0) else l.getD c 0:=by
 have e:(m.getD h 0/4).toNat=nb m (h/4) (h % 4):=by unfold nb;rw [show 4*(h/4)+h % 4=h by omega]
 have hlt:=hp.nb_lt (a:=h/4) (s:=h % 4) (by omega) (by omega)
 unfold rl1
 rw [e]
 by_cases e1:nb m (h/4) (h % 4)=c
 ·subst e1;rw [yat (by simp;omega),if_pos (.inr rfl)]
 ·rw [yao e1]
  by_cases e2:h/4=c
  ·subst e2;rw [yat (by omega),if_pos (.inl rfl)]
  ·rw [yao e2,if_neg (by omega)]
theorem y3m (l:List Int) (h:Nat):(rl1 m h l).length=l.length:=by simp [rl1]
theorem yw0 (hp:yau m n) {l:List Int} (hl:RI m n l) {h:Nat} (hh:h<4*n):RI m n (rl1 m h l)/\ ∀c,c<n->(rl1 m h l).getD c 0<=l.getD c 0:=by
 have hlt:=hp.nb_lt (a:=h/4) (s:=h % 4) (by omega) (by omega)
 have h1:=hl.2 (h/4) (by omega)
 have h2:=hl.2 _ hlt
 have hc:Conn m (h/4) (nb m (h/4) (h % 4)):= .step _ (by omega) (.refl _)
 have hc':=hc.symm hp (by omega)
 have key: ∀c,c<n->(0<=(rl1 m h l).getD c 0/\(rl1 m h l).getD c 0<=c/\Conn m c ((rl1 m h l).getD c 0).toNat)/\(rl1 m h l).getD c 0<=l.getD c 0:=by
  intro c hcn
  rw [ysj hp hl.1 hh]
  by_cases e:c=h/4\/c=nb m (h/4) (h % 4)
  ·rw [if_pos e]
   rw [Int.min_def]
   split
   ·rcases e with e|e
    ·subst e;exact ⟨⟨h1.1,h1.2.1,h1.2.2⟩,Int.le_refl _⟩
    ·subst e;exact ⟨⟨h1.1,by omega,hc'.trans h1.2.2⟩,by omega⟩
   ·rcases e with e|e
    ·subst e;exact ⟨⟨h2.1,by omega,hc.trans h2.2.2⟩,by omega⟩
    ·subst e;exact ⟨⟨h2.1,h2.2.1,h2.2.2⟩,Int.le_refl _⟩
  ·rw [if_neg e];exact ⟨hl.2 c hcn,Int.le_refl _⟩
 exact ⟨⟨by rw [y3m];exact hl.1,fun c hc=>(key c hc).1⟩,fun c hc=>(key c hc).2⟩
theorem ymd (hp:yau m n) {l:List Int} (hl:RI m n l): ∀h,h<=4*n->RI m n (rlH m l h)/\ ∀c,c<n->(rlH m l h).getD c 0<=l.getD c 0
 |0,_=>⟨hl,fun c _=>Int.le_refl _⟩
 |h+1,hh=>by
  obtain ⟨h1,h2⟩:=ymd hp hl h (by omega)
  obtain ⟨h3,h4⟩:=yw0 hp h1 (h:=h) (by omega)
  exact ⟨h3,fun c hc=>Int.le_trans (h4 c hc) (h2 c hc)⟩
theorem yw1 (hp:yau m n) {l:List Int} (hl:RI m n l): ∀h,h<=4*n-> ∀c s,4*c+s<h->s<4->(rlH m l h).getD (nb m c s) 0<=l.getD c 0
 |0,_,c,s,hcs,_=>by omega
 |h+1,hh,c,s,hcs,hs=>by
  obtain ⟨h1,h2⟩:=ymd hp hl h (by omega)
  obtain ⟨h3,h4⟩:=yw0 hp h1 (h:=h) (by omega)
  rcases Nat.lt_or_ge (4*c+s) h with q|q
  ·exact Int.le_trans (h4 _ (hp.nb_lt (by omega) hs)) (yw1 hp hl h (by omega) c s q hs)
  ·have e1:h/4=c:=by omega
   have e2:h % 4=s:=by omega
   simp only [rlH]
   rw [ysj hp h1.1 (by omega),e1,e2,if_pos (.inr rfl)]
   have:=h2 c (by omega)
   omega
theorem ygp (hp:yau m n): ∀k,RI m n (rlP m n k)
 |0=>⟨by simp [rlP],fun c hc=>by simp [rlP,hc];exact .refl _⟩
 |k+1=>(ymd hp (ygp hp k) (4*n) (Nat.le_refl _)).1
theorem ypt {p q:Nat->Bool} (l:List Nat) (h: ∀x∈l,p x=true->q x=true):l.countP p<=l.countP q:=by
 induction l with
 |nil=>simp
 |cons x l ih=>
  have:=ih (fun y hy=>h y (by simp [hy]))
  have hx:=h x (by simp)
  simp only [List.countP_cons]
  cases hpx:p x<;>cases hqx:q x<;>simp_all<;>omega
theorem yjf {p q:Nat->Bool} (l:List Nat) (h: ∀x∈l,p x=true->q x=true) {y:Nat} (hy:y∈l) (h1:p y=false) (h2:q y=true):l.countP p<l.countP q:=by
 induction l with
 |nil=>simp at hy
 |cons x l ih=>
  have h3:=ypt l (fun y hy=>h y (by simp [hy]))
  have hx:=h x (by simp)
  simp only [List.countP_cons]
  rcases List.mem_cons.1 hy with e|e
  ·subst e;simp [h1,h2];omega
  ·have:=ih (fun y hy=>h y (by simp [hy])) e
   cases hpx:p x<;>cases hqx:q x<;>simp_all<;>omega
theorem yw2 (hp:yau m n) {u:Nat} (hu:u<n) (hmin: ∀b,Conn m u b->u<=b) {b:Nat} (hb:Conn m u b):(rlP m n n).getD b 0=u:=by
 have hge: ∀k c,Conn m u c->(u:Int)<=(rlP m n k).getD c 0:=fun k c hc=>by
  have hr:=(ygp hp k).2 c (hc.lt hp hu)
  have:=hmin _ (hc.trans hr.2.2);omega
 have hself: ∀k,(rlP m n k).getD u 0=u:=fun k=>by
  have hr:=(ygp hp k).2 u hu
  have:=hge k u (.refl _);omega
 have hmono: ∀k c,c<n->(rlP m n (k+1)).getD c 0<=(rlP m n k).getD c 0:=fun k c hc=>(ymd hp (ygp hp k) (4*n) (Nat.le_refl _)).2 c hc
 have hnb: ∀k c s,c<n->s<4->(rlP m n (k+1)).getD (nb m c s) 0<=(rlP m n k).getD c 0:=fun k c s hc hs=>yw1 hp (ygp hp k) (4*n) (Nat.le_refl _) c s (by omega) hs
 have hin: ∀k c,c<n->(rlP m n k).getD c 0=u->Conn m u c:=fun k c hc e=>by
  have hr:=(ygp hp k).2 c hc
  have h1:=hr.2.2
  rw [e] at h1
  exact (by simpa using h1:Conn m c u).symm hp hc
 have key: ∀k,(∀c,Conn m u c->(rlP m n k).getD c 0=u)\/k+1<=(List.range n).countP (fun c=>decide ((rlP m n k).getD c 0=u)):=by
  intro k
  induction k with
  |zero=>
   right
   exact List.countP_pos_iff.2 ⟨u,List.mem_range.2 hu,by simp only [hself 0,decide_true]⟩
  |succ k ih=>
   rcases ih with ih|ih
   ·left
    intro c hc
    have h1:=hmono k c (hc.lt hp hu)
    have h2:=hge (k+1) c hc
    rw [ih c hc] at h1;omega
   ·by_cases hcl: ∀c s,c<n->s<4->(rlP m n k).getD c 0=u->(rlP m n k).getD (nb m c s) 0=u
    ·left
     intro c hc
     have h0:=(Conn.closed hp (S:=fun c=>c<n/\(rlP m n k).getD c 0=u) (fun a s ha hs h=>⟨hp.nb_lt ha hs,hcl a s ha hs h.2⟩) hc hu ⟨hu,hself k⟩).2
     have h1:=hmono k c (hc.lt hp hu)
     have h2:=hge (k+1) c hc
     rw [h0] at h1;omega
    ·right
     have hex: ∃c s,c<n/\s<4/\(rlP m n k).getD c 0=u/\(rlP m n k).getD (nb m c s) 0≠u:=by
      apply Classical.byContradiction
      intro hne
      exact hcl fun c s hc hs e=>Classical.byContradiction fun e'=>hne ⟨c,s,hc,hs,e,e'⟩
     obtain ⟨c,s,hc,hs,e1,e2⟩:=hex
     have hcu:=hin k c hc e1
     have hlt:=hp.nb_lt hc hs
     have h3:(rlP m n (k+1)).getD (nb m c s) 0=u:=by
      have h1:=hnb k c s hc hs
      have h2:=hge (k+1) (nb m c s) (.step s hs hcu)
      omega
     have:=yjf (p:=fun c=>decide ((rlP m n k).getD c 0=u)) (q:=fun c=>decide ((rlP m n (k+1)).getD c 0=u)) (List.range n) (fun x hx hpx=>by
      have hx:=List.mem_range.1 hx
      have e:=of_decide_eq_true hpx
      have h1:=hmono k x hx
      have h2:=hge (k+1) x (hin k x hx e)
      exact decide_eq_true (by omega)) (List.mem_range.2 hlt) (decide_eq_false e2) (decide_eq_true h3)
     omega
 rcases key n with h|h
 ·exact h b hb
 ·have:=List.countP_le_length (p:=fun c=>decide ((rlP m n n).getD c 0=u)) (l:=List.range n)
  rw [List.length_range] at this;omega
theorem ym3 (hp:yau m n) {a:Nat} (ha:a<n): ∃u,u<n/\Conn m u a/\(∀b,b<n->((rlP m n n).getD b 0=u↔Conn m a b)):=by
 obtain ⟨u,h1,h2,h3⟩:=yma (p:=fun b=>Conn m a b) a (.refl _)
 have hu:u<n:=by omega
 have hmin: ∀b,Conn m u b->u<=b:=fun b hb=>Nat.le_of_not_lt fun hlt=>h3 b hlt (h2.trans hb)
 have hua:=h2.symm hp ha
 refine ⟨u,hu,hua,fun b hb=>⟨fun e=>?_,fun hab=>yw2 hp hu hmin (hua.trans hab)⟩⟩
 have hr:=(ygp hp n).2 b hb
 have h4:=hr.2.2
 rw [e] at h4
 exact h2.trans ((by simpa using h4:Conn m b u).symm hp hb)
end
end Go.Proofs.YtbblgobamoabkaaGreatDoor
namespace Go.Proofs.YtbblgobamoabkaaGreatDoor
def orbG (nx:Int->Int) (x:Int):Nat->Int->List Int
 |0,_=>[]
 |f+1,g=>if g=x then [] else g::orbG nx x f (nx g)
def orbF (nx:Int->Int) (N:Nat) (x:Int):List Int:=x::orbG nx x N (nx x)
theorem ysk {nx:Int->Int} {x:Int} {k:Nat} (h:Per nx x k): ∀f j,0<j->j<=k->k<=f+j->orbG nx x f (it nx j x)=(List.range (k-j)).map fun i=>it nx (j+i) x
 |0,j,h0,h1,h2=>by obtain rfl:j=k:=by omega
                   simp [orbG]
 |f+1,j,h0,h1,h2=>by
  unfold orbG
  by_cases e:j=k
  ·subst e;rw [if_pos h.back];simp
  ·rw [if_neg (h.first j h0 (by omega)),show k-j=(k-(j+1))+1 by omega,List.range_succ_eq_map]
   rw [show nx (it nx j x)=it nx (j+1) x from rfl,ysk h f (j+1) (by omega) (by omega) (by omega)]
   simp only [List.map_cons,Nat.add_zero,List.map_map,List.cons.injEq,true_and]
   refine List.map_congr_left fun i _=>?_
   simp only [Function.comp];rw [show j+i.succ=j+1+i by omega]
theorem ysl {nx:Int->Int} {x:Int} {k N:Nat} (h:Per nx x k) (hk:k<=N+1):orbF nx N x=its nx x k:=by
 have h0:=h.pos
 unfold orbF its
 rw [show nx x=it nx 1 x from rfl,ysk h N 1 (by omega) (by omega) (by omega)]
 conv=>rhs;rw [show k=(k-1)+1 by omega,List.range_succ_eq_map]
 simp only [List.map_cons,List.map_map]
 refine congrArg (List.cons x) (List.map_congr_left fun i _=>?_)
 simp only [Function.comp];rw [show i.succ=1+i by omega]
def yag (m:List Int) (g:Int):Int:=yar (m.getD g.toNat 0) (-1)
def InR (n:Nat) (x:Int):Prop:=0<=x/\x<4*n
theorem yw3 {n:Nat} {x y b:Int} (hx:InR n x) (hy:InR n y) (e:yar x b=yar y b):x=y:=by
 have: -4<b.tmod 4/\b.tmod 4<4:=⟨Int.lt_tmod_of_pos b (by decide),Int.tmod_lt_of_pos b (by decide)⟩
 unfold yar InR at*;omega
section
variable {m:List Int} {n:Nat}
theorem yau.inj (hp:yau m n) {x y:Int} (hx:InR n x) (hy:InR n y) (e:m.getD x.toNat 0=m.getD y.toNat 0):x=y:=by
 unfold InR at*
 have h1:=hp.inv x.toNat (by omega)
 have h2:=hp.inv y.toNat (by omega)
 rw [e,h2] at h1;omega
theorem yau.rng (hp:yau m n) {x:Int} (hx:InR n x):InR n (m.getD x.toNat 0):=by
 unfold InR at*;have:=hp.ok.2 x.toNat (by omega);omega
theorem yn2 (hp:yau m n) (b:Int):Perm (fun g=>yar (m.getD g.toNat 0) b) (4*n) (InR n):=
 ⟨fun x hx=>by unfold InR at hx;omega,fun x hx=>by have:=hp.rng hx;unfold InR at*;exact ydc this.1 this.2,
  fun x y hx hy e=>hp.inj hx hy (yw3 (hp.rng hx) (hp.rng hy) e)⟩
theorem yha (hp:yau m n):Perm (yag m) (4*n) (InR n):=yn2 hp (-1)
theorem ydm {nx:Int->Int} {N:Nat} {S:Int->Prop} (h:Perm nx N S) {x:Int} (hx:S x):
  (∀y,y∈orbF nx N x↔ ∃j,it nx j x=y)/\(∀y∈orbF nx N x,S y)/\(∀y∈orbF nx N x,x∈orbF nx N y)/\(∀y∈orbF nx N x,∀z∈orbF nx N y,z∈orbF nx N x)/\x∈orbF nx N x/\(orbF nx N x).length<=N/\(orbF nx N x).Nodup/\ ∃k,k<=N/\Per nx x k/\orbF nx N x=its nx x k:=by
 obtain ⟨k,hk,hp⟩:=h.per hx
 have e:=ysl hp (N:=N) (by omega)
 have hm: ∀y,y∈orbF nx N x↔ ∃j,it nx j x=y:=fun y=>by rw [e];exact ykv hp
 have hS: ∀y∈orbF nx N x,S y:=fun y hy=>by obtain ⟨j,rfl⟩:=(hm y).1 hy;exact h.it hx j
 have hm': ∀y,S y-> ∀z,z∈orbF nx N y↔ ∃j,it nx j y=z:=fun y hy z=>by
  obtain ⟨l,hl,hq⟩:=h.per hy
  rw [ysl hq (N:=N) (by omega)];exact ykv hq
 refine ⟨hm,hS,fun y hy=>?_,fun y hy z hz=>?_,by simp [orbF],by rw [e,ym2];exact hk,by rw [e];exact yww h hx hp,k,hk,hp,e⟩
 ·exact (hm' y (hS y hy) x).2 (yup hp ((hm y).1 hy))
 ·exact (hm z).2 (yrq ((hm y).1 hy) ((hm' y (hS y hy) z).1 hz))
theorem y3n (hp:yau m n) (hn:m.length=4*n) {seen:List Bool} (hl:seen.length=4*n) {x:Int} (hx:InR n x) {k:Nat} (hk:Per (yag m) x k) (hu: ∀j,j<k->seen.getD (it (yag m) j x).toNat false=false):
  ∀d j f,d=k-j->j<=k->d<f->mark m f (ybt seen (its (yag m) x j)) (it (yag m) j x)=ybt seen (its (yag m) x k):=by
 have hpm:=yha hp
 have hR: ∀j,InR n (it (yag m) j x):=fun j=>hpm.it hx j
 have hrr: ∀j,∀g∈its (yag m) x j,0<=g/\g.toNat<seen.length:=fun j g hg=>by
  obtain ⟨i,_,rfl⟩:=yj5.1 hg
  have:=hR i;unfold InR at this;omega
 have hk0:=hk.pos
 intro d
 induction d with
 |zero=>
  intro j f hd hj hf
  obtain rfl:j=k:=by omega
  obtain ⟨f',rfl⟩: ∃f',f=f'+1:=⟨f-1,by omega⟩
  simp only [mark]
  rw [hk.back,if_pos]
  rw [yee _ _ _ (hrr j),Bool.or_eq_true,decide_eq_true_iff]
  right
  have hx':=hx
  unfold InR at hx'
  rw [show ((x.toNat:Nat):Int)=x by omega]
  exact yj5.2 ⟨0,hk0,rfl⟩
 |succ d ih=>
  intro j f hd hj hf
  obtain ⟨f',rfl⟩: ∃f',f=f'+1:=⟨f-1,by omega⟩
  have hRj:=hR j
  unfold InR at hRj
  simp only [mark]
  rw [if_neg]
  ·have e1:(ybt seen (its (yag m) x j)).set (it (yag m) j x).toNat true=ybt seen (its (yag m) x (j+1)):=by
    rw [ypq,ygo];rfl
   rw [e1]
   exact ih (j+1) f' (by omega) (by omega) (by omega)
  ·rw [yee _ _ _ (hrr j),hu j (by omega),Bool.false_or,decide_eq_true_iff]
   rw [show (((it (yag m) j x).toNat:Nat):Int)=it (yag m) j x by omega]
   intro hm
   obtain ⟨i,hi,e⟩:=yj5.1 hm
   have:=hpm.cancel hx i (j-i) (by rw [show i+(j-i)=j by omega];exact e.symm)
   exact hk.first (j-i) (by omega) (by omega) this
def fl (m:List Int) (h:Nat):Bool:=ybc h (orbF (yag m) m.length h)
def cntV (l:List Int) (n:Nat) (p:Int):Nat:=(List.range n).countP fun c=>l.getD c 0==p
def cntF (m l:List Int) (h:Nat) (p:Int):Nat:=(List.range h).countP fun i=>fl m i&&l.getD (i/4) 0==p
theorem yn3 (l:List Int) (n:Nat) (p:Int):cntV l (n+1) p=cntV l n p+if l.getD n 0=p then 1 else 0:=by
 unfold cntV;rw [List.range_succ,List.countP_append];simp [List.countP_cons]
theorem yn4 (m l:List Int) (h:Nat) (p:Int):cntF m l (h+1) p=cntF m l h p+if fl m h=true/\l.getD (h/4) 0=p then 1 else 0:=by
 unfold cntF;rw [List.range_succ,List.countP_append];simp [List.countP_cons]
theorem ysm {part:List Int} {np:Nat} (hpt: ∀c,c<part.length->0<=part.getD c 0/\part.getD c 0<np) {p:Nat} (h:p<np): ∀k,k<=part.length->(decs part np k).getD p 0= -(cntV part k p:Int)
 |0,_=>by simp [decs,cntV,h]
 |k+1,hk=>by
  have ih:=ysm hpt h k (by omega)
  have hl:=(yj4 part np k).1
  have hr:=hpt k (by omega)
  simp only [decs]
  rw [yn3]
  by_cases e:(part.getD k 0).toNat=p
  ·rw [e,yat (by omega),if_pos (by omega),ih];omega
  ·rw [yao e,if_neg (by omega),ih];omega
theorem ysn (hp:yau m n) (hm:m.length=4*n) {part:List Int} {np:Nat} (hpl:part.length=n) (hpt: ∀c,c<n->0<=part.getD c 0/\part.getD c 0<np): ∀h,h<=4*n->
  (∀p:Nat,p<np->(sphN m part np h).1.getD p 0=(cntF m part h p:Int)-cntV part n p)/\
  ∀g:Nat,g<4*n->((sphN m part np h).2.getD g false=true↔ ∃x:Nat,x<h/\(g:Int)∈orbF (yag m) m.length x)
 |0,_=>by
  refine ⟨fun p hlt=>?_,fun g hg=>by simp [sphN,hm,hg]⟩
  simp only [sphN]
  rw [ysm (fun c hc=>hpt c (by omega)) hlt _ (Nat.le_refl _),hpl];simp [cntF]
 |h+1,hh=>by
  obtain ⟨h1,h2⟩:=ysn hp hm hpl hpt h (by omega)
  obtain ⟨l1,l2,_⟩:=yf6 m part np h
  have hR: ∀x:Nat,x<4*n->InR n (x:Int):=fun x hx=>by unfold InR;omega
  have hof:=fun (x:Nat) (hx:x<4*n)=>by
   have:=ydm (yha hp) (hR x hx)
   rw [←hm] at this;exact this
  have hsee:=h2 h (by omega)
  simp only [sphN,sph1]
  by_cases hs:(sphN m part np h).2.getD h false=true
  ·rw [if_pos hs]
   obtain ⟨x,hx,hxm⟩:=hsee.1 hs
   have hfl:fl m h=false:=by
    cases hf:fl m h with
    |false=>rfl
    |true=>
     have:=yem.1 hf x ((hof x (by omega)).2.2.1 h hxm);omega
   refine ⟨fun p hlt=>by rw [yn4,if_neg (by simp [hfl]),h1 p hlt];omega,fun g hg=>?_⟩
   rw [h2 g hg]
   constructor
   ·rintro ⟨y,hy,h3⟩;exact ⟨y,by omega,h3⟩
   ·rintro ⟨y,hy,h3⟩
    rcases Nat.lt_or_ge y h with q|q
    ·exact ⟨y,q,h3⟩
    ·obtain rfl:y=h:=by omega
     exact ⟨x,hx,(hof x (by omega)).2.2.2.1 y hxm g h3⟩
  ·rw [if_neg hs]
   obtain ⟨o1,o2,o3,o4,o5,o6,o7,k,hk,hper,hok⟩:=hof h (by omega)
   have hfl:fl m h=true:=yem.2 fun y hy=>by
    have hr:=o2 y hy
    unfold InR at hr
    obtain ⟨z,rfl⟩: ∃z:Nat,y=z:=⟨y.toNat,by omega⟩
    rcases Nat.lt_or_ge z h with q|q
    ·exact absurd (hsee.2 ⟨z,q,o3 z hy⟩) hs
    ·omega
   have hmk:mark m (m.length+1) (sphN m part np h).2 h=ybt (sphN m part np h).2 (orbF (yag m) m.length h):=by
    rw [hok]
    refine y3n hp hm (by omega) (hR h (by omega)) hper (fun j hj=>?_) k 0 (m.length+1) (by omega) (by omega) (by omega)
    have hjm:it (yag m) j h∈orbF (yag m) m.length h:=(o1 _).2 ⟨j,rfl⟩
    have hjr:=o2 _ hjm
    unfold InR at hjr
    cases hgs:(sphN m part np h).2.getD (it (yag m) j h).toNat false with
    |false=>rfl
    |true=>
     obtain ⟨y,hy,h3⟩:=(h2 _ (by omega)).1 hgs
     rw [show (((it (yag m) j h).toNat:Nat):Int)=it (yag m) j h by omega] at h3
     exact absurd (hsee.2 ⟨y,hy,(hof y (by omega)).2.2.2.1 _ h3 _ (o3 _ hjm)⟩) hs
   have hpp:=hpt (h/4) (by omega)
   refine ⟨fun p hlt=>?_,fun g hg=>?_⟩
   ·rw [yn4]
    simp only
    by_cases e:(part.getD (h/4) 0).toNat=p
    ·rw [e,yat (by omega),if_pos ⟨hfl,by omega⟩,h1 p hlt];omega
    ·rw [yao e,if_neg (by omega),h1 p hlt];omega
   ·simp only
    rw [hmk,yee _ _ _ (fun y hy=>by have:=o2 y hy;unfold InR at this;omega),Bool.or_eq_true,h2 g hg,decide_eq_true_iff]
    constructor
    ·rintro (⟨x,h4,h5⟩|h4)
     ·exact ⟨x,by omega,h5⟩
     ·exact ⟨h,by omega,h4⟩
    ·rintro ⟨x,h4,h6⟩
     rcases Nat.lt_or_ge x h with q|q
     ·exact .inl ⟨x,q,h6⟩
     ·obtain rfl:x=h:=by omega
      exact .inr h6
theorem y0u (hp:yau m n):sphM m n=true↔ ∀p:Nat,(p:Int)<(yaw m n).2->cntF m (yaw m n).1 (4*n) p=cntV (yaw m n).1 n p+2:=by
 obtain ⟨p1,p2,p3,p4⟩:=yjd hp.ok
 have hm:=hp.ok.1
 have h1:=(ysn hp hm p1 (np:=(yaw m n).2.toNat) (fun c hc=>by have:=p4 c hc;omega) (4*n) (Nat.le_refl _)).1
 have hlen:=(yf6 m (yaw m n).1 (yaw m n).2.toNat (4*n)).1
 unfold sphM
 rw [hm,List.all_eq_true]
 constructor
 ·intro h p hlt
  have h2:=h1 p (by omega)
  have hmem:(sphN m (yaw m n).1 (yaw m n).2.toNat (4*n)).1.getD p 0∈(sphN m (yaw m n).1 (yaw m n).2.toNat (4*n)).1:=by
   rw [List.getD_eq_getElem?_getD,List.getElem?_eq_getElem (by omega)];exact List.getElem_mem _
  have:=h _ hmem
  simp only [beq_iff_eq] at this
  omega
 ·intro h x hx
  obtain ⟨i,hi,rfl⟩:=List.mem_iff_getElem.1 hx
  have h2:=h1 i (by omega)
  have h3:=h i (by omega)
  rw [List.getD_eq_getElem?_getD,List.getElem?_eq_getElem hi] at h2
  simp only [Option.getD_some] at h2
  simp only [beq_iff_eq];omega
def sphR (m:List Int) (n:Nat):Bool:=(List.range n).all fun c=> !((rlP m n n).getD c 0==(c:Int))||cntF m (rlP m n n) (4*n) c==cntV (rlP m n n) n c+2
theorem yii:sphR m n=true↔ ∀c,c<n->(rlP m n n).getD c 0=c->cntF m (rlP m n n) (4*n) c=cntV (rlP m n n) n c+2:=by
 unfold sphR
 rw [List.all_eq_true]
 constructor
 ·intro h c hc e
  have:=h c (List.mem_range.2 hc)
  rw [e] at this
  simpa using this
 ·intro h c hc
  by_cases e:(rlP m n n).getD c 0=(c:Int)
  ·rw [h c (List.mem_range.1 hc) e];simp
  ·have:((rlP m n n).getD c 0==(c:Int))=false:=by simpa using e
   rw [this];rfl
theorem yw4 {l l':List Int} {p p':Int} (h: ∀b,b<n->(l.getD b 0=p↔l'.getD b 0=p')):cntV l n p=cntV l' n p'/\cntF m l (4*n) p=cntF m l' (4*n) p':=by
 constructor
 ·unfold cntV
  refine List.countP_congr fun b hb=>?_
  simp only [beq_iff_eq];exact h b (List.mem_range.1 hb)
 ·unfold cntF
  refine List.countP_congr fun b hb=>?_
  have:=List.mem_range.1 hb
  simp only [Bool.and_eq_true,beq_iff_eq];rw [h (b/4) (by omega)]
theorem y5a (hp:yau m n):sphM m n=sphR m n:=by
 obtain ⟨p1,p2,p3,p4⟩:=yjd hp.ok
 have key: ∀a,a<n-> ∃u,u<n/\(rlP m n n).getD u 0=u/\cntV (yaw m n).1 n ((yaw m n).1.getD a 0)=cntV (rlP m n n) n u/\cntF m (yaw m n).1 (4*n) ((yaw m n).1.getD a 0)=cntF m (rlP m n n) (4*n) u/\(rlP m n n).getD a 0=u:=by
  intro a ha
  obtain ⟨u,hu,hua,hiff⟩:=ym3 hp ha
  have hcg:=yw4 (m:=m) (n:=n) (l:=(yaw m n).1) (l':=rlP m n n) (p:=(yaw m n).1.getD a 0) (p':=u) (fun b hb=>by
   rw [hiff b hb]
   constructor
   ·intro e;exact (ymc hp ha hb).1 e.symm
   ·intro e;exact ((ymc hp ha hb).2 e).symm)
  exact ⟨u,hu,(hiff u hu).2 (hua.symm hp hu),hcg.1,hcg.2,(hiff a ha).2 (.refl _)⟩
 rw [Bool.eq_iff_iff,y0u hp,yii]
 constructor
 ·intro h c hc e
  obtain ⟨u,hu,_,h1,h2,h3⟩:=key c hc
  have:u=c:=by omega
  subst this
  have h4:=p4 u hc
  have h5:=h ((yaw m n).1.getD u 0).toNat (by omega)
  rw [show (((yaw m n).1.getD u 0).toNat:Int)=(yaw m n).1.getD u 0 by omega,h1,h2] at h5
  exact h5
 ·intro h p hlt
  obtain ⟨a,ha,e⟩:=yuq hp hlt
  obtain ⟨u,hu,h0,h1,h2,_⟩:=key a ha
  have h5:=h u hu h0
  rw [e] at h1 h2
  omega
end
theorem yw5 {s m:List Int} {L:Int} (h:ycc s m L=true):yau m s.length:=by
 unfold ycc at h
 obtain ⟨_,h2,_,_,_,h6⟩:=of_decide_eq_true h
 exact ⟨⟨h2,fun i hi=>⟨(h6 i hi).1,(h6 i hi).2.1⟩⟩,fun i hi=>(h6 i hi).2.2.2.1⟩
def ygq (s m:List Int) (L:Int):Bool:=ycc s m L&&sphR m s.length
theorem ygr (s m:List Int) (L:Int):yap s m L=ygq s m L:=by
 unfold yap ygq
 cases h:ycc s m L with
 |false=>rfl
 |true=>rw [y5a (yw5 h)]
end Go.Proofs.YtbblgobamoabkaaGreatDoor
namespace Go.Proofs.YtbblgobamoabkaaGreatDoor
theorem yen (h:Int):yar h 1=h-h % 4+(h % 4+5)% 4:=by
 have:(1:Int).tmod 4=1:=by decide
 unfold yar;rw [this];omega
theorem yc7 (h:Int):yar h (-1)=h-h % 4+(h % 4+3)% 4:=by
 have:(-1:Int).tmod 4= -1:=by decide
 unfold yar;rw [this];omega
def jnB (b:Bool) (h:Int):Int:=if decide (h % 2=1)=b then yar h 1 else yar h (-1)
theorem ycm (b:Bool) (h:Int):jnB b h/4=h/4:=by
 unfold jnB;rw [yen,yc7];split<;>omega
theorem yds (b:Bool) (h:Int):jnB b (jnB b h)=h:=by
 unfold jnB
 rw [yen,yc7]
 cases b
 ·by_cases e:h % 2=1
  ·simp only [e,decide_true,Bool.true_eq_false,if_false]
   have: ¬(h-h % 4+(h % 4+3)% 4)% 2=1:=by omega
   simp only [this,decide_false,if_true]
   rw [yen];omega
  ·simp only [e,decide_false,if_true]
   have:(h-h % 4+(h % 4+5)% 4)% 2=1:=by omega
   simp only [this,decide_true,Bool.true_eq_false,if_false]
   rw [yc7];omega
 ·by_cases e:h % 2=1
  ·simp only [e,decide_true,if_true]
   have: ¬(h-h % 4+(h % 4+5)% 4)% 2=1:=by omega
   simp only [this,decide_false,Bool.false_eq_true,if_false]
   rw [yc7];omega
  ·simp only [e,decide_false,Bool.false_eq_true,if_false]
   have:(h-h % 4+(h % 4+3)% 4)% 2=1:=by omega
   simp only [this,decide_true,if_true]
   rw [yen];omega
theorem yw6 (b:Bool) {h:Int} (h0:0<=h):0<=jnB b h:=by
 have:=ycm b h;omega
def thrX (m:List Int) (b:Bool) (c:Int):Nat->Int->Int
 |0,x=>x
 |f+1,x=>if x/4=c then thrX m b c f (m.getD (jnB b x).toNat 0) else x
def usd (u:Int->Bool) (x y:Int):Int->Bool:=fun z=>u z||z==x||z==y
def thrU (m:List Int) (b:Bool) (c:Int):Nat->Int->(Int->Bool)->(Int->Bool)
 |0,_,u=>u
 |f+1,x,u=>if x/4=c then thrU m b c f (m.getD (jnB b x).toNat 0) (usd u x (jnB b x)) else u
theorem ym4 {m:List Int} {b:Bool} {c:Int} {f:Nat} {x:Int} (h:x/4=c):thrX m b c (f+1) x=thrX m b c f (m.getD (jnB b x).toNat 0):=by simp only [thrX,h,if_true]
theorem yj6 {m:List Int} {b:Bool} {c:Int} {f:Nat} {x:Int} (h: ¬x/4=c):thrX m b c f x=x:=by cases f<;>simp only [thrX,h,if_false]
theorem yso {m:List Int} {b:Bool} {c:Int} {f:Nat} {x:Int} {u:Int->Bool} (h:x/4=c):thrU m b c (f+1) x u=thrU m b c f (m.getD (jnB b x).toNat 0) (usd u x (jnB b x)):=by simp only [thrU,h,if_true]
theorem ysp {m:List Int} {b:Bool} {c:Int} {f:Nat} {x:Int} {u:Int->Bool} (h: ¬x/4=c):thrU m b c f x u=u:=by cases f<;>simp only [thrU,h,if_false]
section
variable {m:List Int} {n:Nat} {b:Bool} {c:Nat}
def nxC (m:List Int) (b:Bool) (x:Int):Int:=m.getD (jnB b x).toNat 0
theorem y3o (hp:yau m n) (hc:c<n) {x y:Int} (hx:x/4=c) (hy:y/4=c) (e:nxC m b x=nxC m b y):x=y:=by
 have h1:=ycm b x
 have h2:=ycm b y
 have:=hp.inj (x:=jnB b x) (y:=jnB b y) (by unfold InR;omega) (by unfold InR;omega) e
 have h3:=congrArg (jnB b) this
 rwa [yds,yds] at h3
theorem y3p (f:Nat) (x:Int) (h:thrX m b c f x/4=c): ∀i,i<=f->it (nxC m b) i x/4=(c:Int):=by
 induction f generalizing x with
 |zero=>
  intro i hi
  obtain rfl:i=0:=by omega
  exact h
 |succ f ih=>
  intro i hi
  unfold thrX at h
  by_cases e:x/4=(c:Int)
  ·rw [if_pos e] at h
   cases i with
   |zero=>exact e
   |succ i=>
    have:=ih _ h i (by omega)
    have e2:it (nxC m b) (i+1) x=it (nxC m b) i (nxC m b x):=by rw [ymb];rfl
    rw [e2];exact this
  ·rw [if_neg e] at h;exact absurd h e
theorem yij (hp:yau m n) (hc:c<n) {h:Nat} (hh:h<4*n) (ho:h/4≠c):thrX m b c 5 (m.getD h 0)/4≠(c:Int):=by
 intro hin
 have hit:=y3p 5 (m.getD h 0) hin
 obtain ⟨i,j,hij,hj,e⟩:=ypr 4 (fun i=>(it (nxC m b) i (m.getD h 0)-4*c).toNat) (fun i hi=>by have:=hit i (by omega);omega)
 have hi':=hit i (by omega)
 have hj':=hit j (by omega)
 have e':it (nxC m b) i (m.getD h 0)=it (nxC m b) j (m.getD h 0):=by omega
 have key: ∀i j,i<j->j<=5->it (nxC m b) i (m.getD h 0)=it (nxC m b) j (m.getD h 0)->m.getD h 0=it (nxC m b) (j-i) (m.getD h 0):=by
  intro i
  induction i with
  |zero=>intro j _ _ e;simpa [it] using e
  |succ i ih=>
   intro j hij hj e
   have:=ih (j-1) (by omega) (by omega) (y3o hp hc (hit i (by omega)) (hit (j-1) (by omega)) (by
    have:it (nxC m b) j (m.getD h 0)=nxC m b (it (nxC m b) (j-1) (m.getD h 0)):=by
     conv=>lhs;rw [show j=(j-1)+1 by omega]
     rfl
    rw [←this,←e];rfl))
   rw [show j-(i+1)=j-1-i by omega];exact this
 have h0:=key i j hij (by omega) e'
 have h1:it (nxC m b) (j-i) (m.getD h 0)=nxC m b (it (nxC m b) (j-i-1) (m.getD h 0)):=by
  conv=>lhs;rw [show j-i=(j-i-1)+1 by omega]
  rfl
 rw [h1] at h0
 have h2:=hit (j-i-1) (by omega)
 have h3:=ycm b (it (nxC m b) (j-i-1) (m.getD h 0))
 have hr:=hp.ok.2 h hh
 have h4:=hp.inv h hh
 unfold nxC at h0
 have h5:=hp.inv (jnB b (it (nxC m b) (j-i-1) (m.getD h 0))).toNat (by omega)
 unfold nxC at h5
 rw [←h0,h4] at h5
 unfold nxC at h3 h2
 omega
def smE (m:List Int) (b:Bool) (c:Nat):Nat->List Int
 |0=>m
 |h+1=>if h/4=c then smE m b c h else (smE m b c h).set h (thrX m b c 5 (m.getD h 0))
def smU (m:List Int) (b:Bool) (c:Nat):Nat->Int->Bool
 |0=>fun _=>false
 |h+1=>if h/4=c then smU m b c h else thrU m b c 5 (m.getD h 0) (smU m b c h)
theorem yj7 (h:Nat):(smE m b c h).length=m.length:=by
 induction h with
 |zero=>rfl
 |succ h ih=>simp only [smE];split<;>simp [ih]
theorem yik (hp:yau m n) (hc:c<n): ∀f x,InR n x->InR n (thrX m b c f x):=by
 intro f
 induction f with
 |zero=>intro x h;exact h
 |succ f ih=>
  intro x h
  unfold thrX
  split
  ·rename_i e
   have:=ycm b x
   exact ih _ (hp.rng (by unfold InR;omega))
  ·exact h
theorem y5b (hp:yau m n) (hc:c<n): ∀h,h<=4*n->ybn (smE m b c h) n:=by
 intro h
 induction h with
 |zero=>intro _;exact hp.ok
 |succ h ih=>
  intro hh
  have ih:=ih (by omega)
  simp only [smE]
  split
  ·exact ih
  ·refine ⟨by simp [ih.1],fun i hi=>?_⟩
   have hl:=ih.1
   by_cases e:h=i
   ·subst e
    rw [yat (by omega)]
    have:=yik (b:=b) hp hc 5 (m.getD h 0) (by have:=hp.ok.2 h hi;unfold InR;omega)
    unfold InR at this;exact this
   ·rw [yao e];exact ih.2 i hi
theorem yn5 (f:Nat): ∀(x:Int) (u:Int->Bool) (y:Int),u y=true->thrU m b c f x u y=true:=by
 induction f with
 |zero=>intro x u y h;exact h
 |succ f ih=>
  intro x u y h
  unfold thrU
  split
  ·exact ih _ _ _ (by simp [usd,h])
  ·exact h
def ydt (b:Bool) (u:Int->Bool):Prop:= ∀x,u x=u (jnB b x)
theorem yme {u:Int->Bool} (h:ydt b u) (x:Int):ydt b (usd u x (jnB b x)):=by
 intro y
 simp only [usd]
 rw [h y]
 by_cases e1:y=x
 ·subst e1;simp
 ·by_cases e2:y=jnB b x
  ·subst e2;rw [yds];simp
  ·have e3:jnB b y≠x:=fun e=>e2 (by rw [←e,yds])
   have e4:jnB b y≠jnB b x:=fun e=>e1 (by have:=congrArg (jnB b) e;rwa [yds,yds] at this)
   have q1:(y==x)=false:=by simpa using e1
   have q2:(y==jnB b x)=false:=by simpa using e2
   have q3:(jnB b y==x)=false:=by simpa using e3
   have q4:(jnB b y==jnB b x)=false:=by simpa using e4
   rw [q1,q2,q3,q4]
theorem yrr (f:Nat): ∀(x:Int) (u:Int->Bool),ydt b u->ydt b (thrU m b c f x u):=by
 induction f with
 |zero=>intro x u h;exact h
 |succ f ih=>
  intro x u h
  unfold thrU
  split
  ·exact ih _ _ (yme h x)
  ·exact h
theorem yur (k:Nat):ydt b (smU m b c k):=by
 induction k with
 |zero=>intro x;rfl
 |succ k ih=>
  simp only [smU];split
  ·exact ih
  ·exact yrr 5 _ _ ih
theorem y0v (y:Int): ∀d k,smU m b c k y=true->smU m b c (k+d) y=true:=by
 intro d
 induction d with
 |zero=>intro k h;exact h
 |succ d ih=>
  intro k h
  have:=ih k h
  rw [←Nat.add_assoc]
  simp only [smU];split
  ·exact this
  ·exact yn5 5 _ _ _ this
theorem yw7 (hp:yau m n) (hc:c<n) {x:Int} (hx:x/4=c) (hu:smU m b c (4*n) x=false):nxC m b x/4=(c:Int):=by
 apply Classical.byContradiction
 intro hne
 have h1:=ycm b x
 have hr:=hp.rng (x:=jnB b x) (by unfold InR;omega)
 unfold nxC at hne
 unfold InR at hr
 have hi:=hp.inv (jnB b x).toNat (by omega)
 generalize hy:m.getD (jnB b x).toNat 0=y at*
 obtain ⟨h,rfl⟩: ∃h:Nat,y=h:=⟨y.toNat,by omega⟩
 simp only [Int.toNat_natCast] at hi
 have h2:smU m b c (h+1) x=true:=by
  have hhc:h/4≠c:=by omega
  simp only [smU,hhc,if_false]
  rw [hi]
  unfold thrU
  have e1:(((jnB b x).toNat:Nat):Int)=jnB b x:=by omega
  rw [e1,if_pos (by omega)]
  refine yn5 4 _ _ _ ?_
  simp [usd,yds]
 have h3:=y0v (m:=m) (b:=b) (c:=c) x (4*n-(h+1)) (h+1) h2
 rw [show h+1+(4*n-(h+1))=4*n by omega,hu] at h3
 cases h3
def lpU (m:List Int) (b:Bool):Nat->Int->(Int->Bool)->(Int->Bool)
 |0,_,u=>u
 |f+1,h,u=>if u h then u else lpU m b f (nxC m b h) (usd u h (jnB b h))
theorem yus (f:Nat): ∀(x:Int) (u:Int->Bool),ydt b u->ydt b (lpU m b f x u):=by
 induction f with
 |zero=>intro x u h;exact h
 |succ f ih=>
  intro x u h
  unfold lpU
  split
  ·exact h
  ·exact ih _ _ (yme h x)
theorem y1s {f:Nat} {h:Int} {u:Int->Bool} (e:u h=true):lpU m b f h u=u:=by cases f<;>simp only [lpU,e,if_true]
theorem y1t {f:Nat} {h:Int} {u:Int->Bool} (e:u h=false):lpU m b (f+1) h u=lpU m b f (nxC m b h) (usd u h (jnB b h)):=by simp only [lpU,e,Bool.false_eq_true,if_false]
def yil (c:Nat) (u:Int->Bool):Nat:=(List.range 4).countP fun (i:Nat)=> !u (4*c+i)
theorem ypu (u:Int->Bool):yil c u<=4:=by
 have:=List.countP_le_length (p:=fun i:Nat=> !u (4*c+i)) (l:=List.range 4);unfold yil;simpa using this
theorem yn6 {u:Int->Bool} {x y:Int} (hx:x/4=c) (hu:u x=false):yil c (usd u x y)<yil c u:=by
 unfold yil
 refine yjf _ (fun i _ h=>?_) (y:=(x-4*c).toNat) (by simp;omega) ?_ ?_
 ·simp only [usd,Bool.not_or,Bool.and_eq_true] at h⊢;exact h.1.1
 ·have e:(4*(c:Int)+((x-4*c).toNat:Nat))=x:=by omega
  rw [e];simp [usd]
 ·have e:(4*(c:Int)+((x-4*c).toNat:Nat))=x:=by omega
  rw [e,hu];rfl
def smL (m:List Int) (b:Bool) (c n:Nat):Int:=
 let u0:=smU m b c (4*n)
 let u1:=if u0 (4*c) then u0 else lpU m b 5 (4*c) u0
 (if u0 (4*c) then 0 else 1)+(if u1 (if b then 4*c+1 else 4*c+3) then 0 else 1)
end
end Go.Proofs.YtbblgobamoabkaaGreatDoor
namespace Go.Proofs.YtbblgobamoabkaaGreatDoor
def woS (s:List Int) (c:Nat):Nat->List Int
 |0=>[]
 |k+1=>if k=c then woS s c k else woS s c k++[s.getD k 0]
def cutM (m:List Int) (c:Nat) (h:Nat):Int:=if (c:Int)<m.getD h 0/4 then m.getD h 0-4 else m.getD h 0
def woM4 (m:List Int) (c k:Nat) (l:List Int):Nat->List Int
 |0=>l
 |x+1=>woM4 m c k l x++[cutM m c (4*k+x)]
def woM (m:List Int) (c:Nat):Nat->List Int
 |0=>[]
 |k+1=>if k=c then woM m c k else woM4 m c k (woM m c k) 4
theorem ym5 (s:List Int) (c:Nat): ∀k,(woS s c k).length<=k
 |0=>by simp [woS]
 |k+1=>by have:=ym5 s c k;simp only [woS];split<;>simp<;>omega
theorem yez (m:List Int) (c k:Nat) (l:List Int): ∀x,(woM4 m c k l x).length=l.length+x
 |0=>by simp [woM4]
 |x+1=>by have:=yez m c k l x;simp [woM4];omega
theorem ym6 (m:List Int) (c:Nat): ∀k,(woM m c k).length<=4*k
 |0=>by simp [woM]
 |k+1=>by have:=ym6 m c k;simp only [woM];split<;>(try rw [yez])<;>omega
def yah (m:List Int) (g:Int):Int:=yar (m.getD g.toNat 0) 2
def yam (s m:List Int):List (List Int):=(cysN m.length (outB s) (orbF (yah m) m.length) m.length).1
structure ybx (s m:List Int) (L:Int):Prop where
 s64:s.length<=64
 len:m.length=4*s.length
 l0:0<=L
 l64:L<=64
 sg:ycl s s.length
 mt:ydd s m (4*s.length)
 prd:yau m s.length
theorem ya1 {s m:List Int} {L:Int} (h:yap s m L=true):ybx s m L:=by
 obtain ⟨⟨h1,h2,h3,h4,h5,h6⟩,_⟩:=yun.1 h
 exact ⟨h1,h2,h3,h4,h5,h6,⟨h2,fun i hi=>⟨(h6 i hi).1,(h6 i hi).2.1⟩⟩,fun i hi=>(h6 i hi).2.2.2.1⟩
theorem ye0 {m:List Int} {n:Nat} (hp:yau m n):Perm (yah m) (4*n) (InR n):=yn2 hp 2
theorem yby (s m:List Int):(yam s m).length<=m.length:=(yih _ _ _ _).2
theorem ylb {N:Nat} {want:Int->Bool} {orb:Int->List Int}: ∀h,∀l∈(cysN N want orb h).1,∃x:Nat,x<h/\want x=true/\l=orb x
 |0,l,hl=>by simp [cysN] at hl
 |h+1,l,hl=>by
  simp only [cysN,cys1] at hl
  split at hl
  ·obtain ⟨x,h1,h2⟩:=ylb h l hl;exact ⟨x,by omega,h2⟩
  ·rename_i hc
   rcases List.mem_append.1 hl with hl|hl
   ·obtain ⟨x,h1,h2⟩:=ylb h l hl;exact ⟨x,by omega,h2⟩
   ·refine ⟨h,by omega,?_,List.mem_singleton.1 hl⟩
    cases hw:want h with
    |true=>rfl
    |false=>rw [hw] at hc;simp at hc
theorem yeo {s m:List Int} {n:Nat} (hp:yau m n) {l:List Int} (hl:l∈yam s m):l.length<=4*n/\ ∀x∈l,0<=x/\x<4*n:=by
 obtain ⟨x,hx,_,rfl⟩:=ylb _ l hl
 have hm:=hp.ok.1
 have hR:InR n (x:Int):=by unfold InR;omega
 have hof:=ydm (ye0 hp) hR
 rw [←hm] at hof
 exact ⟨by have:=hof.2.2.2.2.2.1;omega,fun y hy=>by have:=hof.2.1 y hy;unfold InR at this;omega⟩
def badS (v:List Bool):List Int->Option Int×List Bool
 |[]=>(none,v)
 |h::t=>if v.getD (h/4).toNat false=false/\h % 2=0 then (some (h/4),v) else badS (v.set (h/4).toNat true) t
def yct (v:List Bool):List (List Int)->Option Int
 |[]=>none
 |l::r=>match badS v l with
  |(some c,_)=>some c
  |(none,v')=>yct v' r
def badO (s m:List Int):Option Int:=yct (List.replicate s.length false) (yam s m)
def mvM (m:List Int) (to:Int->Int):Nat->List Int
 |0=>List.replicate m.length 0
 |k+1=>(mvM m to k).set (to k).toNat (to (m.getD k 0))
theorem yef (m:List Int) (to:Int->Int): ∀k,(mvM m to k).length=m.length
 |0=>by simp [mvM]
 |k+1=>by simp [mvM,yef m to k]
def sgM (s:List Int) (sg:Int->Int) (k:Nat):List Int:=(List.range k).map fun (c:Nat)=>s.getD c 0*sg c
theorem yho (s:List Int) (sg:Int->Int) (k:Nat):(sgM s sg k).length=k:=by simp [sgM]
theorem y3q (s:List Int) (sg:Int->Int) (n k:Nat) (h:k<n):(sgM s sg k++List.replicate (n-k) 0).set k (s.getD k 0*sg k)=sgM s sg (k+1)++List.replicate (n-(k+1)) 0:=by
 rw [List.set_append_right _ _ (by rw [yho];omega),yho,Nat.sub_self]
 obtain ⟨d,hd⟩: ∃d,n-k=d+1:=⟨n-k-1,by omega⟩
 rw [hd,List.replicate_succ,List.set_cons_zero,show n-(k+1)=d by omega]
 simp [sgM,List.range_succ]
def exBy (s:List Int) (ch:Int->Bool) (c:Int):Int:=if ch c then (if s.getD c.toNat 0=1 then-3 else-1) else 0
def exSg (ch:Int->Bool) (c:Int):Int:=if ch c then-1 else 1
def exS (s:List Int) (ch:Int->Bool):List Int:=sgM s (exSg ch) s.length
def exM (s m:List Int) (ch:Int->Bool):List Int:=mvM m (fun h=>yar h (exBy s ch (h/4))) m.length
theorem ypv: ∀(l:List Int) (v:List Bool) (c:Int),(badS v l).1=some c-> ∃h∈l,c=h/4
 |[],v,c,h=>by simp [badS] at h
 |x::l,v,c,h=>by
  simp only [badS] at h
  split at h
  ·simp only [Option.some.injEq] at h;exact ⟨x,by simp,h.symm⟩
  ·obtain ⟨y,h1,h2⟩:=ypv l _ c h;exact ⟨y,by simp [h1],h2⟩
theorem yn7: ∀(ls:List (List Int)) (v:List Bool) (c:Int),yct v ls=some c-> ∃l∈ls,∃h∈l,c=h/4
 |[],v,c,h=>by simp [yct] at h
 |l::ls,v,c,h=>by
  simp only [yct] at h
  split at h
  ·rename_i c' v' e
   simp only [Option.some.injEq] at h
   obtain ⟨y,h1,h2⟩:=ypv l v c (by rw [e,h])
   exact ⟨l,by simp,y,h1,h2⟩
  ·obtain ⟨l',h1,h2⟩:=yn7 ls _ c h;exact ⟨l',by simp [h1],h2⟩
theorem ypw {s m:List Int} (hp:yau m s.length) {c:Int} (h:badO s m=some c):0<=c/\c<s.length:=by
 obtain ⟨l,h1,x,h2,rfl⟩:=yn7 _ _ c h
 have:=(yeo hp h1).2 x h2
 omega
def swS (s:List Int) (c:Nat):List Int:=exS s (· ==(c:Int))
def swM (s m:List Int) (c:Nat):List Int:=exM s m (· ==(c:Int))
def smS (s:List Int) (c:Nat):List Int:=woS s c s.length
def smM (s m:List Int) (c:Nat):List Int:=woM (smE m (s.getD c 0== -1) c (4*s.length)) c s.length
def smLp (s m:List Int) (c:Nat) (L:Int):Int:=L+smL m (s.getD c 0== -1) c s.length
end Go.Proofs.YtbblgobamoabkaaGreatDoor
