/- Plain functions and facts: labels, cycles, spheres, circles, smoothing. -/
set_option linter.unusedSimpArgs false
set_option linter.unusedVariables false
namespace Go.Proofs.YtfgbnalnbdhimaaGreatDoor
def lb1 (m:List Int) (c p:Int) (s:Nat) (st:List Int×List Int):List Int×List Int:=
 let to:=m.getD (4*c+s).toNat 0/4
 if st.1.getD to.toNat 0<0 then (st.1.set to.toNat p,st.2++[to]) else st
def lb4 (m:List Int) (c p:Int) (st:List Int×List Int):Nat->List Int×List Int
 |0=>st
 |s+1=>lb1 m c p s (lb4 m c p st s)
def bfs (m:List Int) (p:Int):Nat->List Int->List Int->List Int
 |_,part,[]=>part
 |0,part,_::_=>part
 |n+1,part,c::q=>let st:=lb4 m c p (part,q) 4;bfs m p n st.1 st.2
def lbC (m:List Int) (n c:Nat) (st:List Int×Int):List Int×Int:=
 if 0<=st.1.getD c 0 then st else (bfs m st.2 (2*n+1) (st.1.set c st.2) [(c:Int)],st.2+1)
def lbN (m:List Int) (n:Nat):Nat->List Int×Int
 |0=>(List.replicate n (-1),0)
 |c+1=>lbC m n c (lbN m n c)
def yat (m:List Int) (n:Nat):List Int×Int:=lbN m n n
theorem yar {α:Type} {l:List α} {i:Nat} {a d:α} (h:i<l.length):(l.set i a).getD i d=a:=by simp [h]
theorem yam {α:Type} {l:List α} {i j:Nat} {a d:α} (h:i≠j):(l.set i a).getD j d=l.getD j d:=by simp [h]
theorem y0d {α:Type} (a b:α) (n k:Nat) (h:k<n):(List.replicate k a++List.replicate (n-k) b).set k a=List.replicate (k+1) a++List.replicate (n-(k+1)) b:=by
 rw [List.set_append_right _ _ (by simp),List.length_replicate,Nat.sub_self]
 obtain ⟨d,hd⟩: ∃d,n-k=d+1:=⟨n-k-1,by omega⟩
 rw [hd,List.replicate_succ,List.set_cons_zero,show n-(k+1)=d by omega,List.replicate_succ',List.append_assoc];rfl
def negs (l:List Int):Nat:=l.countP fun x=>decide (x<0)
theorem ykk {l:List Int} {i:Nat} {p:Int} (hi:i<l.length) (hl:l.getD i 0<0) (hp:0<=p):negs (l.set i p)+1=negs l:=by
 unfold negs
 induction l generalizing i with
 |nil=>simp at hi
 |cons x l ih=>
  cases i with
  |zero=>
   simp at hl
   simp [List.countP_cons,hl,Int.not_lt.2 hp]
  |succ i=>
   simp only [List.set_cons_succ,List.countP_cons]
   have:=ih (i:=i) (by simpa using hi) (by simpa using hl)
   omega
theorem yr8 (l:List Int):negs l<=l.length:=List.countP_le_length
def ycl (m:List Int) (n:Nat):Prop:=m.length=4*n/\ ∀i,i<4*n->0<=m.getD i 0/\m.getD i 0<4*n
def qOk (n:Nat) (q:List Int):Prop:= ∀x∈q,0<=x/\x<n
def pOk (n:Nat) (p:Int) (l:List Int):Prop:=l.length=n/\ ∀i,i<n-> -1<=l.getD i 0/\l.getD i 0<=p
theorem ywn {m:List Int} {n:Nat} (hm:ycl m n) {c p:Int} (hc:0<=c/\c<n) (hp:0<=p) {s:Nat} (hs:s<4) {st:List Int×List Int} (h1:pOk n p st.1) (h2:qOk n st.2):
  pOk n p (lb1 m c p s st).1/\qOk n (lb1 m c p s st).2/\2*negs (lb1 m c p s st).1+(lb1 m c p s st).2.length<=2*negs st.1+st.2.length/\(lb1 m c p s st).2.length<=st.2.length+1:=by
 have hto:=hm.2 (4*c+s).toNat (by omega)
 unfold lb1
 simp only
 have hto':0<=m.getD (4*c+s).toNat 0/4/\m.getD (4*c+s).toNat 0/4<n:=by omega
 generalize m.getD (4*c+s).toNat 0/4=to at*
 split
 ·rename_i hneg
  have hlt:to.toNat<st.1.length:=by rw [h1.1];omega
  have hn:=ykk hlt hneg hp
  refine ⟨⟨by simp [h1.1],fun i hi=>?_⟩,fun x hx=>?_,?_,by simp⟩
  ·by_cases e:to.toNat=i
   ·subst e;rw [yar hlt];omega
   ·rw [yam e];exact h1.2 i hi
  ·rcases List.mem_append.1 hx with hx|hx
   ·exact h2 x hx
   ·rw [List.mem_singleton.1 hx];exact hto'
  ·simp only [List.length_append,List.length_singleton];omega
 ·exact ⟨h1,h2,Nat.le_refl _,by omega⟩
theorem ylo {m:List Int} {n:Nat} (hm:ycl m n) {c p:Int} (hc:0<=c/\c<n) (hp:0<=p) {st:List Int×List Int} (h1:pOk n p st.1) (h2:qOk n st.2): ∀s,s<=4->
  pOk n p (lb4 m c p st s).1/\qOk n (lb4 m c p st s).2/\2*negs (lb4 m c p st s).1+(lb4 m c p st s).2.length<=2*negs st.1+st.2.length/\(lb4 m c p st s).2.length<=st.2.length+s
 |0,_=>⟨h1,h2,Nat.le_refl _,by simp [lb4]⟩
 |s+1,hs=>by
  obtain ⟨g1,g2,g3,g5⟩:=ylo hm hc hp h1 h2 s (by omega)
  obtain ⟨k1,k2,k3,k5⟩:=ywn hm hc hp (show s<4 by omega) g1 g2
  exact ⟨k1,k2,by simp only [lb4];omega,by simp only [lb4];omega⟩
theorem yo9 {m:List Int} {n:Nat} (hm:ycl m n) {p:Int} (hp:0<=p): ∀(f:Nat) (part q:List Int),pOk n p part->qOk n q->pOk n p (bfs m p f part q)
 |_,part,[],h,_=>by unfold bfs;exact h
 |0,part,_::_,h,_=>by simpa [bfs] using h
 |f+1,part,c::q,h,hq=>by
  simp only [bfs]
  obtain ⟨g1,g2,_⟩:=ylo hm (hq c (by simp)) hp (st:=(part,q)) h (fun x hx=>hq x (by simp [hx])) 4 (Nat.le_refl _)
  exact yo9 hm hp f _ _ g1 g2
theorem yih {m:List Int} {n:Nat} (hm:ycl m n): ∀k,k<=n->pOk n (lbN m n k).2 (lbN m n k).1/\0<=(lbN m n k).2/\(lbN m n k).2<=k
 |0,_=>⟨⟨by simp [lbN],fun i hi=>by simp [lbN,hi]⟩,by simp [lbN],by simp [lbN]⟩
 |k+1,hk=>by
  obtain ⟨h1,h2,h3⟩:=yih hm k (by omega)
  simp only [lbN,lbC]
  split
  ·exact ⟨h1,h2,by omega⟩
  ·refine ⟨?_,by omega,by omega⟩
   have:pOk n ((lbN m n k).2) (bfs m (lbN m n k).2 (2*n+1) ((lbN m n k).1.set k (lbN m n k).2) [(k:Int)]):=by
    refine yo9 hm h2 _ _ _ ⟨by simp [h1.1],fun i hi=>?_⟩ (fun x hx=>by simp at hx;omega)
    have hkl:k<(lbN m n k).1.length:=by rw [h1.1];omega
    by_cases e:k=i
    ·subst e;rw [yar hkl];omega
    ·rw [yam e];exact h1.2 i hi
   exact ⟨this.1,fun i hi=>by have:=this.2 i hi;simp only;omega⟩
end Go.Proofs.YtfgbnalnbdhimaaGreatDoor
namespace Go.Proofs.YtfgbnalnbdhimaaGreatDoor
def ya7 (h b:Int):Int:=h-h % 4+(h % 4+b.tmod 4+4)% 4
theorem ygu {h b:Int} {n:Nat} (h0:0<=h) (h1:h<4*n):0<=ya7 h b/\ya7 h b<4*n:=by
 have: -4<b.tmod 4/\b.tmod 4<4:=⟨Int.lt_tmod_of_pos b (by decide),Int.tmod_lt_of_pos b (by decide)⟩
 unfold ya7;omega
theorem y0e {m:List Int} {c p:Int} {s:Nat} {st:List Int×List Int} {i:Nat} (h:0<=st.1.getD i 0):(lb1 m c p s st).1.getD i 0=st.1.getD i 0:=by
 unfold lb1
 simp only
 split
 ·rename_i hn
  by_cases e:(m.getD (4*c+s).toNat 0/4).toNat=i
  ·subst e;omega
  ·simp only;rw [yam e]
 ·rfl
theorem ypa {m:List Int} {c p:Int} {st:List Int×List Int} {i:Nat} (h:0<=st.1.getD i 0): ∀s,(lb4 m c p st s).1.getD i 0=st.1.getD i 0
 |0=>rfl
 |s+1=>by
  have:=ypa (m:=m) (c:=c) (p:=p) h s
  simp only [lb4];rw [y0e (by omega),this]
theorem ykl {m:List Int} {p:Int} {i:Nat}: ∀(f:Nat) (part q:List Int),0<=part.getD i 0->(bfs m p f part q).getD i 0=part.getD i 0
 |_,part,[],h=>by unfold bfs;rfl
 |0,part,_::_,h=>by simp [bfs]
 |f+1,part,c::q,h=>by
  simp only [bfs]
  have:=ypa (m:=m) (c:=c) (p:=p) (st:=(part,q)) h 4
  rw [ykl f _ _ (by rw [this];exact h),this]
theorem yii {m:List Int} {n:Nat} (hm:ycl m n): ∀k,k<=n-> ∀i,i<n->(lbN m n k).1.getD i 0<(lbN m n k).2/\(i<k->0<=(lbN m n k).1.getD i 0)
 |0,_,i,hi=>by simp [lbN,hi]
 |k+1,hk,i,hi=>by
  obtain ⟨h1,h2⟩:=yii hm k (by omega) i hi
  obtain ⟨g1,g2,g3⟩:=yih hm k (by omega)
  simp only [lbN,lbC]
  split
  ·rename_i h0
   refine ⟨h1,fun hik=>?_⟩
   rcases Nat.lt_or_ge i k with g|g
   ·exact h2 g
   ·rwa [show i=k by omega]
  ·rename_i h0
   have hkl:k<(lbN m n k).1.length:=by rw [g1.1];omega
   have hset:pOk n (lbN m n k).2 ((lbN m n k).1.set k (lbN m n k).2):=⟨by simp [g1.1],fun i hi=>by
    by_cases e:k=i
    ·subst e;rw [yar hkl];omega
    ·rw [yam e];exact g1.2 i hi⟩
   have hb:=yo9 hm g2 (2*n+1) _ [(k:Int)] hset (fun x hx=>by simp at hx;omega)
   have hbi:=hb.2 i hi
   refine ⟨by simp only;omega,fun hik=>?_⟩
   have hnn:0<=((lbN m n k).1.set k (lbN m n k).2).getD i 0:=by
    by_cases e:k=i
    ·subst e;rw [yar hkl];exact g2
    ·rw [yam e];exact h2 (by omega)
   simp only
   rw [ykl _ _ _ hnn];exact hnn
theorem yij {m:List Int} {n:Nat} (hm:ycl m n):(yat m n).1.length=n/\0<=(yat m n).2/\(yat m n).2<=n/\ ∀i,i<n->0<=(yat m n).1.getD i 0/\(yat m n).1.getD i 0<(yat m n).2:=by
 obtain ⟨g1,g2,g3⟩:=yih hm n (Nat.le_refl _)
 exact ⟨g1.1,g2,g3,fun i hi=>⟨(yii hm n (Nat.le_refl _) i hi).2 hi,(yii hm n (Nat.le_refl _) i hi).1⟩⟩
def decs (part:List Int) (np:Nat):Nat->List Int
 |0=>List.replicate np 0
 |k+1=>let e:=decs part np k;let p:=(part.getD k 0).toNat;e.set p (e.getD p 0-1)
theorem yja (part:List Int) (np:Nat): ∀k,(decs part np k).length=np/\ ∀i,-(k:Int)<=(decs part np k).getD i 0/\(decs part np k).getD i 0<=0
 |0=>⟨by simp [decs],fun i=>by
   by_cases h:i<np
   ·simp [decs,h]
   ·simp [decs,h]⟩
 |k+1=>by
  obtain ⟨h1,h2⟩:=yja part np k
  refine ⟨by simp [decs,h1],fun i=>?_⟩
  simp only [decs]
  by_cases e:(part.getD k 0).toNat=i
  ·by_cases hl:i<(decs part np k).length
   ·subst e;rw [yar hl];have:=h2 (part.getD k 0).toNat;omega
   ·have:=h2 i;rw [List.set_eq_of_length_le (by omega)];omega
  ·rw [yam e];have:=h2 i;omega
def mark (m:List Int):Nat->List Bool->Int->List Bool
 |0,s,_=>s
 |f+1,s,g=>if s.getD g.toNat false then s else mark m f (s.set g.toNat true) (ya7 (m.getD g.toNat 0) (-1))
def sph1 (m part:List Int) (h:Nat) (st:List Int×List Bool):List Int×List Bool:=
 if st.2.getD h false then st else
  let p:=(part.getD (h/4) 0).toNat
  (st.1.set p (st.1.getD p 0+1),mark m (m.length+1) st.2 h)
def sphN (m part:List Int) (np:Nat):Nat->List Int×List Bool
 |0=>(decs part np part.length,List.replicate m.length false)
 |h+1=>sph1 m part h (sphN m part np h)
def sphM (m:List Int) (n:Nat):Bool:=(sphN m (yat m n).1 (yat m n).2.toNat m.length).1.all (· ==2)
def unm (s:List Bool):Nat:=s.countP fun x=> !x
theorem yr9 {l:List Bool} {i:Nat} (hi:i<l.length) (hl:l.getD i false=false):unm (l.set i true)+1=unm l:=by
 unfold unm
 induction l generalizing i with
 |nil=>simp at hi
 |cons x l ih=>
  cases i with
  |zero=>
   simp at hl
   simp [hl]
  |succ i=>
   simp only [List.set_cons_succ,List.countP_cons]
   have:=ih (i:=i) (by simpa using hi) (by simpa using hl)
   omega
theorem y5n (l:List Bool):unm l<=l.length:=List.countP_le_length
theorem ypb (m:List Int): ∀(f:Nat) (s:List Bool) (g:Int),(mark m f s g).length=s.length
 |0,_,_=>rfl
 |f+1,s,g=>by
  simp only [mark]
  split
  ·rfl
  ·rw [ypb m f];simp
theorem yfg (m part:List Int) (np:Nat): ∀h,(sphN m part np h).1.length=np/\(sphN m part np h).2.length=m.length/\ ∀i,-(part.length:Int)<=(sphN m part np h).1.getD i 0/\(sphN m part np h).1.getD i 0<=h
 |0=>by
  obtain ⟨h1,h2⟩:=yja part np part.length
  exact ⟨h1,by simp [sphN],fun i=>by have:=h2 i;simp only [sphN];omega⟩
 |h+1=>by
  obtain ⟨h1,h2,h3⟩:=yfg m part np h
  simp only [sphN,sph1]
  split
  ·exact ⟨h1,h2,fun i=>by have:=h3 i;omega⟩
  ·refine ⟨by simp [h1],by simp only;rw [ypb];exact h2,fun i=>?_⟩
   simp only
   by_cases e:(part.getD (h/4) 0).toNat=i
   ·by_cases hl:i<(sphN m part np h).1.length
    ·subst e;rw [yar hl];have:=h3 (part.getD (h/4) 0).toNat;omega
    ·have:=h3 i;rw [List.set_eq_of_length_le (by omega)];omega
   ·rw [yam e];have:=h3 i;omega
def outB (s:List Int) (h:Int):Bool:=if h % 4=1 then s.getD (h/4).toNat 0==1 else if h % 4=2 then true else if h % 4=3 then s.getD (h/4).toNat 0== -1 else false
def ycy (s:List Int) (k:Nat):Prop:= ∀i,i<k->s.getD i 0=1\/s.getD i 0= -1
def ydf (s m:List Int) (k:Nat):Prop:= ∀h:Nat,h<k->0<=m.getD h 0/\m.getD h 0<4*s.length/\m.getD h 0≠h/\m.getD (m.getD h 0).toNat 0=h/\outB s h≠outB s (m.getD h 0)
instance (s:List Int) (k:Nat):Decidable (ycy s k):=inferInstanceAs (Decidable (∀i,i<k->s.getD i 0=1\/s.getD i 0= -1))
instance (s m:List Int) (k:Nat):Decidable (ydf s m k):=inferInstanceAs (Decidable (∀h:Nat,h<k->0<=m.getD h 0/\m.getD h 0<4*s.length/\m.getD h 0≠h/\m.getD (m.getD h 0).toNat 0=h/\outB s h≠outB s (m.getD h 0)))
def ycz (s m:List Int) (L:Int):Bool:=decide (s.length<=64/\m.length=4*s.length/\0<=L/\L<=64/\ycy s s.length/\ydf s m (4*s.length))
def ya4 (s m:List Int) (L:Int):Bool:=ycz s m L&&sphM m s.length
theorem vbF {s m:List Int} {L:Int} (h: ¬(s.length<=64/\m.length=4*s.length/\0<=L/\L<=64/\ycy s s.length/\ydf s m (4*s.length))):false=ya4 s m L:=by
 unfold ya4 ycz;rw [decide_eq_false h];rfl
theorem vbT {s m:List Int} {L:Int} (h:s.length<=64/\m.length=4*s.length/\0<=L/\L<=64/\ycy s s.length/\ydf s m (4*s.length)):sphM m s.length=ya4 s m L:=by
 unfold ya4 ycz;rw [decide_eq_true h];rfl
theorem yum {s m:List Int} {L:Int}:ya4 s m L=true↔(s.length<=64/\m.length=4*s.length/\0<=L/\L<=64/\ycy s s.length/\ydf s m (4*s.length))/\sphM m s.length=true:=by
 unfold ya4 ycz
 rw [Bool.and_eq_true,decide_eq_true_iff]
theorem yik {s:List Int} {k:Nat} (h:ycy s k) (hx:s.getD k 0=1\/s.getD k 0= -1):ycy s (k+1):=fun i hi=>by
 rcases Nat.lt_or_ge i k with g|g
 ·exact h i g
 ·rw [show i=k by omega];exact hx
theorem ypc {s m:List Int} {k:Nat} (h:ydf s m k) (hx:0<=m.getD k 0/\m.getD k 0<4*s.length/\m.getD k 0≠k/\m.getD (m.getD k 0).toNat 0=k/\outB s k≠outB s (m.getD k 0)):ydf s m (k+1):=fun i hi=>by
 rcases Nat.lt_or_ge i k with g|g
 ·exact h i g
 ·rw [show i=k by omega];exact hx
theorem nbt {b:Bool} (h:b=false): ¬b=true:=by simp [h]
theorem yun {l:List Int} {k:Nat} (hk:k<l.length) (h: ¬l.getD k 0=2):l.all (· ==2)=false:=by
 cases ha:l.all (· ==2) with
 |false=>rfl
 |true=>
  have:=List.all_eq_true.1 ha _ (List.getElem_mem hk)
  simp only [beq_iff_eq] at this
  simp [hk,this] at h
theorem ywo {l:List Int} (h: ∀i,i<l.length->l.getD i 0=2):l.all (· ==2)=true:=by
 rw [List.all_eq_true]
 intro x hx
 obtain ⟨i,hi,rfl⟩:=List.mem_iff_getElem.1 hx
 have:=h i hi
 simpa [hi] using this
end Go.Proofs.YtfgbnalnbdhimaaGreatDoor
namespace Go.Proofs.YtfgbnalnbdhimaaGreatDoor
def it (nx:Int->Int):Nat->Int->Int
 |0,x=>x
 |j+1,x=>nx (it nx j x)
def its (nx:Int->Int) (x:Int) (k:Nat):List Int:=(List.range k).map fun j=>it nx j x
theorem ypd (nx:Int->Int) (x:Int) (k:Nat):its nx x (k+1)=its nx x k++[it nx k x]:=by simp [its,List.range_succ]
theorem ymr (nx:Int->Int) (x:Int) (k:Nat):(its nx x k).length=k:=by simp [its]
structure Per (nx:Int->Int) (x:Int) (k:Nat):Prop where
 pos:0<k
 back:it nx k x=x
 first: ∀j,0<j->j<k->it nx j x≠x
def ybt (seen:List Bool):List Int->List Bool
 |[]=>seen
 |g::r=>ybt (seen.set g.toNat true) r
theorem yez (l:List Int): ∀seen,(ybt seen l).length=seen.length:=by
 induction l with
 |nil=>intro s;rfl
 |cons g r ih=>intro s;simp [ybt,ih]
theorem yfz (a:List Int): ∀(seen:List Bool) (b:List Int),ybt seen (a++b)=ybt (ybt seen a) b:=by
 induction a with
 |nil=>intro s b;rfl
 |cons g r ih=>intro s b;simp [ybt,ih]
theorem ye0 (l:List Int): ∀(seen:List Bool) (i:Nat),(∀g∈l,0<=g/\g.toNat<seen.length)->(ybt seen l).getD i false=(seen.getD i false||decide ((i:Int)∈l)):=by
 induction l with
 |nil=>intro s i _;simp [ybt]
 |cons g r ih=>
  intro s i h
  have hg:=h g (by simp)
  rw [ybt,ih _ _ (fun x hx=>by simpa using h x (by simp [hx]))]
  by_cases e:g.toNat=i
  ·subst e
   rw [yar hg.2]
   have:((g.toNat:Nat):Int)=g:=by omega
   simp [this]
  ·rw [yam e]
   have:(i:Int)≠g:=by omega
   simp [this]
def cys1 (want:Int->Bool) (orb:Int->List Int) (h:Nat) (st:List (List Int)×List Bool):List (List Int)×List Bool:=
 if st.2.getD h false|| !want h then st else (st.1++[orb h],ybt st.2 (orb h))
def cysN (N:Nat) (want:Int->Bool) (orb:Int->List Int):Nat->List (List Int)×List Bool
 |0=>([],List.replicate N false)
 |h+1=>cys1 want orb h (cysN N want orb h)
theorem ykm (N:Nat) (want:Int->Bool) (orb:Int->List Int): ∀h,(cysN N want orb h).2.length=N/\(cysN N want orb h).1.length<=h
 |0=>by simp [cysN]
 |h+1=>by
  obtain ⟨h1,h2⟩:=ykm N want orb h
  simp only [cysN,cys1]
  split
  ·exact ⟨h1,by omega⟩
  ·exact ⟨by simp only;rw [yez];exact h1,by simp;omega⟩
end Go.Proofs.YtfgbnalnbdhimaaGreatDoor
namespace Go.Proofs.YtfgbnalnbdhimaaGreatDoor
theorem ype: ∀(N:Nat) (f:Nat->Nat),(∀i,i<=N->f i<N)-> ∃i j,i<j/\j<=N/\f i=f j
 |0,f,h=>absurd (h 0 (Nat.le_refl _)) (by omega)
 |N+1,f,h=>by
  by_cases hx: ∃i,i<=N/\f i=f (N+1)
  ·obtain ⟨i,hi,e⟩:=hx;exact ⟨i,N+1,by omega,by omega,e⟩
  ·have hne: ∀i,i<=N->f i≠f (N+1):=fun i hi e=>hx ⟨i,hi,e⟩
   have hg: ∀i,i<=N->(if f i=N then f (N+1) else f i)<N:=by
    intro i hi
    have h1:=h i (by omega)
    have h2:=h (N+1) (by omega)
    have h3:=hne i hi
    split<;>omega
   obtain ⟨i,j,hij,hj,e⟩:=ype N (fun i=>if f i=N then f (N+1) else f i) hg
   refine ⟨i,j,hij,by omega,?_⟩
   have h1:=hne i (by omega)
   have h2:=hne j hj
   split at e<;>split at e<;>omega
theorem yuo {p:Nat->Prop}: ∀n,p n-> ∃k,k<=n/\p k/\ ∀m,m<k-> ¬p m:=by
 intro n
 induction n using Nat.strongRecOn with
 |_ n ih=>
  intro hn
  by_cases hx: ∃m,m<n/\p m
  ·obtain ⟨m,hm,hp⟩:=hx
   obtain ⟨k,h1,h2,h3⟩:=ih m hm hp
   exact ⟨k,by omega,h2,h3⟩
  ·exact ⟨n,Nat.le_refl _,hn,fun m hm hp=>hx ⟨m,hm,hp⟩⟩
theorem ylp (nx:Int->Int) (i j:Nat) (x:Int):it nx (i+j) x=it nx i (it nx j x):=by
 induction i with
 |zero=>simp [it]
 |succ i ih=>rw [Nat.add_right_comm];simp [it,ih]
structure Perm (nx:Int->Int) (N:Nat) (S:Int->Prop):Prop where
 rng: ∀x,S x->0<=x/\x<N
 closed: ∀x,S x->S (nx x)
 inj: ∀x y,S x->S y->nx x=nx y->x=y
section
variable {nx:Int->Int} {N:Nat} {S:Int->Prop}
theorem Perm.it (h:Perm nx N S) {x:Int} (hx:S x): ∀j,S (it nx j x)
 |0=>hx
 |j+1=>h.closed _ (h.it hx j)
theorem Perm.cancel (h:Perm nx N S) {x:Int} (hx:S x): ∀i d,Proofs.YtfgbnalnbdhimaaGreatDoor.it nx (i+d) x=Proofs.YtfgbnalnbdhimaaGreatDoor.it nx i x->Proofs.YtfgbnalnbdhimaaGreatDoor.it nx d x=x
 |0,d,e=>by simpa [Proofs.YtfgbnalnbdhimaaGreatDoor.it] using e
 |i+1,d,e=>by
  rw [Nat.add_right_comm] at e
  exact h.cancel hx i d (h.inj _ _ (h.it hx _) (h.it hx _) e)
theorem Perm.per (h:Perm nx N S) {x:Int} (hx:S x): ∃k,k<=N/\Per nx x k:=by
 obtain ⟨i,j,hij,hj,e⟩:=ype N (fun j=>(Proofs.YtfgbnalnbdhimaaGreatDoor.it nx j x).toNat) (fun i _=>by have:=h.rng _ (h.it hx i);omega)
 have r1:=h.rng _ (h.it hx i)
 have r2:=h.rng _ (h.it hx j)
 have e':Proofs.YtfgbnalnbdhimaaGreatDoor.it nx (i+(j-i)) x=Proofs.YtfgbnalnbdhimaaGreatDoor.it nx i x:=by rw [show i+(j-i)=j by omega];omega
 have hd:=h.cancel hx i (j-i) e'
 obtain ⟨k,h1,⟨h2,h3⟩,h4⟩:=yuo (p:=fun d=>0<d/\Proofs.YtfgbnalnbdhimaaGreatDoor.it nx d x=x) (j-i) ⟨by omega,hd⟩
 exact ⟨k,by omega,h2,h3,fun m hm hlt e=>h4 m hlt ⟨hm,e⟩⟩
theorem ywp {x:Int} {k:Nat} (h:Per nx x k): ∀j,it nx j x=it nx (j % k) x:=by
 intro j
 induction j using Nat.strongRecOn with
 |_ j ih=>
  rcases Nat.lt_or_ge j k with g|g
  ·rw [Nat.mod_eq_of_lt g]
  ·have h0:=h.pos
   have:it nx j x=it nx (j-k) x:=by
    conv=>lhs;rw [show j=(j-k)+k by omega]
    rw [ylp,h.back]
   rw [this,ih (j-k) (by omega),←Nat.mod_eq_sub_mod g]
theorem yjb {x y:Int} {k:Nat}:y∈its nx x k↔ ∃j,j<k/\it nx j x=y:=by simp [its]
theorem yj5 {x y:Int} {k:Nat} (h:Per nx x k):y∈its nx x k↔ ∃j,it nx j x=y:=by
 rw [yjb]
 constructor
 ·rintro ⟨j,_,e⟩;exact ⟨j,e⟩
 ·rintro ⟨j,e⟩;exact ⟨j % k,Nat.mod_lt _ h.pos,by rw [←ywp h,e]⟩
theorem yup {x y:Int} {k:Nat} (h:Per nx x k) (hy: ∃j,it nx j x=y): ∃j,it nx j y=x:=by
 obtain ⟨j,e⟩:=hy
 have h0:=h.pos
 refine ⟨k-j % k,?_⟩
 have hlt:=Nat.mod_lt j h0
 rw [←e,ywp h j,←ylp,show k-j % k+j % k=k by omega,h.back]
theorem yrm {x y z:Int} (h1: ∃j,it nx j x=y) (h2: ∃j,it nx j y=z): ∃j,it nx j x=z:=by
 obtain ⟨i,rfl⟩:=h1;obtain ⟨j,rfl⟩:=h2;exact ⟨j+i,ylp nx j i x⟩
theorem ywq (h:Perm nx N S) {x:Int} {k:Nat} (hx:S x) (hp:Per nx x k):(its nx x k).Nodup:=by
 unfold its
 rw [List.nodup_iff_pairwise_ne,List.pairwise_map]
 refine List.Pairwise.imp_of_mem ?_ (List.pairwise_lt_range)
 intro a b ha hb hlt e
 have hb:=List.mem_range.1 hb
 have:=h.cancel hx a (b-a) (by rw [show a+(b-a)=b by omega];exact e.symm)
 exact hp.first (b-a) (by omega) (by omega) this
end
def ypf (x:Int) (l:List Int):Bool:=l.all fun y=>decide (x<=y)
theorem yhp {x:Int} {l:List Int}:ypf x l=true↔ ∀y∈l,x<=y:=by simp [ypf]
end Go.Proofs.YtfgbnalnbdhimaaGreatDoor
namespace Go.Proofs.YtfgbnalnbdhimaaGreatDoor
def nb (m:List Int) (a s:Nat):Nat:=(m.getD (4*a+s) 0/4).toNat
inductive Conn (m:List Int):Nat->Nat->Prop
 |refl (a:Nat):Conn m a a
 |step {a b:Nat} (s:Nat) (hs:s<4) (h:Conn m a b):Conn m a (nb m b s)
structure yao (m:List Int) (n:Nat):Prop where
 ok:ycl m n
 inv: ∀h:Nat,h<4*n->m.getD (m.getD h 0).toNat 0=h
section
variable {m:List Int} {n:Nat}
theorem Conn.trans {a b c:Nat} (h1:Conn m a b) (h2:Conn m b c):Conn m a c:=by
 induction h2 with
 |refl=>exact h1
 |step s hs _ ih=>exact .step s hs ih
theorem yao.nb_lt (hp:yao m n) {a s:Nat} (ha:a<n) (hs:s<4):nb m a s<n:=by
 have:=hp.ok.2 (4*a+s) (by omega);unfold nb;omega
theorem yao.back (hp:yao m n) {a s:Nat} (ha:a<n) (hs:s<4): ∃t,t<4/\nb m (nb m a s) t=a:=by
 have h1:=hp.ok.2 (4*a+s) (by omega)
 have h2:=hp.inv (4*a+s) (by omega)
 refine ⟨(m.getD (4*a+s) 0 % 4).toNat,by omega,?_⟩
 unfold nb
 rw [show 4*(m.getD (4*a+s) 0/4).toNat+(m.getD (4*a+s) 0 % 4).toNat=(m.getD (4*a+s) 0).toNat by omega,h2]
 omega
theorem Conn.lt (hp:yao m n) {a b:Nat} (h:Conn m a b) (ha:a<n):b<n:=by
 induction h with
 |refl=>exact ha
 |step s hs _ ih=>exact hp.nb_lt ih hs
theorem Conn.symm (hp:yao m n) {a b:Nat} (h:Conn m a b) (ha:a<n):Conn m b a:=by
 induction h with
 |refl=>exact .refl _
 | @step b s hs h ih=>
   obtain ⟨t,ht,e⟩:=hp.back (h.lt hp ha) hs
   have h1:=Conn.step t ht (Conn.refl (m:=m) (nb m b s))
   rw [e] at h1
   exact h1.trans ih
theorem Conn.closed (hp:yao m n) {S:Nat->Prop} (hc: ∀a s,a<n->s<4->S a->S (nb m a s)) {a b:Nat} (h:Conn m a b) (ha:a<n) (hS:S a):S b:=by
 induction h with
 |refl=>exact hS
 |step s hs h ih=>exact hc _ s (h.lt hp ha) hs ih
structure BJ (m:List Int) (n:Nat) (p:Int) (c:Nat) (part q:List Int) (at':Nat) (s:Nat):Prop where
 pok:pOk n p part
 qok:qOk n q
 old: ∀a,a<n->0<=part.getD a 0->part.getD a 0≠p-> ∀s,s<4->part.getD (nb m a s) 0=part.getD a 0
 cur: ∀a,a<n->part.getD a 0=p->(a:Int)∉q->a≠at'-> ∀s,s<4->part.getD (nb m a s) 0=p
 con: ∀a,a<n->part.getD a 0=p->Conn m c a
 que: ∀x∈q,part.getD x.toNat 0=p
 hd:at'<n->part.getD at' 0=p/\ ∀s',s'<s->part.getD (nb m at' s') 0=p
theorem BJ.one (hp:yao m n) {p:Int} (h0:0<=p) {c a s:Nat} {st:List Int×List Int} (h:BJ m n p c st.1 st.2 a s) (ha:a<n) (hs:s<4):BJ m n p c (lb1 m a p s st).1 (lb1 m a p s st).2 a (s+1):=by
 have hlt:=hp.nb_lt ha hs
 have hok:=ywn hp.ok (c:=(a:Int)) (p:=p) ⟨by omega,by omega⟩ h0 hs h.pok h.qok
 obtain ⟨hd1,hd2⟩:=h.hd ha
 have e0:m.getD (4*(a:Int)+s).toNat 0/4=(nb m a s:Int):=by
  have:=hp.ok.2 (4*a+s) (by omega)
  unfold nb
  rw [show (4*(a:Int)+s).toNat=4*a+s by omega];omega
 have hl1:=h.pok.1
 by_cases hn:st.1.getD (nb m a s) 0<0
 ·have e:lb1 m a p s st=(st.1.set (nb m a s) p,st.2++[(nb m a s:Int)]):=by
   unfold lb1;simp only;rw [e0];simp only [Int.toNat_natCast];rw [if_pos hn]
  rw [e] at hok⊢
  have hg: ∀b,(st.1.set (nb m a s) p).getD b 0=if b=nb m a s then p else st.1.getD b 0:=by
   intro b
   by_cases eb:nb m a s=b
   ·subst eb;rw [if_pos rfl,yar (by omega)]
   ·rw [yam eb,if_neg (Ne.symm eb)]
  refine ⟨hok.1,hok.2.1,?_,?_,?_,?_,?_⟩
  ·intro b hb h1 h2 t ht
   simp only [hg] at h1 h2⊢
   by_cases eb:b=nb m a s
   ·rw [if_pos eb] at h2;omega
   ·rw [if_neg eb] at h1 h2⊢
    have h3:=h.old b hb h1 h2 t ht
    rw [if_neg ?_,h3]
    intro e';rw [e'] at h3;omega
  ·intro b hb h1 h2 h3 t ht
   simp only [hg] at h1⊢
   have eb:b≠nb m a s:=fun e'=>h2 (by simp [e'])
   rw [if_neg eb] at h1
   have:=h.cur b hb h1 (fun hm=>h2 (by simp [hm])) h3 t ht
   split
   ·rfl
   ·exact this
  ·intro b hb h1
   simp only [hg] at h1
   by_cases eb:b=nb m a s
   ·subst eb;exact .step s hs (h.con a ha hd1)
   ·rw [if_neg eb] at h1;exact h.con b hb h1
  ·intro x hx
   rcases List.mem_append.1 hx with hx|hx
   ·have:=h.que x hx
    simp only [hg];split
    ·rfl
    ·exact this
   ·rw [List.mem_singleton.1 hx];simp only [hg,Int.toNat_natCast,if_pos]
  ·intro _
   simp only [hg]
   refine ⟨?_,fun s' hs'=>?_⟩
   ·split
    ·rfl
    ·exact hd1
   ·rcases Nat.lt_or_ge s' s with g|g
    ·split
     ·rfl
     ·exact hd2 s' g
    ·rw [show s'=s by omega,if_pos rfl]
 ·have e:lb1 m a p s st=st:=by
   unfold lb1;simp only;rw [e0];simp only [Int.toNat_natCast];rw [if_neg hn]
  rw [e]
  refine ⟨h.pok,h.qok,h.old,h.cur,h.con,h.que,fun _=>⟨hd1,fun s' hs'=>?_⟩⟩
  rcases Nat.lt_or_ge s' s with g|g
  ·exact hd2 s' g
  ·obtain rfl:s'=s:=by omega
   by_cases ep:st.1.getD (nb m a s') 0=p
   ·exact ep
   ·obtain ⟨t,ht,eb⟩:=hp.back ha hs
    have:=h.old (nb m a s') hlt (by omega) ep t ht
    rw [eb] at this
    omega
theorem BJ.four (hp:yao m n) {p:Int} (h0:0<=p) {c a:Nat} {st:List Int×List Int} (h:BJ m n p c st.1 st.2 a 0) (ha:a<n): ∀s,s<=4->BJ m n p c (lb4 m a p st s).1 (lb4 m a p st s).2 a s
 |0,_=>h
 |s+1,hs=>(BJ.four hp h0 h ha s (by omega)).one hp h0 ha (by omega)
theorem ywr (hp:yao m n) {p:Int} (h0:0<=p) {c:Nat}: ∀(f:Nat) (part q:List Int),BJ m n p c part q n 0->2*negs part+q.length<=f->BJ m n p c (bfs m p f part q) [] n 0
 |f,part,[],h,_=>by unfold bfs;exact h
 |0,part,_::_,_,hf=>by simp at hf
 |f+1,part,x::q,h,hf=>by
  obtain ⟨hx0,hx1⟩:=h.qok x (by simp)
  have hxp:=h.que x (by simp)
  obtain ⟨a,rfl⟩: ∃a:Nat,x=a:=⟨x.toNat,by omega⟩
  have ha:a<n:=by omega
  simp only [Int.toNat_natCast] at hxp
  have h1:BJ m n p c (part,q).1 (part,q).2 a 0:=⟨h.pok,fun y hy=>h.qok y (by simp [hy]),h.old,fun b hb hbp hbq hne s hs=>h.cur b hb hbp (by simp only [List.mem_cons,not_or];exact ⟨by omega,hbq⟩) (by omega) s hs,h.con,fun y hy=>h.que y (by simp [hy]),fun _=>⟨hxp,fun s' hs'=>by omega⟩⟩
  have h2:=BJ.four hp h0 h1 ha 4 (Nat.le_refl _)
  obtain ⟨_,_,h3,_⟩:=ylo hp.ok (c:=(a:Int)) (p:=p) ⟨by omega,by omega⟩ h0 (st:=(part,q)) h1.pok h1.qok 4 (Nat.le_refl _)
  simp only [bfs]
  simp only [List.length_cons] at hf
  simp only at h3
  refine ywr hp h0 f _ _ ⟨h2.pok,h2.qok,h2.old,fun b hb hbp hbq _ s hs=>?_,h2.con,h2.que,fun hh=>by omega⟩ (by omega)
  by_cases e:b=a
  ·subst e;exact (h2.hd ha).2 s hs
  ·exact h2.cur b hb hbp hbq e s hs
theorem y5o (m:List Int) (c p:Int) (s:Nat) (st:List Int×List Int) (i:Nat):(lb1 m c p s st).1.getD i 0=st.1.getD i 0\/(lb1 m c p s st).1.getD i 0=p:=by
 unfold lb1
 simp only
 split
 ·by_cases e:(m.getD (4*c+s).toNat 0/4).toNat=i
  ·subst e
   by_cases hl:(m.getD (4*c+s).toNat 0/4).toNat<st.1.length
   ·right;simp only;rw [yar hl]
   ·left;simp only;rw [List.set_eq_of_length_le (by omega)]
  ·left;simp only;rw [yam e]
 ·exact .inl rfl
theorem yws (m:List Int) (c p:Int) (st:List Int×List Int) (i:Nat): ∀s,(lb4 m c p st s).1.getD i 0=st.1.getD i 0\/(lb4 m c p st s).1.getD i 0=p
 |0=> .inl rfl
 |s+1=>by
  rcases y5o m c p s (lb4 m c p st s) i with h|h
  ·rcases yws m c p st i s with g|g
   ·exact .inl (by simp only [lb4];rw [h,g])
   ·exact .inr (by simp only [lb4];rw [h,g])
  ·exact .inr h
theorem ywt (m:List Int) (p:Int) (i:Nat): ∀(f:Nat) (part q:List Int),(bfs m p f part q).getD i 0=part.getD i 0\/(bfs m p f part q).getD i 0=p
 |_,part,[]=>by unfold bfs;exact .inl rfl
 |0,part,_::_=>by simp [bfs]
 |f+1,part,c::q=>by
  simp only [bfs]
  rcases ywt m p i f (lb4 m c p (part,q) 4).1 (lb4 m c p (part,q) 4).2 with h|h
  ·rcases yws m c p (part,q) i 4 with g|g
   ·exact .inl (h.trans g)
   ·exact .inr (h.trans g)
  ·exact .inr h
structure LI (m:List Int) (n:Nat) (st:List Int×Int):Prop where
 clo: ∀a,a<n->0<=st.1.getD a 0-> ∀s,s<4->st.1.getD (nb m a s) 0=st.1.getD a 0
 con: ∀a b,a<n->b<n->0<=st.1.getD a 0->st.1.getD a 0=st.1.getD b 0->Conn m a b
 att: ∀p:Nat,(p:Int)<st.2-> ∃a,a<n/\st.1.getD a 0=p
theorem ypg (hp:yao m n): ∀k,k<=n->LI m n (lbN m n k)
 |0,_=>⟨fun a ha h=>by simp [lbN,ha] at h,fun a b ha _ h=>by simp [lbN,ha] at h,fun p h=>by simp [lbN] at h;omega⟩
 |k+1,hk=>by
  have ih:=ypg hp k (by omega)
  obtain ⟨g1,g2,g3⟩:=yih hp.ok k (by omega)
  have glt:=fun i hi=>(yii hp.ok k (by omega) i hi).1
  simp only [lbN,lbC]
  split
  ·exact ih
  ·rename_i hneg
   have hneg:(lbN m n k).1.getD k 0<0:=by omega
   generalize lbN m n k=st at*
   obtain ⟨part,p⟩:=st
   simp only at*
   have hpl:=g1.1
   have hset: ∀b,(part.set k p).getD b 0=if b=k then p else part.getD b 0:=by
    intro b
    by_cases eb:k=b
    ·subst eb;rw [if_pos rfl,yar (by omega)]
    ·rw [yam eb,if_neg (Ne.symm eb)]
   have hb0:BJ m n p k (part.set k p) [(k:Int)] n 0:=by
    refine ⟨⟨by simp [hpl],fun i hi=>by rw [hset];have:=g1.2 i hi;split<;>omega⟩,fun x hx=>by simp at hx;omega,?_,?_,?_,fun x hx=>by simp at hx;subst hx;simp only [Int.toNat_natCast];rw [hset,if_pos rfl],fun hh=>by omega⟩
    ·intro a ha h1 h2 s hs
     simp only [hset] at h1 h2⊢
     by_cases e:a=k
     ·rw [if_pos e] at h2;omega
     ·rw [if_neg e] at h1 h2⊢
      have:part.getD (nb m a s) 0=part.getD a 0:=ih.clo a ha h1 s hs
      rw [if_neg ?_,this]
      intro e';rw [e'] at this;omega
    ·intro a ha h1 h2 _ s hs
     simp only [hset] at h1
     by_cases e:a=k
     ·subst e;simp at h2
     ·rw [if_neg e] at h1;have:=glt a ha;omega
    ·intro a ha h1
     simp only [hset] at h1
     by_cases e:a=k
     ·subst e;exact .refl _
     ·rw [if_neg e] at h1;have:=glt a ha;omega
   have hn1:=ykk (i:=k) (p:=p) (by omega) hneg g2
   have hn2:=yr8 part
   have hb:=ywr hp g2 (2*n+1) _ _ hb0 (by simp only [List.length_singleton];omega)
   have hkeep:=fun i=>ykl (m:=m) (p:=p) (i:=i) (2*n+1) (part.set k p) [(k:Int)]
   have hck:(bfs m p (2*n+1) (part.set k p) [(k:Int)]).getD k 0=p:=by
    rw [hkeep k (by rw [hset,if_pos rfl];exact g2),hset,if_pos rfl]
   have hor:=fun i=>ywt m p i (2*n+1) (part.set k p) [(k:Int)]
   generalize bfs m p (2*n+1) (part.set k p) [(k:Int)]=res at*
   have hold: ∀a,a<n->0<=part.getD a 0->res.getD a 0=part.getD a 0:=by
    intro a ha h1
    have e:a≠k:=fun e=>by subst e;omega
    have h2:=hkeep a
    rw [hset,if_neg e] at h2
    exact h2 h1
   have hnew: ∀a,a<n->0<=res.getD a 0->res.getD a 0≠p->0<=part.getD a 0:=by
    intro a ha h1 h2
    have h3:=hor a
    rw [hset] at h3
    rcases h3 with h3|h3
    ·split at h3
     ·omega
     ·omega
    ·omega
   have c1: ∀a,a<n->0<=res.getD a 0-> ∀s,s<4->res.getD (nb m a s) 0=res.getD a 0:=fun a ha h1 s hs=>by
    by_cases e:res.getD a 0=p
    ·rw [e];exact hb.cur a ha e (by simp) (by omega) s hs
    ·exact hb.old a ha h1 e s hs
   have c2: ∀a b,a<n->b<n->0<=res.getD a 0->res.getD a 0=res.getD b 0->Conn m a b:=fun a b ha hbn h1 h2=>by
    by_cases e:res.getD a 0=p
    ·exact (Conn.symm hp (hb.con a ha e) (by omega)).trans (hb.con b hbn (by omega))
    ·have ha':=hnew a ha h1 e
     have hb':=hnew b hbn (by omega) (by omega)
     exact ih.con a b ha hbn ha' (by show part.getD a 0=part.getD b 0;rw [←hold a ha ha',←hold b hbn hb'];exact h2)
   have c3: ∀q:Nat,(q:Int)<p+1-> ∃a,a<n/\res.getD a 0=q:=fun q hq=>by
    rcases Int.lt_or_le q p with g|g
    ·obtain ⟨a,ha,e⟩:=ih.att q g
     have e:part.getD a 0=q:=e
     exact ⟨a,ha,by rw [hold a ha (by omega),e]⟩
    ·exact ⟨k,by omega,by rw [hck];omega⟩
   exact ⟨c1,c2,c3⟩
theorem ylq (hp:yao m n) {a b:Nat} (ha:a<n) (hb:b<n):(yat m n).1.getD a 0=(yat m n).1.getD b 0↔Conn m a b:=by
 have h:=ypg hp n (Nat.le_refl _)
 have h0:=fun i hi=>(yii hp.ok n (Nat.le_refl _) i hi).2 hi
 constructor
 ·exact fun e=>h.con a b ha hb (h0 a ha) e
 ·intro hc
  refine (Conn.closed hp (S:=fun x=>x<n/\(yat m n).1.getD x 0=(yat m n).1.getD a 0) ?_ hc ha ⟨ha,rfl⟩).2.symm
  intro x s hx hs ⟨_,e⟩
  exact ⟨hp.nb_lt hx hs,by rw [←e];exact h.clo x hx (h0 x hx) s hs⟩
theorem yuq (hp:yao m n) {p:Nat} (h:(p:Int)<(yat m n).2): ∃a,a<n/\(yat m n).1.getD a 0=p:=(ypg hp n (Nat.le_refl _)).att p h
def rl1 (m:List Int) (h:Nat) (l:List Int):List Int:=(l.set (h/4) (min (l.getD (h/4) 0) (l.getD (m.getD h 0/4).toNat 0))).set (m.getD h 0/4).toNat (min (l.getD (h/4) 0) (l.getD (m.getD h 0/4).toNat 0))
def rlH (m l:List Int):Nat->List Int
 |0=>l
 |h+1=>rl1 m h (rlH m l h)
def rlP (m:List Int) (n:Nat):Nat->List Int
 |0=>(List.range n).map fun (i:Nat)=>(i:Int)
 |k+1=>rlH m (rlP m n k) (4*n)
def RI (m:List Int) (n:Nat) (l:List Int):Prop:=l.length=n/\ ∀c,c<n->0<=l.getD c 0/\l.getD c 0<=c/\Conn m c (l.getD c 0).toNat
theorem ysa (hp:yao m n) {l:List Int} (hl:l.length=n) {h:Nat} (hh:h<4*n) (c:Nat):(rl1 m h l).getD c 0=if c=h/4\/c=nb m (h/4) (h % 4) then min (l.getD (h/4) 0) (l.getD (nb m (h/4) (h % 4)) 0) else l.getD c 0:=by
 have e:(m.getD h 0/4).toNat=nb m (h/4) (h % 4):=by unfold nb;rw [show 4*(h/4)+h % 4=h by omega]
 have hlt:=hp.nb_lt (a:=h/4) (s:=h % 4) (by omega) (by omega)
 unfold rl1
 rw [e]
 by_cases e1:nb m (h/4) (h % 4)=c
 ·subst e1;rw [yar (by simp;omega),if_pos (.inr rfl)]
 ·rw [yam e1]
  by_cases e2:h/4=c
  ·subst e2;rw [yar (by omega),if_pos (.inl rfl)]
  ·rw [yam e2,if_neg (by omega)]
theorem y3i (l:List Int) (h:Nat):(rl1 m h l).length=l.length:=by simp [rl1]
theorem ywu (hp:yao m n) {l:List Int} (hl:RI m n l) {h:Nat} (hh:h<4*n):RI m n (rl1 m h l)/\ ∀c,c<n->(rl1 m h l).getD c 0<=l.getD c 0:=by
 have hlt:=hp.nb_lt (a:=h/4) (s:=h % 4) (by omega) (by omega)
 have h1:=hl.2 (h/4) (by omega)
 have h2:=hl.2 _ hlt
 have hc:Conn m (h/4) (nb m (h/4) (h % 4)):= .step _ (by omega) (.refl _)
 have hc':=hc.symm hp (by omega)
 have key: ∀c,c<n->(0<=(rl1 m h l).getD c 0/\(rl1 m h l).getD c 0<=c/\Conn m c ((rl1 m h l).getD c 0).toNat)/\(rl1 m h l).getD c 0<=l.getD c 0:=by
  intro c hcn
  rw [ysa hp hl.1 hh]
  by_cases e:c=h/4\/c=nb m (h/4) (h % 4)
  ·rw [if_pos e]
   rw [Int.min_def]
   split
   ·rcases e with e|e
    ·subst e;exact ⟨⟨h1.1,h1.2.1,h1.2.2⟩,Int.le_refl _⟩
    ·subst e;exact ⟨⟨h1.1,by omega,hc'.trans h1.2.2⟩,by omega⟩
   ·rcases e with e|e
    ·subst e;exact ⟨⟨h2.1,by omega,hc.trans h2.2.2⟩,by omega⟩
    ·subst e;exact ⟨⟨h2.1,h2.2.1,h2.2.2⟩,Int.le_refl _⟩
  ·rw [if_neg e];exact ⟨hl.2 c hcn,Int.le_refl _⟩
 exact ⟨⟨by rw [y3i];exact hl.1,fun c hc=>(key c hc).1⟩,fun c hc=>(key c hc).2⟩
theorem ylr (hp:yao m n) {l:List Int} (hl:RI m n l): ∀h,h<=4*n->RI m n (rlH m l h)/\ ∀c,c<n->(rlH m l h).getD c 0<=l.getD c 0
 |0,_=>⟨hl,fun c _=>Int.le_refl _⟩
 |h+1,hh=>by
  obtain ⟨h1,h2⟩:=ylr hp hl h (by omega)
  obtain ⟨h3,h4⟩:=ywu hp h1 (h:=h) (by omega)
  exact ⟨h3,fun c hc=>Int.le_trans (h4 c hc) (h2 c hc)⟩
theorem ywv (hp:yao m n) {l:List Int} (hl:RI m n l): ∀h,h<=4*n-> ∀c s,4*c+s<h->s<4->(rlH m l h).getD (nb m c s) 0<=l.getD c 0
 |0,_,c,s,hcs,_=>by omega
 |h+1,hh,c,s,hcs,hs=>by
  obtain ⟨h1,h2⟩:=ylr hp hl h (by omega)
  obtain ⟨h3,h4⟩:=ywu hp h1 (h:=h) (by omega)
  rcases Nat.lt_or_ge (4*c+s) h with q|q
  ·exact Int.le_trans (h4 _ (hp.nb_lt (by omega) hs)) (ywv hp hl h (by omega) c s q hs)
  ·have e1:h/4=c:=by omega
   have e2:h % 4=s:=by omega
   simp only [rlH]
   rw [ysa hp h1.1 (by omega),e1,e2,if_pos (.inr rfl)]
   have:=h2 c (by omega)
   omega
theorem yf0 (hp:yao m n): ∀k,RI m n (rlP m n k)
 |0=>⟨by simp [rlP],fun c hc=>by simp [rlP,hc];exact .refl _⟩
 |k+1=>(ylr hp (yf0 hp k) (4*n) (Nat.le_refl _)).1
theorem yph {p q:Nat->Bool} (l:List Nat) (h: ∀x∈l,p x=true->q x=true):l.countP p<=l.countP q:=by
 induction l with
 |nil=>simp
 |cons x l ih=>
  have:=ih (fun y hy=>h y (by simp [hy]))
  have hx:=h x (by simp)
  simp only [List.countP_cons]
  cases hpx:p x<;>cases hqx:q x<;>simp_all<;>omega
theorem yil {p q:Nat->Bool} (l:List Nat) (h: ∀x∈l,p x=true->q x=true) {y:Nat} (hy:y∈l) (h1:p y=false) (h2:q y=true):l.countP p<l.countP q:=by
 induction l with
 |nil=>simp at hy
 |cons x l ih=>
  have h3:=yph l (fun y hy=>h y (by simp [hy]))
  have hx:=h x (by simp)
  simp only [List.countP_cons]
  rcases List.mem_cons.1 hy with e|e
  ·subst e;simp [h1,h2];omega
  ·have:=ih (fun y hy=>h y (by simp [hy])) e
   cases hpx:p x<;>cases hqx:q x<;>simp_all<;>omega
theorem yww (hp:yao m n) {u:Nat} (hu:u<n) (hmin: ∀b,Conn m u b->u<=b) {b:Nat} (hb:Conn m u b):(rlP m n n).getD b 0=u:=by
 have hge: ∀k c,Conn m u c->(u:Int)<=(rlP m n k).getD c 0:=fun k c hc=>by
  have hr:=(yf0 hp k).2 c (hc.lt hp hu)
  have:=hmin _ (hc.trans hr.2.2);omega
 have hself: ∀k,(rlP m n k).getD u 0=u:=fun k=>by
  have hr:=(yf0 hp k).2 u hu
  have:=hge k u (.refl _);omega
 have hmono: ∀k c,c<n->(rlP m n (k+1)).getD c 0<=(rlP m n k).getD c 0:=fun k c hc=>(ylr hp (yf0 hp k) (4*n) (Nat.le_refl _)).2 c hc
 have hnb: ∀k c s,c<n->s<4->(rlP m n (k+1)).getD (nb m c s) 0<=(rlP m n k).getD c 0:=fun k c s hc hs=>ywv hp (yf0 hp k) (4*n) (Nat.le_refl _) c s (by omega) hs
 have hin: ∀k c,c<n->(rlP m n k).getD c 0=u->Conn m u c:=fun k c hc e=>by
  have hr:=(yf0 hp k).2 c hc
  have h1:=hr.2.2
  rw [e] at h1
  exact (by simpa using h1:Conn m c u).symm hp hc
 have key: ∀k,(∀c,Conn m u c->(rlP m n k).getD c 0=u)\/k+1<=(List.range n).countP (fun c=>decide ((rlP m n k).getD c 0=u)):=by
  intro k
  induction k with
  |zero=>
   right
   exact List.countP_pos_iff.2 ⟨u,List.mem_range.2 hu,by simp only [hself 0,decide_true]⟩
  |succ k ih=>
   rcases ih with ih|ih
   ·left
    intro c hc
    have h1:=hmono k c (hc.lt hp hu)
    have h2:=hge (k+1) c hc
    rw [ih c hc] at h1;omega
   ·by_cases hcl: ∀c s,c<n->s<4->(rlP m n k).getD c 0=u->(rlP m n k).getD (nb m c s) 0=u
    ·left
     intro c hc
     have h0:=(Conn.closed hp (S:=fun c=>c<n/\(rlP m n k).getD c 0=u) (fun a s ha hs h=>⟨hp.nb_lt ha hs,hcl a s ha hs h.2⟩) hc hu ⟨hu,hself k⟩).2
     have h1:=hmono k c (hc.lt hp hu)
     have h2:=hge (k+1) c hc
     rw [h0] at h1;omega
    ·right
     have hex: ∃c s,c<n/\s<4/\(rlP m n k).getD c 0=u/\(rlP m n k).getD (nb m c s) 0≠u:=by
      apply Classical.byContradiction
      intro hne
      exact hcl fun c s hc hs e=>Classical.byContradiction fun e'=>hne ⟨c,s,hc,hs,e,e'⟩
     obtain ⟨c,s,hc,hs,e1,e2⟩:=hex
     have hcu:=hin k c hc e1
     have hlt:=hp.nb_lt hc hs
     have h3:(rlP m n (k+1)).getD (nb m c s) 0=u:=by
      have h1:=hnb k c s hc hs
      have h2:=hge (k+1) (nb m c s) (.step s hs hcu)
      omega
     have:=yil (p:=fun c=>decide ((rlP m n k).getD c 0=u)) (q:=fun c=>decide ((rlP m n (k+1)).getD c 0=u)) (List.range n) (fun x hx hpx=>by
      have hx:=List.mem_range.1 hx
      have e:=of_decide_eq_true hpx
      have h1:=hmono k x hx
      have h2:=hge (k+1) x (hin k x hx e)
      exact decide_eq_true (by omega)) (List.mem_range.2 hlt) (decide_eq_false e2) (decide_eq_true h3)
     omega
 rcases key n with h|h
 ·exact h b hb
 ·have:=List.countP_le_length (p:=fun c=>decide ((rlP m n n).getD c 0=u)) (l:=List.range n)
  rw [List.length_range] at this;omega
theorem yms (hp:yao m n) {a:Nat} (ha:a<n): ∃u,u<n/\Conn m u a/\(∀b,b<n->((rlP m n n).getD b 0=u↔Conn m a b)):=by
 obtain ⟨u,h1,h2,h3⟩:=yuo (p:=fun b=>Conn m a b) a (.refl _)
 have hu:u<n:=by omega
 have hmin: ∀b,Conn m u b->u<=b:=fun b hb=>Nat.le_of_not_lt fun hlt=>h3 b hlt (h2.trans hb)
 have hua:=h2.symm hp ha
 refine ⟨u,hu,hua,fun b hb=>⟨fun e=>?_,fun hab=>yww hp hu hmin (hua.trans hab)⟩⟩
 have hr:=(yf0 hp n).2 b hb
 have h4:=hr.2.2
 rw [e] at h4
 exact h2.trans ((by simpa using h4:Conn m b u).symm hp hb)
end
end Go.Proofs.YtfgbnalnbdhimaaGreatDoor
namespace Go.Proofs.YtfgbnalnbdhimaaGreatDoor
def orbG (nx:Int->Int) (x:Int):Nat->Int->List Int
 |0,_=>[]
 |f+1,g=>if g=x then [] else g::orbG nx x f (nx g)
def orbF (nx:Int->Int) (N:Nat) (x:Int):List Int:=x::orbG nx x N (nx x)
theorem ysb {nx:Int->Int} {x:Int} {k:Nat} (h:Per nx x k): ∀f j,0<j->j<=k->k<=f+j->orbG nx x f (it nx j x)=(List.range (k-j)).map fun i=>it nx (j+i) x
 |0,j,h0,h1,h2=>by obtain rfl:j=k:=by omega
                   simp [orbG]
 |f+1,j,h0,h1,h2=>by
  unfold orbG
  by_cases e:j=k
  ·subst e;rw [if_pos h.back];simp
  ·rw [if_neg (h.first j h0 (by omega)),show k-j=(k-(j+1))+1 by omega,List.range_succ_eq_map]
   rw [show nx (it nx j x)=it nx (j+1) x from rfl,ysb h f (j+1) (by omega) (by omega) (by omega)]
   simp only [List.map_cons,Nat.add_zero,List.map_map,List.cons.injEq,true_and]
   refine List.map_congr_left fun i _=>?_
   simp only [Function.comp];rw [show j+i.succ=j+1+i by omega]
theorem ysc {nx:Int->Int} {x:Int} {k N:Nat} (h:Per nx x k) (hk:k<=N+1):orbF nx N x=its nx x k:=by
 have h0:=h.pos
 unfold orbF its
 rw [show nx x=it nx 1 x from rfl,ysb h N 1 (by omega) (by omega) (by omega)]
 conv=>rhs;rw [show k=(k-1)+1 by omega,List.range_succ_eq_map]
 simp only [List.map_cons,List.map_map]
 refine congrArg (List.cons x) (List.map_congr_left fun i _=>?_)
 simp only [Function.comp];rw [show i.succ=1+i by omega]
def ybg (m:List Int) (g:Int):Int:=ya7 (m.getD g.toNat 0) (-1)
def InR (n:Nat) (x:Int):Prop:=0<=x/\x<4*n
theorem ywx {n:Nat} {x y b:Int} (hx:InR n x) (hy:InR n y) (e:ya7 x b=ya7 y b):x=y:=by
 have: -4<b.tmod 4/\b.tmod 4<4:=⟨Int.lt_tmod_of_pos b (by decide),Int.tmod_lt_of_pos b (by decide)⟩
 unfold ya7 InR at*;omega
section
variable {m:List Int} {n:Nat}
theorem yao.inj (hp:yao m n) {x y:Int} (hx:InR n x) (hy:InR n y) (e:m.getD x.toNat 0=m.getD y.toNat 0):x=y:=by
 unfold InR at*
 have h1:=hp.inv x.toNat (by omega)
 have h2:=hp.inv y.toNat (by omega)
 rw [e,h2] at h1;omega
theorem yao.rng (hp:yao m n) {x:Int} (hx:InR n x):InR n (m.getD x.toNat 0):=by
 unfold InR at*;have:=hp.ok.2 x.toNat (by omega);omega
theorem ynu (hp:yao m n) (b:Int):Perm (fun g=>ya7 (m.getD g.toNat 0) b) (4*n) (InR n):=
 ⟨fun x hx=>by unfold InR at hx;omega,fun x hx=>by have:=hp.rng hx;unfold InR at*;exact ygu this.1 this.2,
  fun x y hx hy e=>hp.inj hx hy (ywx (hp.rng hx) (hp.rng hy) e)⟩
theorem ygo (hp:yao m n):Perm (ybg m) (4*n) (InR n):=ynu hp (-1)
theorem yd0 {nx:Int->Int} {N:Nat} {S:Int->Prop} (h:Perm nx N S) {x:Int} (hx:S x):
  (∀y,y∈orbF nx N x↔ ∃j,it nx j x=y)/\(∀y∈orbF nx N x,S y)/\(∀y∈orbF nx N x,x∈orbF nx N y)/\(∀y∈orbF nx N x,∀z∈orbF nx N y,z∈orbF nx N x)/\x∈orbF nx N x/\(orbF nx N x).length<=N/\(orbF nx N x).Nodup/\ ∃k,k<=N/\Per nx x k/\orbF nx N x=its nx x k:=by
 obtain ⟨k,hk,hp⟩:=h.per hx
 have e:=ysc hp (N:=N) (by omega)
 have hm: ∀y,y∈orbF nx N x↔ ∃j,it nx j x=y:=fun y=>by rw [e];exact yj5 hp
 have hS: ∀y∈orbF nx N x,S y:=fun y hy=>by obtain ⟨j,rfl⟩:=(hm y).1 hy;exact h.it hx j
 have hm': ∀y,S y-> ∀z,z∈orbF nx N y↔ ∃j,it nx j y=z:=fun y hy z=>by
  obtain ⟨l,hl,hq⟩:=h.per hy
  rw [ysc hq (N:=N) (by omega)];exact yj5 hq
 refine ⟨hm,hS,fun y hy=>?_,fun y hy z hz=>?_,by simp [orbF],by rw [e,ymr];exact hk,by rw [e];exact ywq h hx hp,k,hk,hp,e⟩
 ·exact (hm' y (hS y hy) x).2 (yup hp ((hm y).1 hy))
 ·exact (hm z).2 (yrm ((hm y).1 hy) ((hm' y (hS y hy) z).1 hz))
theorem y3j (hp:yao m n) (hn:m.length=4*n) {seen:List Bool} (hl:seen.length=4*n) {x:Int} (hx:InR n x) {k:Nat} (hk:Per (ybg m) x k) (hu: ∀j,j<k->seen.getD (it (ybg m) j x).toNat false=false):
  ∀d j f,d=k-j->j<=k->d<f->mark m f (ybt seen (its (ybg m) x j)) (it (ybg m) j x)=ybt seen (its (ybg m) x k):=by
 have hpm:=ygo hp
 have hR: ∀j,InR n (it (ybg m) j x):=fun j=>hpm.it hx j
 have hrr: ∀j,∀g∈its (ybg m) x j,0<=g/\g.toNat<seen.length:=fun j g hg=>by
  obtain ⟨i,_,rfl⟩:=yjb.1 hg
  have:=hR i;unfold InR at this;omega
 have hk0:=hk.pos
 intro d
 induction d with
 |zero=>
  intro j f hd hj hf
  obtain rfl:j=k:=by omega
  obtain ⟨f',rfl⟩: ∃f',f=f'+1:=⟨f-1,by omega⟩
  simp only [mark]
  rw [hk.back,if_pos]
  rw [ye0 _ _ _ (hrr j),Bool.or_eq_true,decide_eq_true_iff]
  right
  have hx':=hx
  unfold InR at hx'
  rw [show ((x.toNat:Nat):Int)=x by omega]
  exact yjb.2 ⟨0,hk0,rfl⟩
 |succ d ih=>
  intro j f hd hj hf
  obtain ⟨f',rfl⟩: ∃f',f=f'+1:=⟨f-1,by omega⟩
  have hRj:=hR j
  unfold InR at hRj
  simp only [mark]
  rw [if_neg]
  ·have e1:(ybt seen (its (ybg m) x j)).set (it (ybg m) j x).toNat true=ybt seen (its (ybg m) x (j+1)):=by
    rw [ypd,yfz];rfl
   rw [e1]
   exact ih (j+1) f' (by omega) (by omega) (by omega)
  ·rw [ye0 _ _ _ (hrr j),hu j (by omega),Bool.false_or,decide_eq_true_iff]
   rw [show (((it (ybg m) j x).toNat:Nat):Int)=it (ybg m) j x by omega]
   intro hm
   obtain ⟨i,hi,e⟩:=yjb.1 hm
   have:=hpm.cancel hx i (j-i) (by rw [show i+(j-i)=j by omega];exact e.symm)
   exact hk.first (j-i) (by omega) (by omega) this
def fl (m:List Int) (h:Nat):Bool:=ypf h (orbF (ybg m) m.length h)
def cntV (l:List Int) (n:Nat) (p:Int):Nat:=(List.range n).countP fun c=>l.getD c 0==p
def cntF (m l:List Int) (h:Nat) (p:Int):Nat:=(List.range h).countP fun i=>fl m i&&l.getD (i/4) 0==p
theorem ywy (l:List Int) (n:Nat) (p:Int):cntV l (n+1) p=cntV l n p+if l.getD n 0=p then 1 else 0:=by
 unfold cntV;rw [List.range_succ,List.countP_append];simp [List.countP_cons]
theorem ynv (m l:List Int) (h:Nat) (p:Int):cntF m l (h+1) p=cntF m l h p+if fl m h=true/\l.getD (h/4) 0=p then 1 else 0:=by
 unfold cntF;rw [List.range_succ,List.countP_append];simp [List.countP_cons]
theorem ysd {part:List Int} {np:Nat} (hpt: ∀c,c<part.length->0<=part.getD c 0/\part.getD c 0<np) {p:Nat} (h:p<np): ∀k,k<=part.length->(decs part np k).getD p 0= -(cntV part k p:Int)
 |0,_=>by simp [decs,cntV,h]
 |k+1,hk=>by
  have ih:=ysd hpt h k (by omega)
  have hl:=(yja part np k).1
  have hr:=hpt k (by omega)
  simp only [decs]
  rw [ywy]
  by_cases e:(part.getD k 0).toNat=p
  ·rw [e,yar (by omega),if_pos (by omega),ih];omega
  ·rw [yam e,if_neg (by omega),ih];omega
theorem yse (hp:yao m n) (hm:m.length=4*n) {part:List Int} {np:Nat} (hpl:part.length=n) (hpt: ∀c,c<n->0<=part.getD c 0/\part.getD c 0<np): ∀h,h<=4*n->
  (∀p:Nat,p<np->(sphN m part np h).1.getD p 0=(cntF m part h p:Int)-cntV part n p)/\
  ∀g:Nat,g<4*n->((sphN m part np h).2.getD g false=true↔ ∃x:Nat,x<h/\(g:Int)∈orbF (ybg m) m.length x)
 |0,_=>by
  refine ⟨fun p hlt=>?_,fun g hg=>by simp [sphN,hm,hg]⟩
  simp only [sphN]
  rw [ysd (fun c hc=>hpt c (by omega)) hlt _ (Nat.le_refl _),hpl];simp [cntF]
 |h+1,hh=>by
  obtain ⟨h1,h2⟩:=yse hp hm hpl hpt h (by omega)
  obtain ⟨l1,l2,_⟩:=yfg m part np h
  have hR: ∀x:Nat,x<4*n->InR n (x:Int):=fun x hx=>by unfold InR;omega
  have hof:=fun (x:Nat) (hx:x<4*n)=>by
   have:=yd0 (ygo hp) (hR x hx)
   rw [←hm] at this;exact this
  have hsee:=h2 h (by omega)
  simp only [sphN,sph1]
  by_cases hs:(sphN m part np h).2.getD h false=true
  ·rw [if_pos hs]
   obtain ⟨x,hx,hxm⟩:=hsee.1 hs
   have hfl:fl m h=false:=by
    cases hf:fl m h with
    |false=>rfl
    |true=>
     have:=yhp.1 hf x ((hof x (by omega)).2.2.1 h hxm);omega
   refine ⟨fun p hlt=>by rw [ynv,if_neg (by simp [hfl]),h1 p hlt];omega,fun g hg=>?_⟩
   rw [h2 g hg]
   constructor
   ·rintro ⟨y,hy,h3⟩;exact ⟨y,by omega,h3⟩
   ·rintro ⟨y,hy,h3⟩
    rcases Nat.lt_or_ge y h with q|q
    ·exact ⟨y,q,h3⟩
    ·obtain rfl:y=h:=by omega
     exact ⟨x,hx,(hof x (by omega)).2.2.2.1 y hxm g h3⟩
  ·rw [if_neg hs]
   obtain ⟨o1,o2,o3,o4,o5,o6,o7,k,hk,hper,hok⟩:=hof h (by omega)
   have hfl:fl m h=true:=yhp.2 fun y hy=>by
    have hr:=o2 y hy
    unfold InR at hr
    obtain ⟨z,rfl⟩: ∃z:Nat,y=z:=⟨y.toNat,by omega⟩
    rcases Nat.lt_or_ge z h with q|q
    ·exact absurd (hsee.2 ⟨z,q,o3 z hy⟩) hs
    ·omega
   have hmk:mark m (m.length+1) (sphN m part np h).2 h=ybt (sphN m part np h).2 (orbF (ybg m) m.length h):=by
    rw [hok]
    refine y3j hp hm (by omega) (hR h (by omega)) hper (fun j hj=>?_) k 0 (m.length+1) (by omega) (by omega) (by omega)
    have hjm:it (ybg m) j h∈orbF (ybg m) m.length h:=(o1 _).2 ⟨j,rfl⟩
    have hjr:=o2 _ hjm
    unfold InR at hjr
    cases hgs:(sphN m part np h).2.getD (it (ybg m) j h).toNat false with
    |false=>rfl
    |true=>
     obtain ⟨y,hy,h3⟩:=(h2 _ (by omega)).1 hgs
     rw [show (((it (ybg m) j h).toNat:Nat):Int)=it (ybg m) j h by omega] at h3
     exact absurd (hsee.2 ⟨y,hy,(hof y (by omega)).2.2.2.1 _ h3 _ (o3 _ hjm)⟩) hs
   have hpp:=hpt (h/4) (by omega)
   refine ⟨fun p hlt=>?_,fun g hg=>?_⟩
   ·rw [ynv]
    simp only
    by_cases e:(part.getD (h/4) 0).toNat=p
    ·rw [e,yar (by omega),if_pos ⟨hfl,by omega⟩,h1 p hlt];omega
    ·rw [yam e,if_neg (by omega),h1 p hlt];omega
   ·simp only
    rw [hmk,ye0 _ _ _ (fun y hy=>by have:=o2 y hy;unfold InR at this;omega),Bool.or_eq_true,h2 g hg,decide_eq_true_iff]
    constructor
    ·rintro (⟨x,h4,h5⟩|h4)
     ·exact ⟨x,by omega,h5⟩
     ·exact ⟨h,by omega,h4⟩
    ·rintro ⟨x,h4,h6⟩
     rcases Nat.lt_or_ge x h with q|q
     ·exact .inl ⟨x,q,h6⟩
     ·obtain rfl:x=h:=by omega
      exact .inr h6
theorem y0f (hp:yao m n):sphM m n=true↔ ∀p:Nat,(p:Int)<(yat m n).2->cntF m (yat m n).1 (4*n) p=cntV (yat m n).1 n p+2:=by
 obtain ⟨p1,p2,p3,p4⟩:=yij hp.ok
 have hm:=hp.ok.1
 have h1:=(yse hp hm p1 (np:=(yat m n).2.toNat) (fun c hc=>by have:=p4 c hc;omega) (4*n) (Nat.le_refl _)).1
 have hlen:=(yfg m (yat m n).1 (yat m n).2.toNat (4*n)).1
 unfold sphM
 rw [hm,List.all_eq_true]
 constructor
 ·intro h p hlt
  have h2:=h1 p (by omega)
  have hmem:(sphN m (yat m n).1 (yat m n).2.toNat (4*n)).1.getD p 0∈(sphN m (yat m n).1 (yat m n).2.toNat (4*n)).1:=by
   rw [List.getD_eq_getElem?_getD,List.getElem?_eq_getElem (by omega)];exact List.getElem_mem _
  have:=h _ hmem
  simp only [beq_iff_eq] at this
  omega
 ·intro h x hx
  obtain ⟨i,hi,rfl⟩:=List.mem_iff_getElem.1 hx
  have h2:=h1 i (by omega)
  have h3:=h i (by omega)
  rw [List.getD_eq_getElem?_getD,List.getElem?_eq_getElem hi] at h2
  simp only [Option.getD_some] at h2
  simp only [beq_iff_eq];omega
def sphR (m:List Int) (n:Nat):Bool:=(List.range n).all fun c=> !((rlP m n n).getD c 0==(c:Int))||cntF m (rlP m n n) (4*n) c==cntV (rlP m n n) n c+2
theorem ypi:sphR m n=true↔ ∀c,c<n->(rlP m n n).getD c 0=c->cntF m (rlP m n n) (4*n) c=cntV (rlP m n n) n c+2:=by
 unfold sphR
 rw [List.all_eq_true]
 constructor
 ·intro h c hc e
  have:=h c (List.mem_range.2 hc)
  rw [e] at this
  simpa using this
 ·intro h c hc
  by_cases e:(rlP m n n).getD c 0=(c:Int)
  ·rw [h c (List.mem_range.1 hc) e];simp
  ·have:((rlP m n n).getD c 0==(c:Int))=false:=by simpa using e
   rw [this];rfl
theorem ywz {l l':List Int} {p p':Int} (h: ∀b,b<n->(l.getD b 0=p↔l'.getD b 0=p')):cntV l n p=cntV l' n p'/\cntF m l (4*n) p=cntF m l' (4*n) p':=by
 constructor
 ·unfold cntV
  refine List.countP_congr fun b hb=>?_
  simp only [beq_iff_eq];exact h b (List.mem_range.1 hb)
 ·unfold cntF
  refine List.countP_congr fun b hb=>?_
  have:=List.mem_range.1 hb
  simp only [Bool.and_eq_true,beq_iff_eq];rw [h (b/4) (by omega)]
theorem y5p (hp:yao m n):sphM m n=sphR m n:=by
 obtain ⟨p1,p2,p3,p4⟩:=yij hp.ok
 have key: ∀a,a<n-> ∃u,u<n/\(rlP m n n).getD u 0=u/\cntV (yat m n).1 n ((yat m n).1.getD a 0)=cntV (rlP m n n) n u/\cntF m (yat m n).1 (4*n) ((yat m n).1.getD a 0)=cntF m (rlP m n n) (4*n) u/\(rlP m n n).getD a 0=u:=by
  intro a ha
  obtain ⟨u,hu,hua,hiff⟩:=yms hp ha
  have hcg:=ywz (m:=m) (n:=n) (l:=(yat m n).1) (l':=rlP m n n) (p:=(yat m n).1.getD a 0) (p':=u) (fun b hb=>by
   rw [hiff b hb]
   constructor
   ·intro e;exact (ylq hp ha hb).1 e.symm
   ·intro e;exact ((ylq hp ha hb).2 e).symm)
  exact ⟨u,hu,(hiff u hu).2 (hua.symm hp hu),hcg.1,hcg.2,(hiff a ha).2 (.refl _)⟩
 rw [Bool.eq_iff_iff,y0f hp,ypi]
 constructor
 ·intro h c hc e
  obtain ⟨u,hu,_,h1,h2,h3⟩:=key c hc
  have:u=c:=by omega
  subst this
  have h4:=p4 u hc
  have h5:=h ((yat m n).1.getD u 0).toNat (by omega)
  rw [show (((yat m n).1.getD u 0).toNat:Int)=(yat m n).1.getD u 0 by omega,h1,h2] at h5
  exact h5
 ·intro h p hlt
  obtain ⟨a,ha,e⟩:=yuq hp hlt
  obtain ⟨u,hu,h0,h1,h2,_⟩:=key a ha
  have h5:=h u hu h0
  rw [e] at h1 h2
  omega
end
theorem yw0 {s m:List Int} {L:Int} (h:ycz s m L=true):yao m s.length:=by
 unfold ycz at h
 obtain ⟨_,h2,_,_,_,h6⟩:=of_decide_eq_true h
 exact ⟨⟨h2,fun i hi=>⟨(h6 i hi).1,(h6 i hi).2.1⟩⟩,fun i hi=>(h6 i hi).2.2.2.1⟩
def yim (s m:List Int) (L:Int):Bool:=ycz s m L&&sphR m s.length
theorem ykn (s m:List Int) (L:Int):ya4 s m L=yim s m L:=by
 unfold ya4 yim
 cases h:ycz s m L with
 |false=>rfl
 |true=>rw [y5p (yw0 h)]
end Go.Proofs.YtfgbnalnbdhimaaGreatDoor
namespace Go.Proofs.YtfgbnalnbdhimaaGreatDoor
theorem yhq (h:Int):ya7 h 1=h-h % 4+(h % 4+5)% 4:=by
 have:(1:Int).tmod 4=1:=by decide
 unfold ya7;rw [this];omega
theorem ye1 (h:Int):ya7 h (-1)=h-h % 4+(h % 4+3)% 4:=by
 have:(-1:Int).tmod 4= -1:=by decide
 unfold ya7;rw [this];omega
def jnB (b:Bool) (h:Int):Int:=if decide (h % 2=1)=b then ya7 h 1 else ya7 h (-1)
theorem ydg (b:Bool) (h:Int):jnB b h/4=h/4:=by
 unfold jnB;rw [yhq,ye1];split<;>omega
theorem ymt (b:Bool) (h:Int):jnB b (jnB b h)=h:=by
 unfold jnB
 rw [yhq,ye1]
 cases b
 ·by_cases e:h % 2=1
  ·simp only [e,decide_true,Bool.true_eq_false,if_false]
   have: ¬(h-h % 4+(h % 4+3)% 4)% 2=1:=by omega
   simp only [this,decide_false,if_true]
   rw [yhq];omega
  ·simp only [e,decide_false,if_true]
   have:(h-h % 4+(h % 4+5)% 4)% 2=1:=by omega
   simp only [this,decide_true,Bool.true_eq_false,if_false]
   rw [ye1];omega
 ·by_cases e:h % 2=1
  ·simp only [e,decide_true,if_true]
   have: ¬(h-h % 4+(h % 4+5)% 4)% 2=1:=by omega
   simp only [this,decide_false,Bool.false_eq_true,if_false]
   rw [ye1];omega
  ·simp only [e,decide_false,Bool.false_eq_true,if_false]
   have:(h-h % 4+(h % 4+3)% 4)% 2=1:=by omega
   simp only [this,decide_true,if_true]
   rw [yhq];omega
def thrX (m:List Int) (b:Bool) (c:Int):Nat->Int->Int
 |0,x=>x
 |f+1,x=>if x/4=c then thrX m b c f (m.getD (jnB b x).toNat 0) else x
def usd (u:Int->Bool) (x y:Int):Int->Bool:=fun z=>u z||z==x||z==y
def thrU (m:List Int) (b:Bool) (c:Int):Nat->Int->(Int->Bool)->(Int->Bool)
 |0,_,u=>u
 |f+1,x,u=>if x/4=c then thrU m b c f (m.getD (jnB b x).toNat 0) (usd u x (jnB b x)) else u
theorem ysf {m:List Int} {b:Bool} {c:Int} {f:Nat} {x:Int} (h:x/4=c):thrX m b c (f+1) x=thrX m b c f (m.getD (jnB b x).toNat 0):=by simp only [thrX,h,if_true]
theorem ymu {m:List Int} {b:Bool} {c:Int} {f:Nat} {x:Int} (h: ¬x/4=c):thrX m b c f x=x:=by cases f<;>simp only [thrX,h,if_false]
theorem y3k {m:List Int} {b:Bool} {c:Int} {f:Nat} {x:Int} {u:Int->Bool} (h:x/4=c):thrU m b c (f+1) x u=thrU m b c f (m.getD (jnB b x).toNat 0) (usd u x (jnB b x)):=by simp only [thrU,h,if_true]
theorem y3l {m:List Int} {b:Bool} {c:Int} {f:Nat} {x:Int} {u:Int->Bool} (h: ¬x/4=c):thrU m b c f x u=u:=by cases f<;>simp only [thrU,h,if_false]
section
variable {m:List Int} {n:Nat} {b:Bool} {c:Nat}
def nxC (m:List Int) (b:Bool) (x:Int):Int:=m.getD (jnB b x).toNat 0
theorem y3m (hp:yao m n) (hc:c<n) {x y:Int} (hx:x/4=c) (hy:y/4=c) (e:nxC m b x=nxC m b y):x=y:=by
 have h1:=ydg b x
 have h2:=ydg b y
 have:=hp.inj (x:=jnB b x) (y:=jnB b y) (by unfold InR;omega) (by unfold InR;omega) e
 have h3:=congrArg (jnB b) this
 rwa [ymt,ymt] at h3
theorem y3n (f:Nat) (x:Int) (h:thrX m b c f x/4=c): ∀i,i<=f->it (nxC m b) i x/4=(c:Int):=by
 induction f generalizing x with
 |zero=>
  intro i hi
  obtain rfl:i=0:=by omega
  exact h
 |succ f ih=>
  intro i hi
  unfold thrX at h
  by_cases e:x/4=(c:Int)
  ·rw [if_pos e] at h
   cases i with
   |zero=>exact e
   |succ i=>
    have:=ih _ h i (by omega)
    have e2:it (nxC m b) (i+1) x=it (nxC m b) i (nxC m b x):=by rw [ylp];rfl
    rw [e2];exact this
  ·rw [if_neg e] at h;exact absurd h e
theorem yko (hp:yao m n) (hc:c<n) {h:Nat} (hh:h<4*n) (ho:h/4≠c):thrX m b c 5 (m.getD h 0)/4≠(c:Int):=by
 intro hin
 have hit:=y3n 5 (m.getD h 0) hin
 obtain ⟨i,j,hij,hj,e⟩:=ype 4 (fun i=>(it (nxC m b) i (m.getD h 0)-4*c).toNat) (fun i hi=>by have:=hit i (by omega);omega)
 have hi':=hit i (by omega)
 have hj':=hit j (by omega)
 have e':it (nxC m b) i (m.getD h 0)=it (nxC m b) j (m.getD h 0):=by omega
 have key: ∀i j,i<j->j<=5->it (nxC m b) i (m.getD h 0)=it (nxC m b) j (m.getD h 0)->m.getD h 0=it (nxC m b) (j-i) (m.getD h 0):=by
  intro i
  induction i with
  |zero=>intro j _ _ e;simpa [it] using e
  |succ i ih=>
   intro j hij hj e
   have:=ih (j-1) (by omega) (by omega) (y3m hp hc (hit i (by omega)) (hit (j-1) (by omega)) (by
    have:it (nxC m b) j (m.getD h 0)=nxC m b (it (nxC m b) (j-1) (m.getD h 0)):=by
     conv=>lhs;rw [show j=(j-1)+1 by omega]
     rfl
    rw [←this,←e];rfl))
   rw [show j-(i+1)=j-1-i by omega];exact this
 have h0:=key i j hij (by omega) e'
 have h1:it (nxC m b) (j-i) (m.getD h 0)=nxC m b (it (nxC m b) (j-i-1) (m.getD h 0)):=by
  conv=>lhs;rw [show j-i=(j-i-1)+1 by omega]
  rfl
 rw [h1] at h0
 have h2:=hit (j-i-1) (by omega)
 have h3:=ydg b (it (nxC m b) (j-i-1) (m.getD h 0))
 have hr:=hp.ok.2 h hh
 have h4:=hp.inv h hh
 unfold nxC at h0
 have h5:=hp.inv (jnB b (it (nxC m b) (j-i-1) (m.getD h 0))).toNat (by omega)
 unfold nxC at h5
 rw [←h0,h4] at h5
 unfold nxC at h3 h2
 omega
def smE (m:List Int) (b:Bool) (c:Nat):Nat->List Int
 |0=>m
 |h+1=>if h/4=c then smE m b c h else (smE m b c h).set h (thrX m b c 5 (m.getD h 0))
def smU (m:List Int) (b:Bool) (c:Nat):Nat->Int->Bool
 |0=>fun _=>false
 |h+1=>if h/4=c then smU m b c h else thrU m b c 5 (m.getD h 0) (smU m b c h)
theorem ymv (h:Nat):(smE m b c h).length=m.length:=by
 induction h with
 |zero=>rfl
 |succ h ih=>simp only [smE];split<;>simp [ih]
theorem ykp (hp:yao m n) (hc:c<n): ∀f x,InR n x->InR n (thrX m b c f x):=by
 intro f
 induction f with
 |zero=>intro x h;exact h
 |succ f ih=>
  intro x h
  unfold thrX
  split
  ·rename_i e
   have:=ydg b x
   exact ih _ (hp.rng (by unfold InR;omega))
  ·exact h
theorem y5q (hp:yao m n) (hc:c<n): ∀h,h<=4*n->ycl (smE m b c h) n:=by
 intro h
 induction h with
 |zero=>intro _;exact hp.ok
 |succ h ih=>
  intro hh
  have ih:=ih (by omega)
  simp only [smE]
  split
  ·exact ih
  ·refine ⟨by simp [ih.1],fun i hi=>?_⟩
   have hl:=ih.1
   by_cases e:h=i
   ·subst e
    rw [yar (by omega)]
    have:=ykp (b:=b) hp hc 5 (m.getD h 0) (by have:=hp.ok.2 h hi;unfold InR;omega)
    unfold InR at this;exact this
   ·rw [yam e];exact ih.2 i hi
theorem ynw (f:Nat): ∀(x:Int) (u:Int->Bool) (y:Int),u y=true->thrU m b c f x u y=true:=by
 induction f with
 |zero=>intro x u y h;exact h
 |succ f ih=>
  intro x u y h
  unfold thrU
  split
  ·exact ih _ _ _ (by simp [usd,h])
  ·exact h
theorem y0g (y:Int): ∀d k,smU m b c k y=true->smU m b c (k+d) y=true:=by
 intro d
 induction d with
 |zero=>intro k h;exact h
 |succ d ih=>
  intro k h
  have:=ih k h
  rw [←Nat.add_assoc]
  simp only [smU];split
  ·exact this
  ·exact ynw 5 _ _ _ this
theorem y5r (hp:yao m n) (hc:c<n) {x:Int} (hx:x/4=c) (hu:smU m b c (4*n) x=false):nxC m b x/4=(c:Int):=by
 apply Classical.byContradiction
 intro hne
 have h1:=ydg b x
 have hr:=hp.rng (x:=jnB b x) (by unfold InR;omega)
 unfold nxC at hne
 unfold InR at hr
 have hi:=hp.inv (jnB b x).toNat (by omega)
 generalize hy:m.getD (jnB b x).toNat 0=y at*
 obtain ⟨h,rfl⟩: ∃h:Nat,y=h:=⟨y.toNat,by omega⟩
 simp only [Int.toNat_natCast] at hi
 have h2:smU m b c (h+1) x=true:=by
  have hhc:h/4≠c:=by omega
  simp only [smU,hhc,if_false]
  rw [hi]
  unfold thrU
  have e1:(((jnB b x).toNat:Nat):Int)=jnB b x:=by omega
  rw [e1,if_pos (by omega)]
  refine ynw 4 _ _ _ ?_
  simp [usd,ymt]
 have h3:=y0g (m:=m) (b:=b) (c:=c) x (4*n-(h+1)) (h+1) h2
 rw [show h+1+(4*n-(h+1))=4*n by omega,hu] at h3
 cases h3
def lpU (m:List Int) (b:Bool):Nat->Int->(Int->Bool)->(Int->Bool)
 |0,_,u=>u
 |f+1,h,u=>if u h then u else lpU m b f (nxC m b h) (usd u h (jnB b h))
theorem y7j {f:Nat} {h:Int} {u:Int->Bool} (e:u h=true):lpU m b f h u=u:=by cases f<;>simp only [lpU,e,if_true]
theorem y7k {f:Nat} {h:Int} {u:Int->Bool} (e:u h=false):lpU m b (f+1) h u=lpU m b f (nxC m b h) (usd u h (jnB b h)):=by simp only [lpU,e,Bool.false_eq_true,if_false]
def yjc (c:Nat) (u:Int->Bool):Nat:=(List.range 4).countP fun (i:Nat)=> !u (4*c+i)
theorem y0h (u:Int->Bool):yjc c u<=4:=by
 have:=List.countP_le_length (p:=fun i:Nat=> !u (4*c+i)) (l:=List.range 4);unfold yjc;simpa using this
theorem yw1 {u:Int->Bool} {x y:Int} (hx:x/4=c) (hu:u x=false):yjc c (usd u x y)<yjc c u:=by
 unfold yjc
 refine yil _ (fun i _ h=>?_) (y:=(x-4*c).toNat) (by simp;omega) ?_ ?_
 ·simp only [usd,Bool.not_or,Bool.and_eq_true] at h⊢;exact h.1.1
 ·have e:(4*(c:Int)+((x-4*c).toNat:Nat))=x:=by omega
  rw [e];simp [usd]
 ·have e:(4*(c:Int)+((x-4*c).toNat:Nat))=x:=by omega
  rw [e,hu];rfl
def smL (m:List Int) (b:Bool) (c n:Nat):Int:=
 let u0:=smU m b c (4*n)
 let u1:=if u0 (4*c) then u0 else lpU m b 5 (4*c) u0
 (if u0 (4*c) then 0 else 1)+(if u1 (if b then 4*c+1 else 4*c+3) then 0 else 1)
end
end Go.Proofs.YtfgbnalnbdhimaaGreatDoor
namespace Go.Proofs.YtfgbnalnbdhimaaGreatDoor
def woS (s:List Int) (c:Nat):Nat->List Int
 |0=>[]
 |k+1=>if k=c then woS s c k else woS s c k++[s.getD k 0]
def cutM (m:List Int) (c:Nat) (h:Nat):Int:=if (c:Int)<m.getD h 0/4 then m.getD h 0-4 else m.getD h 0
def woM4 (m:List Int) (c k:Nat) (l:List Int):Nat->List Int
 |0=>l
 |x+1=>woM4 m c k l x++[cutM m c (4*k+x)]
def woM (m:List Int) (c:Nat):Nat->List Int
 |0=>[]
 |k+1=>if k=c then woM m c k else woM4 m c k (woM m c k) 4
theorem ysg (s:List Int) (c:Nat): ∀k,(woS s c k).length<=k
 |0=>by simp [woS]
 |k+1=>by have:=ysg s c k;simp only [woS];split<;>simp<;>omega
theorem yhr (m:List Int) (c k:Nat) (l:List Int): ∀x,(woM4 m c k l x).length=l.length+x
 |0=>by simp [woM4]
 |x+1=>by have:=yhr m c k l x;simp [woM4];omega
theorem ysh (m:List Int) (c:Nat): ∀k,(woM m c k).length<=4*k
 |0=>by simp [woM]
 |k+1=>by have:=ysh m c k;simp only [woM];split<;>(try rw [yhr])<;>omega
def yb0 (m:List Int) (g:Int):Int:=ya7 (m.getD g.toNat 0) 2
def yaq (s m:List Int):List (List Int):=(cysN m.length (outB s) (orbF (yb0 m) m.length) m.length).1
structure ycm (s m:List Int) (L:Int):Prop where
 s64:s.length<=64
 len:m.length=4*s.length
 l0:0<=L
 l64:L<=64
 sg:ycy s s.length
 mt:ydf s m (4*s.length)
 prd:yao m s.length
theorem ya8 {s m:List Int} {L:Int} (h:ya4 s m L=true):ycm s m L:=by
 obtain ⟨⟨h1,h2,h3,h4,h5,h6⟩,_⟩:=yum.1 h
 exact ⟨h1,h2,h3,h4,h5,h6,⟨h2,fun i hi=>⟨(h6 i hi).1,(h6 i hi).2.1⟩⟩,fun i hi=>(h6 i hi).2.2.2.1⟩
theorem yhs {m:List Int} {n:Nat} (hp:yao m n):Perm (yb0 m) (4*n) (InR n):=ynu hp 2
theorem ycn (s m:List Int):(yaq s m).length<=m.length:=(ykm _ _ _ _).2
theorem ykq {N:Nat} {want:Int->Bool} {orb:Int->List Int}: ∀h,∀l∈(cysN N want orb h).1,∃x:Nat,x<h/\want x=true/\l=orb x
 |0,l,hl=>by simp [cysN] at hl
 |h+1,l,hl=>by
  simp only [cysN,cys1] at hl
  split at hl
  ·obtain ⟨x,h1,h2⟩:=ykq h l hl;exact ⟨x,by omega,h2⟩
  ·rename_i hc
   rcases List.mem_append.1 hl with hl|hl
   ·obtain ⟨x,h1,h2⟩:=ykq h l hl;exact ⟨x,by omega,h2⟩
   ·refine ⟨h,by omega,?_,List.mem_singleton.1 hl⟩
    cases hw:want h with
    |true=>rfl
    |false=>rw [hw] at hc;simp at hc
theorem yf1 {s m:List Int} {n:Nat} (hp:yao m n) {l:List Int} (hl:l∈yaq s m):l.length<=4*n/\ ∀x∈l,0<=x/\x<4*n:=by
 obtain ⟨x,hx,_,rfl⟩:=ykq _ l hl
 have hm:=hp.ok.1
 have hR:InR n (x:Int):=by unfold InR;omega
 have hof:=yd0 (yhs hp) hR
 rw [←hm] at hof
 exact ⟨by have:=hof.2.2.2.2.2.1;omega,fun y hy=>by have:=hof.2.1 y hy;unfold InR at this;omega⟩
def badS (v:List Bool):List Int->Option Int×List Bool
 |[]=>(none,v)
 |h::t=>if v.getD (h/4).toNat false=false/\h % 2=0 then (some (h/4),v) else badS (v.set (h/4).toNat true) t
def ydr (v:List Bool):List (List Int)->Option Int
 |[]=>none
 |l::r=>match badS v l with
  |(some c,_)=>some c
  |(none,v')=>ydr v' r
def badO (s m:List Int):Option Int:=ydr (List.replicate s.length false) (yaq s m)
def mvM (m:List Int) (to:Int->Int):Nat->List Int
 |0=>List.replicate m.length 0
 |k+1=>(mvM m to k).set (to k).toNat (to (m.getD k 0))
theorem yjd (m:List Int) (to:Int->Int): ∀k,(mvM m to k).length=m.length
 |0=>by simp [mvM]
 |k+1=>by simp [mvM,yjd m to k]
def sgM (s:List Int) (sg:Int->Int) (k:Nat):List Int:=(List.range k).map fun (c:Nat)=>s.getD c 0*sg c
theorem yje (s:List Int) (sg:Int->Int) (k:Nat):(sgM s sg k).length=k:=by simp [sgM]
theorem y3o (s:List Int) (sg:Int->Int) (n k:Nat) (h:k<n):(sgM s sg k++List.replicate (n-k) 0).set k (s.getD k 0*sg k)=sgM s sg (k+1)++List.replicate (n-(k+1)) 0:=by
 rw [List.set_append_right _ _ (by rw [yje];omega),yje,Nat.sub_self]
 obtain ⟨d,hd⟩: ∃d,n-k=d+1:=⟨n-k-1,by omega⟩
 rw [hd,List.replicate_succ,List.set_cons_zero,show n-(k+1)=d by omega]
 simp [sgM,List.range_succ]
def exBy (s:List Int) (ch:Int->Bool) (c:Int):Int:=if ch c then (if s.getD c.toNat 0=1 then-3 else-1) else 0
def exSg (ch:Int->Bool) (c:Int):Int:=if ch c then-1 else 1
def exS (s:List Int) (ch:Int->Bool):List Int:=sgM s (exSg ch) s.length
def exM (s m:List Int) (ch:Int->Bool):List Int:=mvM m (fun h=>ya7 h (exBy s ch (h/4))) m.length
theorem ypj: ∀(l:List Int) (v:List Bool) (c:Int),(badS v l).1=some c-> ∃h∈l,c=h/4
 |[],v,c,h=>by simp [badS] at h
 |x::l,v,c,h=>by
  simp only [badS] at h
  split at h
  ·simp only [Option.some.injEq] at h;exact ⟨x,by simp,h.symm⟩
  ·obtain ⟨y,h1,h2⟩:=ypj l _ c h;exact ⟨y,by simp [h1],h2⟩
theorem ynx: ∀(ls:List (List Int)) (v:List Bool) (c:Int),ydr v ls=some c-> ∃l∈ls,∃h∈l,c=h/4
 |[],v,c,h=>by simp [ydr] at h
 |l::ls,v,c,h=>by
  simp only [ydr] at h
  split at h
  ·rename_i c' v' e
   simp only [Option.some.injEq] at h
   obtain ⟨y,h1,h2⟩:=ypj l v c (by rw [e,h])
   exact ⟨l,by simp,y,h1,h2⟩
  ·obtain ⟨l',h1,h2⟩:=ynx ls _ c h;exact ⟨l',by simp [h1],h2⟩
theorem ypk {s m:List Int} (hp:yao m s.length) {c:Int} (h:badO s m=some c):0<=c/\c<s.length:=by
 obtain ⟨l,h1,x,h2,rfl⟩:=ynx _ _ c h
 have:=(yf1 hp h1).2 x h2
 omega
def swS (s:List Int) (c:Nat):List Int:=exS s (· ==(c:Int))
def swM (s m:List Int) (c:Nat):List Int:=exM s m (· ==(c:Int))
def smS (s:List Int) (c:Nat):List Int:=woS s c s.length
def smM (s m:List Int) (c:Nat):List Int:=woM (smE m (s.getD c 0== -1) c (4*s.length)) c s.length
def smLp (s m:List Int) (c:Nat) (L:Int):Int:=L+smL m (s.getD c 0== -1) c s.length
end Go.Proofs.YtfgbnalnbdhimaaGreatDoor
set_option linter.unusedSimpArgs false
set_option linter.unusedVariables false
namespace Go.Proofs.YtfgbnalnbdhimaaGreatDoor
def fitB (v l:Int):Bool:=decide (-l<=v)&&decide (v<=l)
def yd8 (p:List (Int×Int)):Prop:= ∀t∈p,-1125899906842624<=t.2/\t.2<=1125899906842624
def mrg (f:Int->Int->Int) (p q:List (Int×Int)):List (Int×Int):=match p,q with
 |[],[]=>[]
 |(e,a)::p,[]=>(e,f a 0)::mrg f p []
 |[],(e,b)::q=>(e,f 0 b)::mrg f [] q
 |(e,a)::p,(e',b)::q=>if e<e' then (e,f a 0)::mrg f p ((e',b)::q) else if e'<e then (e',f 0 b)::mrg f ((e,a)::p) q else (e,f a b)::mrg f p q
termination_by p.length+q.length
def ycj (l:List (Int×Int)):Bool:=l.all fun t=>fitB t.2 1125899906842624
def nz (l:List (Int×Int)):List (Int×Int):=l.filter fun t=>t.2 !=0
def addF (a b:Int):Int:=a+b
def pz2 (q:List (Int×Int)) (low e c:Int):Nat->List Int->List Int
 |0,zs=>zs
 |j+1,zs=>(pz2 q low e c j zs).set (e+(q.getD j (0,0)).1-low).toNat ((pz2 q low e c j zs).getD (e+(q.getD j (0,0)).1-low).toNat 0+c*(q.getD j (0,0)).2)
def pz1 (p q:List (Int×Int)) (low:Int):Nat->List Int->List Int
 |0,zs=>zs
 |i+1,zs=>pz2 q low (p.getD i (0,0)).1 (p.getD i (0,0)).2 q.length (pz1 p q low i zs)
theorem yfh (q:List (Int×Int)) (low e c:Int): ∀j zs,(pz2 q low e c j zs).length=zs.length
 |0,zs=>rfl
 |j+1,zs=>by simp only [pz2,List.length_set];exact yfh q low e c j zs
theorem yfi (p q:List (Int×Int)) (low:Int): ∀i zs,(pz1 p q low i zs).length=zs.length
 |0,zs=>rfl
 |i+1,zs=>by simp only [pz1];rw [yfh,yfi]
def tmI:Int->List Int->List (Int×Int)
 |_,[]=>[]
 |e,c::r=>if c=0 then tmI (e+1) r else (e,c)::tmI (e+1) r
theorem ykr: ∀(e:Int) (l:List Int) (c:Int),tmI e (l++[c])=tmI e l++(if c=0 then [] else [(e+l.length,c)])
 |e,[],c=>by simp only [List.nil_append,tmI,List.length_nil];split<;>simp
 |e,x::l,c=>by
  have:=ykr (e+1) l c
  simp only [List.cons_append,tmI,this,List.length_cons]
  have h:e+1+(l.length:Int)=e+((l.length+1:Nat):Int):=by omega
  rw [h]
  split<;>split<;>simp
theorem ymw: ∀(e:Int) (l:List Int),(tmI e l).length<=l.length
 |_,[]=>Nat.le_refl _
 |e,c::r=>by
  have:=ymw (e+1) r
  simp only [tmI];split<;>simp only [List.length_cons]<;>omega
abbrev lowE (p:List (Int×Int)):Int:=(p.getD 0 (0,0)).1
abbrev yah (p:List (Int×Int)):Int:=(p.getD (p.length-1) (0,0)).1
def mulZ (p q:List (Int×Int)):List Int:=pz1 p q (lowE p+lowE q) p.length (List.replicate (yah p+yah q-(lowE p+lowE q)+1).toNat 0)
end Go.Proofs.YtfgbnalnbdhimaaGreatDoor
set_option linter.unusedSimpArgs false
set_option linter.unusedVariables false
namespace Go.Proofs.YtfgbnalnbdhimaaGreatDoor
def cfL:List (Int×Int)->Int->Int
 |[],_=>0
 |t::p,e=>(if t.1=e then t.2 else 0)+cfL p e
structure AscN (p:List (Int×Int)):Prop where
 asc:p.Pairwise fun a b=>a.1<b.1
 nz: ∀t∈p,t.2≠0
theorem yg3 (p q:List (Int×Int)) (e:Int):cfL (p++q) e=cfL p e+cfL q e:=by
 induction p with
 |nil=>simp [cfL]
 |cons t p ih=>simp only [List.cons_append,cfL,ih];omega
theorem ybz {p:List (Int×Int)} {e:Int} (h: ∀t∈p,t.1≠e):cfL p e=0:=by
 induction p with
 |nil=>rfl
 |cons t p ih=>
  simp only [cfL]
  rw [if_neg (h t (List.mem_cons_self ..)),ih fun u hu=>h u (List.mem_cons_of_mem _ hu)];rfl
theorem AscN.tail {t:Int×Int} {p:List (Int×Int)} (h:AscN (t::p)):AscN p:=⟨(List.pairwise_cons.1 h.asc).2,fun u hu=>h.nz u (List.mem_cons_of_mem _ hu)⟩
theorem AscN.head {t:Int×Int} {p:List (Int×Int)} (h:AscN (t::p)): ∀u∈p,t.1<u.1:=(List.pairwise_cons.1 h.asc).1
theorem AscN.nil:AscN []:=⟨.nil,fun _ h=>by cases h⟩
theorem yd1 {p:List (Int×Int)} (h:AscN p) {t:Int×Int} (ht:t∈p):cfL p t.1=t.2:=by
 induction p with
 |nil=>cases ht
 |cons u p ih=>
  simp only [cfL]
  rcases List.mem_cons.1 ht with rfl|ht
  ·rw [if_pos rfl,ybz fun v hv=>by have:=h.head v hv;omega];omega
  ·rw [if_neg (by have:=h.head t ht;omega),ih h.tail ht];omega
theorem yg4 {p:List (Int×Int)} {e:Int} (h:cfL p e≠0): ∃t∈p,t.1=e:=by
 induction p with
 |nil=>exact absurd rfl h
 |cons t p ih=>
  by_cases ht:t.1=e
  ·exact ⟨t,List.mem_cons_self ..,ht⟩
  ·simp only [cfL,if_neg ht,Int.zero_add] at h
   obtain ⟨u,hu,e2⟩:=ih h
   exact ⟨u,List.mem_cons_of_mem _ hu,e2⟩
theorem AscN.ext: ∀{p q:List (Int×Int)},AscN p->AscN q->(∀e,cfL p e=cfL q e)->p=q
 |[],[],_,_,_=>rfl
 |[],t::q,_,hq,h=>by
  have:=h t.1
  rw [yd1 hq (List.mem_cons_self ..)] at this
  exact absurd this.symm (hq.nz t (List.mem_cons_self ..))
 |t::p,[],hp,_,h=>by
  have:=h t.1
  rw [yd1 hp (List.mem_cons_self ..)] at this
  exact absurd this (hp.nz t (List.mem_cons_self ..))
 |t::p,u::q,hp,hq,h=>by
  have m1:cfL (t::p) t.1=t.2:=yd1 hp (List.mem_cons_self ..)
  have m2:cfL (u::q) u.1=u.2:=yd1 hq (List.mem_cons_self ..)
  have n1:=hp.nz t (List.mem_cons_self ..)
  have n2:=hq.nz u (List.mem_cons_self ..)
  have e1:t.1=u.1:=by
   obtain ⟨v,hv,ev⟩:=yg4 (p:=u::q) (e:=t.1) (by rw [←h,m1];exact n1)
   obtain ⟨w,hw,ew⟩:=yg4 (p:=t::p) (e:=u.1) (by rw [h,m2];exact n2)
   rcases List.mem_cons.1 hv with rfl|hv
   ·exact ev.symm
   ·rcases List.mem_cons.1 hw with rfl|hw
    ·exact ew
    ·have:=hq.head v hv
     have:=hp.head w hw
     omega
  have e2:t.2=u.2:=by rw [←m1,←m2,h,e1]
  have et:t=u:=Prod.ext e1 e2
  subst et
  rw [AscN.ext hp.tail hq.tail fun e=>by have:=h e;simp only [cfL] at this;omega]
theorem ymx: ∀(e:Int) (l:List Int),∀t∈tmI e l,e<=t.1/\t.1<e+l.length
 |_,[],t,ht=>by cases ht
 |e,c::r,t,ht=>by
  simp only [tmI] at ht
  have key:t∈tmI (e+1) r->e<=t.1/\t.1<e+(c::r).length:=fun h=>by
   have:=ymx (e+1) r t h
   simp only [List.length_cons];omega
  split at ht
  ·exact key ht
  ·rcases List.mem_cons.1 ht with rfl|ht
   ·simp only [List.length_cons];omega
   ·exact key ht
theorem yjf: ∀(e:Int) (l:List Int),AscN (tmI e l)
 |_,[]=> .nil
 |e,c::r=>by
  have ih:=yjf (e+1) r
  simp only [tmI]
  split
  ·exact ih
  ·rename_i h
   refine ⟨List.pairwise_cons.2 ⟨fun u hu=>by have:=ymx (e+1) r u hu;show e<u.1;omega,ih.asc⟩,fun u hu=>?_⟩
   rcases List.mem_cons.1 hu with rfl|hu
   ·exact h
   ·exact ih.nz u hu
theorem yjg: ∀(e:Int) (l:List Int) (x:Int),cfL (tmI e l) x=if e<=x then l.getD (x-e).toNat 0 else 0
 |e,[],x=>by simp [tmI,cfL]
 |e,c::r,x=>by
  have ih:=yjg (e+1) r x
  by_cases hx:e=x
  ·subst hx
   rw [if_neg (by omega)] at ih
   simp only [tmI]
   split
   ·rename_i h;rw [ih,if_pos (Int.le_refl _)];simp [h]
   ·simp only [cfL,ih];simp
  ·have k:cfL (tmI e (c::r)) x=cfL (tmI (e+1) r) x:=by
    simp only [tmI]
    split
    ·rfl
    ·simp only [cfL];rw [if_neg hx];omega
   rw [k,ih]
   by_cases hl:e+1<=x
   ·rw [if_pos hl,if_pos (by omega)]
    obtain ⟨d,hd⟩: ∃d:Nat,x=e+1+d:=⟨(x-e-1).toNat,by omega⟩
    rw [hd,show (e+1+(d:Int)-e).toNat=d+1 by omega,show (e+1+(d:Int)-(e+1)).toNat=d by omega,List.getD_cons_succ]
   ·rw [if_neg hl,if_neg (by omega)]
theorem ypl (l:List (Int×Int)) (e:Int):cfL (nz l) e=cfL l e:=by
 induction l with
 |nil=>rfl
 |cons t l ih=>
  unfold nz at ih⊢
  by_cases h:t.2=0
  ·rw [List.filter_cons_of_neg (by simp [h]),ih];simp only [cfL,h];split<;>omega
  ·rw [List.filter_cons_of_pos (by simp [h])];simp only [cfL,ih]
theorem yg5 (f:Int->Int->Int) (x:Int): ∀p q:List (Int×Int),(∀t∈p,x<t.1)->(∀t∈q,x<t.1)-> ∀t∈mrg f p q,x<t.1:=by
 intro p q
 induction p,q using mrg.induct with
 |case1=>intro _ _ t ht;simp [mrg] at ht
 |case2 e a p ih=>
  intro hp hq t ht
  unfold mrg at ht
  rcases List.mem_cons.1 ht with rfl|ht
  ·exact hp (e,a) (List.mem_cons_self ..)
  ·exact ih (fun u hu=>hp u (List.mem_cons_of_mem _ hu)) hq t ht
 |case3 e b q ih=>
  intro hp hq t ht
  unfold mrg at ht
  rcases List.mem_cons.1 ht with rfl|ht
  ·exact hq (e,b) (List.mem_cons_self ..)
  ·exact ih hp (fun u hu=>hq u (List.mem_cons_of_mem _ hu)) t ht
 |case4 e a p e' b q h ih=>
  intro hp hq t ht
  unfold mrg at ht
  rw [if_pos h] at ht
  rcases List.mem_cons.1 ht with rfl|ht
  ·exact hp (e,a) (List.mem_cons_self ..)
  ·exact ih (fun u hu=>hp u (List.mem_cons_of_mem _ hu)) hq t ht
 |case5 e a p e' b q h h2 ih=>
  intro hp hq t ht
  unfold mrg at ht
  rw [if_neg h,if_pos h2] at ht
  rcases List.mem_cons.1 ht with rfl|ht
  ·exact hq (e',b) (List.mem_cons_self ..)
  ·exact ih hp (fun u hu=>hq u (List.mem_cons_of_mem _ hu)) t ht
 |case6 e a p e' b q h h2 ih=>
  intro hp hq t ht
  unfold mrg at ht
  rw [if_neg h,if_neg h2] at ht
  rcases List.mem_cons.1 ht with rfl|ht
  ·exact hp (e,a) (List.mem_cons_self ..)
  ·exact ih (fun u hu=>hp u (List.mem_cons_of_mem _ hu)) (fun u hu=>hq u (List.mem_cons_of_mem _ hu)) t ht
theorem ymy (f:Int->Int->Int): ∀p q:List (Int×Int),p.Pairwise (fun a b=>a.1<b.1)->q.Pairwise (fun a b=>a.1<b.1)->(mrg f p q).Pairwise fun a b=>a.1<b.1:=by
 intro p q
 induction p,q using mrg.induct with
 |case1=>intro _ _;simp [mrg]
 |case2 e a p ih=>
  intro hp hq
  unfold mrg
  have h1:=List.pairwise_cons.1 hp
  exact List.pairwise_cons.2 ⟨yg5 f e p [] h1.1 (fun _ h=>by cases h),ih h1.2 hq⟩
 |case3 e b q ih=>
  intro hp hq
  unfold mrg
  have h1:=List.pairwise_cons.1 hq
  exact List.pairwise_cons.2 ⟨yg5 f e [] q (fun _ h=>by cases h) h1.1,ih hp h1.2⟩
 |case4 e a p e' b q h ih=>
  intro hp hq
  unfold mrg
  rw [if_pos h]
  have h1:=List.pairwise_cons.1 hp
  have h2:=List.pairwise_cons.1 hq
  refine List.pairwise_cons.2 ⟨yg5 f e p _ h1.1 (fun t ht=>?_),ih h1.2 hq⟩
  rcases List.mem_cons.1 ht with rfl|ht
  ·exact h
  ·have:=h2.1 t ht;show e<t.1;simp only at this;omega
 |case5 e a p e' b q h h2 ih=>
  intro hp hq
  unfold mrg
  rw [if_neg h,if_pos h2]
  have h3:=List.pairwise_cons.1 hp
  have h4:=List.pairwise_cons.1 hq
  refine List.pairwise_cons.2 ⟨yg5 f e' _ q (fun t ht=>?_) h4.1,ih hp h4.2⟩
  rcases List.mem_cons.1 ht with rfl|ht
  ·exact h2
  ·have:=h3.1 t ht;show e'<t.1;simp only at this;omega
 |case6 e a p e' b q h h2 ih=>
  intro hp hq
  unfold mrg
  rw [if_neg h,if_neg h2]
  have h3:=List.pairwise_cons.1 hp
  have h4:=List.pairwise_cons.1 hq
  refine List.pairwise_cons.2 ⟨yg5 f e p q h3.1 (fun t ht=>?_),ih h3.2 h4.2⟩
  have:=h4.1 t ht;show e<t.1;simp only at this;omega
theorem ymz (f:Int->Int->Int) (h0:f 0 0=0): ∀p q:List (Int×Int),p.Pairwise (fun a b=>a.1<b.1)->q.Pairwise (fun a b=>a.1<b.1)-> ∀x,cfL (mrg f p q) x=f (cfL p x) (cfL q x):=by
 intro p q
 induction p,q using mrg.induct with
 |case1=>intro _ _ x;simp [mrg,cfL,h0]
 |case2 e a p ih=>
  intro hp hq x
  have h1:=List.pairwise_cons.1 hp
  conv=>lhs;unfold mrg
  simp only [cfL]
  rw [ih h1.2 hq]
  by_cases hx:e=x
  ·have n1:cfL p x=0:=ybz fun t ht=>by have:=h1.1 t ht;simp only at this;omega
   rw [if_pos hx,if_pos hx,n1];simp [cfL,h0]
  ·rw [if_neg hx,if_neg hx];simp [cfL]
 |case3 e b q ih=>
  intro hp hq x
  have h1:=List.pairwise_cons.1 hq
  conv=>lhs;unfold mrg
  simp only [cfL]
  rw [ih hp h1.2]
  by_cases hx:e=x
  ·have n1:cfL q x=0:=ybz fun t ht=>by have:=h1.1 t ht;simp only at this;omega
   rw [if_pos hx,if_pos hx,n1];simp [cfL,h0]
  ·rw [if_neg hx,if_neg hx];simp [cfL]
 |case4 e a p e' b q h ih=>
  intro hp hq x
  have h1:=List.pairwise_cons.1 hp
  have h2:=List.pairwise_cons.1 hq
  conv=>lhs;unfold mrg
  rw [if_pos h]
  simp only [cfL]
  rw [ih h1.2 hq]
  simp only [cfL]
  by_cases hx:e=x
  ·have n1:cfL p x=0:=ybz fun t ht=>by have:=h1.1 t ht;simp only at this;omega
   have n2:cfL q x=0:=ybz fun t ht=>by have:=h2.1 t ht;simp only at this;omega
   rw [if_pos hx,if_pos hx,n1,n2,if_neg (by omega)];simp [h0]
  ·rw [if_neg hx,if_neg hx];simp
 |case5 e a p e' b q h h2 ih=>
  intro hp hq x
  have h3:=List.pairwise_cons.1 hp
  have h4:=List.pairwise_cons.1 hq
  conv=>lhs;unfold mrg
  rw [if_neg h,if_pos h2]
  simp only [cfL]
  rw [ih hp h4.2]
  simp only [cfL]
  by_cases hx:e'=x
  ·have n1:cfL p x=0:=ybz fun t ht=>by have:=h3.1 t ht;simp only at this;omega
   have n2:cfL q x=0:=ybz fun t ht=>by have:=h4.1 t ht;simp only at this;omega
   rw [if_pos hx,if_pos hx,n1,n2,if_neg (by omega)];simp [h0]
  ·rw [if_neg hx,if_neg hx];simp
 |case6 e a p e' b q h h2 ih=>
  intro hp hq x
  have h3:=List.pairwise_cons.1 hp
  have h4:=List.pairwise_cons.1 hq
  conv=>lhs;unfold mrg
  rw [if_neg h,if_neg h2]
  simp only [cfL]
  rw [ih h3.2 h4.2]
  have ee:e'=e:=by omega
  by_cases hx:e=x
  ·have n1:cfL p x=0:=ybz fun t ht=>by have:=h3.1 t ht;simp only at this;omega
   have n2:cfL q x=0:=ybz fun t ht=>by have:=h4.1 t ht;simp only at this;omega
   rw [if_pos hx,if_pos hx,n1,n2,if_pos (by omega)];simp [h0]
  ·rw [if_neg hx,if_neg hx,if_neg (by omega)];simp
theorem ypm {l:List (Int×Int)} (h:l.Pairwise fun a b=>a.1<b.1):AscN (nz l):=by
 refine ⟨List.Pairwise.filter _ h,fun t ht=>?_⟩
 have:=(List.mem_filter.1 ht).2
 simpa using this
def cvL (p:List (Int×Int)) (g:Int->Int) (e:Int):Int:=match p with
 |[]=>0
 |t::p=>t.2*g (e-t.1)+cvL p g e
theorem yw2 (l:List Int) (i j:Nat) (v:Int) (hi:i<l.length):(l.set i v).getD j 0=if i=j then v else l.getD j 0:=by
 by_cases h:i=j
 ·subst h;simp [hi]
 ·rw [if_neg h];simp [List.getD_eq_getElem?_getD,List.getElem?_set_ne h]
theorem y0i (p:List (Int×Int)) (t:Int×Int) (e:Int):cfL (p++[t]) e=cfL p e+if t.1=e then t.2 else 0:=by
 rw [yg3];simp [cfL]
theorem yls {α:Type} {l:List α} {k:Nat} (d:α) (h:k<l.length):l.take (k+1)=l.take k++[l.getD k d]:=by
 rw [List.take_succ_eq_append_getElem h];simp [h]
theorem ysi (q:List (Int×Int)) (low e c:Int) (zs:List Int) (hr: ∀j,j<q.length->low<=e+(q.getD j (0,0)).1/\e+(q.getD j (0,0)).1<low+zs.length):
  ∀j,j<=q.length-> ∀x:Nat,x<zs.length->(pz2 q low e c j zs).getD x 0=zs.getD x 0+c*cfL (q.take j) (low+x-e)
 |0,_,x,_=>by simp [pz2,cfL]
 |j+1,hj,x,hx=>by
  have ih:=ysi q low e c zs hr j (by omega)
  have h1:=hr j (by omega)
  have hl:=yfh q low e c j zs
  rw [yls (0,0) (by omega),y0i]
  simp only [pz2]
  rw [yw2 _ _ _ _ (by omega)]
  by_cases h:(e+(q.getD j (0,0)).1-low).toNat=x
  ·rw [if_pos h,h,ih x hx,if_pos (by omega),Int.mul_add];omega
  ·rw [if_neg h,ih x hx,if_neg (by omega),Int.add_zero]
theorem y0j (p:List (Int×Int)) (t:Int×Int) (g:Int->Int) (e:Int):cvL (p++[t]) g e=cvL p g e+t.2*g (e-t.1):=by
 induction p with
 |nil=>simp [cvL]
 |cons u p ih=>simp only [List.cons_append,cvL,ih];omega
theorem ysj (p q:List (Int×Int)) (low:Int) (zs:List Int) (hr: ∀i j,i<p.length->j<q.length->low<=(p.getD i (0,0)).1+(q.getD j (0,0)).1/\(p.getD i (0,0)).1+(q.getD j (0,0)).1<low+zs.length):
  ∀i,i<=p.length-> ∀x:Nat,x<zs.length->(pz1 p q low i zs).getD x 0=zs.getD x 0+cvL (p.take i) (cfL q) (low+x)
 |0,_,x,_=>by simp [pz1,cvL]
 |i+1,hi,x,hx=>by
  have ih:=ysj p q low zs hr i (by omega)
  have hl:=yfi p q low i zs
  simp only [pz1]
  rw [ysi q low _ _ _ (fun j hj=>by have:=hr i j (by omega) hj;rw [hl];exact this) q.length (Nat.le_refl _) x (by omega),ih x hx,yls (0,0) (by omega),y0j,List.take_length]
  omega
theorem y0k {p:List (Int×Int)} {g:Int->Int} {e:Int} (h: ∀t∈p,g (e-t.1)=0):cvL p g e=0:=by
 induction p with
 |nil=>rfl
 |cons t p ih=>simp only [cvL,h t (List.mem_cons_self ..),ih fun u hu=>h u (List.mem_cons_of_mem _ hu)];simp
theorem ydh {p:List (Int×Int)} (h:AscN p) {t:Int×Int} (ht:t∈p):lowE p<=t.1/\t.1<=yah p:=by
 obtain ⟨i,hi,rfl⟩:=List.mem_iff_getElem.1 ht
 have P:=List.pairwise_iff_getElem.1 h.asc
 unfold lowE yah
 simp only [List.getD_eq_getElem?_getD,List.getElem?_eq_getElem (show 0<p.length by omega),List.getElem?_eq_getElem (show p.length-1<p.length by omega),Option.getD_some]
 constructor
 ·by_cases h0:i=0
  ·subst h0;exact Int.le_refl _
  ·have:=P 0 i (by omega) hi (by omega);omega
 ·by_cases h0:i=p.length-1
  ·subst h0;exact Int.le_refl _
  ·have:=P i (p.length-1) hi (by omega) (by omega);omega
theorem ya6 {p:List (Int×Int)} {i:Nat} (hi:i<p.length):p.getD i (0,0)∈p:=by
 simp [List.getD_eq_getElem?_getD,List.getElem?_eq_getElem hi]
theorem y3p {p q:List (Int×Int)} (hp:AscN p) (hq:AscN q) (e:Int):cfL (tmI (lowE p+lowE q) (mulZ p q)) e=cvL p (cfL q) e:=by
 rw [yjg]
 unfold mulZ
 obtain ⟨N,hN⟩: ∃N:Nat,(yah p+yah q-(lowE p+lowE q)+1).toNat=N:=⟨_,rfl⟩
 rw [hN]
 have out: ∀e,(∀t∈p,∀u∈q,t.1+u.1≠e)->cvL p (cfL q) e=0:=fun e h=>y0k fun t ht=>ybz fun u hu=>by have:=h t ht u hu;omega
 by_cases h1:lowE p+lowE q<=e
 ·rw [if_pos h1]
  obtain ⟨x,hx⟩: ∃x:Nat,e=lowE p+lowE q+x:=⟨(e-(lowE p+lowE q)).toNat,by omega⟩
  rw [hx,show (lowE p+lowE q+(x:Int)-(lowE p+lowE q)).toNat=x by omega]
  have hl:=yfi p q (lowE p+lowE q) p.length (List.replicate N 0)
  rw [List.length_replicate] at hl
  by_cases h2:x<N
  ·rw [ysj p q _ _ (fun i j hi hj=>?_) p.length (Nat.le_refl _) x (by simpa using h2),List.take_length]
   ·simp [List.getD_eq_getElem?_getD,h2]
   ·have a:=ydh hp (ya6 hi)
    have b:=ydh hq (ya6 hj)
    rw [List.length_replicate];omega
  ·rw [List.getD_eq_getElem?_getD,List.getElem?_eq_none (by omega)]
   exact (out _ fun t ht u hu=>by have a:=ydh hp ht;have b:=ydh hq hu;omega).symm
 ·rw [if_neg h1]
  exact (out _ fun t ht u hu=>by have a:=ydh hp ht;have b:=ydh hq hu;omega).symm
end Go.Proofs.YtfgbnalnbdhimaaGreatDoor
namespace Go.Proofs.YtfgbnalnbdhimaaGreatDoor
set_option linter.unusedSimpArgs false
set_option linter.unusedVariables false
section
variable {K:Nat} {c:Nat->Nat} {w:Nat->Int}
end
theorem AscN.len {p:List (Int×Int)} (h:AscN p): ∀{a b:Int},(∀t∈p,a<=t.1/\t.1<=b)->(p.length:Int)<=max 0 (b-a+1):=by
 induction p with
 |nil=>intro a b _;simp;omega
 |cons t p ih=>
  intro a b hb
  have h1:=hb t (List.mem_cons_self ..)
  have:=ih h.tail (a:=t.1+1) (b:=b) fun u hu=>by
   have h2:=h.head u hu
   have h3:=hb u (List.mem_cons_of_mem _ hu)
   omega
  simp only [List.length_cons]
  omega
end Go.Proofs.YtfgbnalnbdhimaaGreatDoor
set_option linter.unusedSimpArgs false
set_option linter.unusedVariables false
namespace Go.Proofs.YtfgbnalnbdhimaaGreatDoor
theorem ypn {v l:Int} (h0: -l<=v) (h1:v<=l):fitB v l=true:=by unfold fitB;simp;omega
def trm (c e:Int):List (Int×Int):=if c=0 then [] else [(e,c)]
structure yag (p:List (Int×Int)) (f:Int->Int):Prop where
 asc:AscN p
 cf: ∀e,cfL p e=f e
theorem yag.congr {p:List (Int×Int)} {f g:Int->Int} (h:yag p f) (e: ∀x,f x=g x):yag p g:=⟨h.asc,fun x=>(h.cf x).trans (e x)⟩
theorem yag.mem {p:List (Int×Int)} {f:Int->Int} (h:yag p f) {t:Int×Int} (ht:t∈p):t.2=f t.1/\f t.1≠0:=by
 have:=yd1 h.asc ht
 rw [h.cf] at this
 exact ⟨this.symm,by rw [this];exact h.asc.nz t ht⟩
theorem yag.len {p:List (Int×Int)} {f:Int->Int} (h:yag p f) (hs: ∀e,f e≠0-> -1000<=e/\e<=1000):p.length<=2001:=by
 have:=h.asc.len (a:= -1000) (b:=1000) fun t ht=>hs _ (h.mem ht).2
 omega
theorem yag.fits {p:List (Int×Int)} {f:Int->Int} (h:yag p f) (hb: ∀e,-1125899906842624<=f e/\f e<=1125899906842624):yd8 p:=fun t ht=>by
 rw [(h.mem ht).1];exact hb _
theorem ypo {p:List (Int×Int)} (h:p.Pairwise fun a b=>a.1<b.1) {t:Int×Int} (ht:t∈p):cfL p t.1=t.2:=by
 induction p with
 |nil=>cases ht
 |cons u p ih=>
  have h1:=List.pairwise_cons.1 h
  simp only [cfL]
  rcases List.mem_cons.1 ht with rfl|ht
  ·rw [if_pos rfl,ybz fun v hv=>by have:=h1.1 v hv;omega];omega
  ·rw [if_neg (by have:=h1.1 t ht;omega),ih h1.2 ht];omega
end Go.Proofs.YtfgbnalnbdhimaaGreatDoor
namespace Go.Proofs.YtfgbnalnbdhimaaGreatDoor
set_option linter.unusedSimpArgs false
set_option linter.unusedVariables false
def addO (p q:List (Int×Int)):Option (List (Int×Int)):=if ycj (mrg addF p q) then some (nz (mrg addF p q)) else none
def sgW (z:Int):Int:=(z+170141183460469231731687303715884105728)% 340282366920938463463374607431768211456-170141183460469231731687303715884105728
def mulO (p q:List (Int×Int)):Option (List (Int×Int)):=if (mulZ p q).all (fun z=>fitB (sgW z) 1125899906842624) then some (tmI (lowE p+lowE q) ((mulZ p q).map sgW)) else none
structure OkT (N:Int) (p:List (Int×Int)):Prop where
 asc:AscN p
 fit:yd8 p
 exp: ∀t∈p,-N<=t.1/\t.1<=N
theorem ybx {v l:Int}:fitB v l=true↔ -l<=v/\v<=l:=by unfold fitB;simp
theorem OkT.nil {N:Int}:OkT N []:=⟨AscN.nil,fun _ h=>(nomatch h),fun _ h=>(nomatch h)⟩
theorem OkT.mono {N M:Int} {p:List (Int×Int)} (h:OkT N p) (hM:N<=M):OkT M p:=⟨h.asc,h.fit,fun t ht=>by have:=h.exp t ht;omega⟩
theorem OkT.one {N e c:Int} (h0:c≠0) (hc: -1125899906842624<=c/\c<=1125899906842624) (he: -N<=e/\e<=N):OkT N [(e,c)]:=
 ⟨⟨by simp,fun t ht=>by rw [List.mem_singleton.1 ht];exact h0⟩,fun t ht=>by rw [List.mem_singleton.1 ht];exact hc,fun t ht=>by rw [List.mem_singleton.1 ht];exact he⟩
theorem OkT.sup {N:Int} {p:List (Int×Int)} (h:OkT N p) {e:Int} (he:cfL p e≠0): -N<=e/\e<=N:=by
 obtain ⟨t,ht,rfl⟩:=yg4 he
 exact h.exp t ht
theorem OkT.len {N:Int} {p:List (Int×Int)} (h:OkT N p) (hN:N<=1000):p.length<=2001:=
 yag.len (f:=cfL p) ⟨h.asc,fun _=>rfl⟩ fun e he=>by have:=h.sup he;omega
theorem y5s {t:Int×Int} {l:List (Int×Int)} (h:t∈nz l):t∈l:=(List.mem_filter.1 h).1
theorem y3q {N:Int} {p q r:List (Int×Int)} (hp:OkT N p) (hq:OkT N q) (h:addO p q=some r):OkT N r:=by
 unfold addO at h
 split at h
 case isFalse=>cases h
 rename_i hc
 cases h
 have ha:=ypm (ymy addF p q hp.asc.asc hq.asc.asc)
 refine ⟨ha,fun t ht=>ybx.1 (List.all_eq_true.1 hc t (y5s ht)),fun t ht=>?_⟩
 have h1:=yd1 ha ht
 have h2:=ha.nz t ht
 rw [ypl,ymz addF rfl p q hp.asc.asc hq.asc.asc,addF] at h1
 by_cases h3:cfL p t.1=0
 ·exact hq.sup (by omega)
 ·exact hp.sup h3
theorem yd2 {N:Int} {p:List (Int×Int)} (h:OkT N p) (h0:0<p.length):(-N<=lowE p/\lowE p<=N)/\(-N<=yah p/\yah p<=N)/\lowE p<=yah p:=by
 have h1:=h.exp _ (ya6 h0)
 have h2:=h.exp _ (ya6 (p:=p) (i:=p.length-1) (by omega))
 have h3:=ydh h.asc (ya6 h0)
 exact ⟨h1,h2,h3.2⟩
theorem ym0: ∀(e:Int) (l:List Int),∀t∈tmI e l,t.2∈l
 |_,[],t,ht=>by cases ht
 |e,c::r,t,ht=>by
  simp only [tmI] at ht
  split at ht
  ·exact List.mem_cons_of_mem _ (ym0 _ _ t ht)
  ·rcases List.mem_cons.1 ht with rfl|ht
   ·exact List.mem_cons_self ..
   ·exact List.mem_cons_of_mem _ (ym0 _ _ t ht)
theorem y0l (p q:List (Int×Int)):(mulZ p q).length=(yah p+yah q-(lowE p+lowE q)+1).toNat:=by unfold mulZ;rw [yfi,List.length_replicate]
theorem ym1 {N M:Int} {p q r:List (Int×Int)} (hp:OkT N p) (hq:OkT M q) (hp0:0<p.length) (hq0:0<q.length) (h:mulO p q=some r):OkT (N+M) r:=by
 unfold mulO at h
 split at h
 case isFalse=>cases h
 rename_i hc
 cases h
 have a1:=yd2 hp hp0
 have a2:=yd2 hq hq0
 refine ⟨yjf _ _,fun t ht=>?_,fun t ht=>?_⟩
 ·obtain ⟨z,hz,e⟩:=List.mem_map.1 (ym0 _ _ t ht)
  rw [←e];exact ybx.1 (List.all_eq_true.1 hc z hz)
 have:=ymx _ _ t ht
 rw [List.length_map,y0l] at this
 omega
def pzR:Nat->List Int
 |0=>[1]
 |n+1=>List.zipWith (fun a b=>a-b) (pzR n++[0]) (0::pzR n)
def pwZ (n:Nat):List (Int×Int):=(List.range (n+1)).map fun (i:Nat)=>(4*(i:Int)-2*(n:Int),(pzR n).getD i 0)
abbrev pwZ1:List (Int×Int):=[(-2,1),(2,-1)]
def rs0 (low:Int) (T:List (Int×Int)):Nat->List Int->List Int
 |0,zs=>zs
 |i+1,zs=>(rs0 low T i zs).set ((T.getD i (0,0)).1-low).toNat (T.getD i (0,0)).2
theorem ysk (low:Int) (T:List (Int×Int)): ∀i zs,(rs0 low T i zs).length=zs.length
 |0,_=>rfl
 |i+1,zs=>by simp only [rs0];rw [List.length_set,ysk]
def dvS (q:List (Int×Int)) (low lq:Int) (zs:List Int):Nat->Option (List Int×List (Int×Int))
 |0=>some (zs,[])
 |i+1=>match dvS q low lq zs i with
  |none=>none
  |some (R,r)=>if sgW (R.getD i 0)=0 then some (R,r) else if fitB (sgW (R.getD i 0)) 1125899906842624 then some (pz2 q lq i (-sgW (R.getD i 0)) q.length R,r++[(low-lq+i,sgW (R.getD i 0))]) else none
theorem ym2 {q:List (Int×Int)} {low lq:Int} {zs:List Int}: ∀{i:Nat} {R:List Int} {r:List (Int×Int)},dvS q low lq zs i=some (R,r)->R.length=zs.length/\r.length<=i
 |0,R,r,h=>by cases h;exact ⟨rfl,Nat.le_refl _⟩
 |i+1,R,r,h=>by
  simp only [dvS] at h
  split at h
  ·cases h
  ·rename_i R' r' hd
   obtain ⟨h1,h2⟩:=ym2 hd
   split at h
   ·cases h;exact ⟨h1,by omega⟩
   ·split at h
    ·cases h
     exact ⟨by rw [yfh,h1],by rw [List.length_append];simp only [List.length_cons,List.length_nil];omega⟩
    ·cases h
def dvE (q:List (Int×Int)) (low lq:Int) (zs:List Int) (n:Nat):List (Int×Int)×Int:=match dvS q low lq zs n with
 |none=>([],10)
 |some (R,r)=>if (R.drop n).all (fun z=>sgW z==0) then (r,0) else ([],10)
def divO (T q:List (Int×Int)):List (Int×Int)×Int:=
 if T.length=0 then ([],0) else
 if yah T-lowE T-(yah q-lowE q)<0 then ([],10) else
 dvE q (lowE T) (lowE q) (rs0 (lowE T) T T.length (List.replicate (yah T-lowE T+1).toNat 0)) (yah T-lowE T-(yah q-lowE q)+1).toNat
theorem y3r (q:List (Int×Int)) (low lq:Int) (zs:List Int) (n:Nat):(dvE q low lq zs n).1.length<=n:=by
 unfold dvE
 split
 ·exact Nat.zero_le _
 ·rename_i R r h
  split
  ·exact (ym2 h).2
  ·exact Nat.zero_le _
theorem y0m {T q:List (Int×Int)} (hT:OkT 500 T) (hq:OkT 500 q) (hq0:0<q.length):(divO T q).1.length<=1001:=by
 unfold divO
 split
 ·exact Nat.zero_le _
 ·split
  ·exact Nat.zero_le _
  ·have a1:=yd2 hT (by omega)
   have a2:=yd2 hq hq0
   have:=y3r q (lowE T) (lowE q) (rs0 (lowE T) T T.length (List.replicate (yah T-lowE T+1).toNat 0)) (yah T-lowE T-(yah q-lowE q)+1).toNat
   omega
def pzB (n:Nat):Bool:=decide ((pwZ n).Pairwise fun a b=>a.1<b.1)&&((pwZ n).all fun t=>decide (t.2≠0)&&fitB t.2 1125899906842624&&fitB t.1 80)&&decide ((pwZ n).length=n+1)&&decide ((pwZ n).getD 0 (0,0)=(-2*(n:Int),1))&&decide (yah (pwZ n)=2*n)
theorem y3s: ∀n,n<41->pzB n=true:=by decide+kernel
theorem ysl: ∀n,n<40->mulO (pwZ n) pwZ1=some (pwZ (n+1)):=by decide+kernel
theorem ydo {n:Nat} (hn:n<=40):OkT 80 (pwZ n)/\(pwZ n).length=n+1/\(pwZ n).getD 0 (0,0)=(-2*(n:Int),1)/\yah (pwZ n)=2*n:=by
 have h:=y3s n (by omega)
 unfold pzB at h
 simp only [Bool.and_eq_true,decide_eq_true_eq] at h
 obtain ⟨⟨⟨⟨h1,h2⟩,h3⟩,h4⟩,h5⟩:=h
 have h6:=fun t ht=>by
  have:=List.all_eq_true.1 h2 t ht
  simp only [Bool.and_eq_true,decide_eq_true_eq] at this
  exact this
 exact ⟨⟨⟨h1,fun t ht=>(h6 t ht).1.1⟩,fun t ht=>ybx.1 (h6 t ht).1.2,fun t ht=>ybx.1 (h6 t ht).2⟩,h3,h4,h5⟩
theorem yny {p q r:List (Int×Int)} (hp:AscN p) (hq:AscN q) (h:addO p q=some r):yag r (fun e=>cfL p e+cfL q e)/\ ∀e,fitB (cfL p e+cfL q e) 1125899906842624=true:=by
 unfold addO at h
 split at h
 case isFalse=>cases h
 rename_i hc
 cases h
 have ha:=ymy addF p q hp.asc hq.asc
 have hm: ∀e,cfL (mrg addF p q) e=cfL p e+cfL q e:=fun e=>by rw [ymz addF rfl p q hp.asc hq.asc];rfl
 refine ⟨⟨ypm ha,fun e=>by rw [ypl,hm]⟩,fun e=>?_⟩
 rw [←hm]
 by_cases h0:cfL (mrg addF p q) e=0
 ·rw [h0];rfl
 ·obtain ⟨t,ht,rfl⟩:=yg4 h0
  rw [ypo ha ht]
  exact List.all_eq_true.1 hc t ht
theorem yw3 {p q:List (Int×Int)} (hp:AscN p) (hq:AscN q) (h:addO p q=none): ∃e,fitB (cfL p e+cfL q e) 1125899906842624=false:=by
 unfold addO at h
 split at h
 case isTrue=>cases h
 rename_i hc
 have hc':ycj (mrg addF p q)=false:=by simpa using hc
 unfold ycj at hc'
 rw [List.all_eq_false] at hc'
 obtain ⟨t,ht,hf⟩:=hc'
 have ha:=ymy addF p q hp.asc hq.asc
 have:=ypo ha ht
 rw [ymz addF rfl p q hp.asc hq.asc] at this
 exact ⟨t.1,by rw [show cfL p t.1+cfL q t.1=t.2 from this];simpa using hf⟩
end Go.Proofs.YtfgbnalnbdhimaaGreatDoor
namespace Go.Proofs.YtfgbnalnbdhimaaGreatDoor
set_option linter.unusedSimpArgs false
set_option linter.unusedVariables false
def bvE (a z:Int):Int:=a*16777216+z
def bvZ (e:Int):Int:=(e+8388608)% 16777216-8388608
def bvA (e:Int):Int:=(e-bvZ e)/16777216
theorem yc2 {a z:Int} (h: -8388608<=z/\z<8388608):bvZ (bvE a z)=z:=by unfold bvZ bvE;omega
theorem yet {a z:Int} (h: -8388608<=z/\z<8388608):bvA (bvE a z)=a:=by unfold bvA;rw [yc2 h];unfold bvE;omega
theorem yb9 (e:Int):bvE (bvA e) (bvZ e)=e:=by unfold bvA bvE bvZ;omega
theorem ym3 (e:Int): -8388608<=bvZ e/\bvZ e<8388608:=by unfold bvZ;omega
theorem y5t {a z a' z':Int} (h: -8388608<=z/\z<8388608) (h': -8388608<=z'/\z'<8388608):bvE a z<bvE a' z'↔a<a'\/a=a'/\z<z':=by unfold bvE;omega
theorem y1p (e e':Int):e<e'↔bvA e<bvA e'\/bvA e=bvA e'/\bvZ e<bvZ e':=by
 have:=y5t (ym3 e) (ym3 e') (a:=bvA e) (a':=bvA e')
 rwa [yb9,yb9] at this
theorem ym4 (a z a' z':Int):bvE a z+bvE a' z'=bvE (a+a') (z+z'):=by unfold bvE;omega
def bvOk (e:Int):Prop:=(-1048576<=bvA e/\bvA e<=1048576)/\ -1048576<=bvZ e/\bvZ e<=1048576
theorem ysm {e e':Int} (h:bvOk e) (h':bvOk e'):bvA (e+e')=bvA e+bvA e'/\bvZ (e+e')=bvZ e+bvZ e':=by
 have h1:=ym4 (bvA e) (bvZ e) (bvA e') (bvZ e')
 rw [yb9,yb9] at h1
 unfold bvOk at h h'
 rw [h1,yet (by omega),yc2 (by omega)]
 exact ⟨rfl,rfl⟩
end Go.Proofs.YtfgbnalnbdhimaaGreatDoor
namespace Go.Proofs.YtfgbnalnbdhimaaGreatDoor
set_option linter.unusedSimpArgs false
set_option linter.unusedVariables false
abbrev SumM:=List (Int×Int×Int)
def suV (q:Int×Int):Int:=q.1*33554432+q.2
def mPut:SumM->Int->Int->SumM
 |[],e,v=>[(e,v/33554432,v % 33554432)]
 |q::m,e,v=>if q.1=e then (e,q.2.1+v/33554432,q.2.2+v % 33554432)::m else q::mPut m e v
def yds:SumM->Int->Option (Int×Int)
 |[],_=>none
 |q::m,e=>if q.1=e then some q.2 else yds m e
def mVal (m:SumM) (e:Int):Int:=match yds m e with
 |some q=>suV q
 |none=>0
theorem ygp {e:Int} {v:Int×Int}: ∀{m:SumM},yds m e=some v->(e,v)∈m
 |[],h=>by cases h
 |q::m,h=>by
  simp only [yds] at h
  split at h
  ·rename_i hq
   cases h
   obtain ⟨q1,q2⟩:=q
   dsimp only at hq
   subst hq
   exact List.mem_cons_self ..
  ·exact List.mem_cons_of_mem _ (ygp h)
theorem yht (e:Int):mVal [] e=0:=rfl
theorem yc6 (q:Int×Int×Int) (m:SumM) (e:Int):mVal (q::m) e=if q.1=e then suV q.2 else mVal m e:=by
 unfold mVal
 simp only [yds]
 by_cases h:q.1=e
 ·rw [if_pos h,if_pos h]
 ·rw [if_neg h,if_neg h]
theorem ypp (e v x:Int): ∀m:SumM,mVal (mPut m e v) x=mVal m x+if x=e then v else 0
 |[]=>by
  simp only [mPut,yc6,yht]
  by_cases h:x=e
  ·rw [if_pos h.symm,if_pos h];simp only [suV];omega
  ·rw [if_neg (fun h'=>h h'.symm),if_neg h];rfl
 |q::m=>by
  simp only [mPut]
  by_cases hq:q.1=e
  ·rw [if_pos hq,yc6,yc6]
   by_cases h:x=e
   ·rw [if_pos h.symm,if_pos (by omega),if_pos h];simp only [suV];omega
   ·rw [if_neg (fun h'=>h h'.symm),if_neg (by omega),if_neg h];omega
  ·rw [if_neg hq,yc6,yc6,ypp e v x m]
   by_cases h:q.1=x
   ·rw [if_pos h,if_pos h,if_neg (by omega)];omega
   ·rw [if_neg h,if_neg h]
theorem ysn {u:Int×Int×Int}: ∀{m:SumM},(m.map (·.1)).Nodup->u∈m->mVal m u.1=suV u.2
 |[],_,h=>by cases h
 |q::m,hn,h=>by
  rw [List.map_cons] at hn
  have hn':=List.nodup_cons.1 hn
  rw [yc6]
  rcases List.mem_cons.1 h with rfl|h
  ·rw [if_pos rfl]
  ·rw [if_neg,ysn hn'.2 h]
   intro e
   exact hn'.1 (by have:=List.mem_map_of_mem (f:=(·.1)) h;rw [←e] at this;exact this)
theorem yks {q:Int×Int×Int} {e v:Int}: ∀{m:SumM},q∈mPut m e v->q∈m\/q.1=e
 |[],h=>by simp only [mPut,List.mem_singleton] at h;exact .inr (by rw [h])
 |u::m,h=>by
  simp only [mPut] at h
  split at h
  ·rcases List.mem_cons.1 h with rfl|h
   ·exact .inr rfl
   ·exact .inl (List.mem_cons_of_mem _ h)
  ·rcases List.mem_cons.1 h with rfl|h
   ·exact .inl (List.mem_cons_self ..)
   ·exact (yks h).imp (List.mem_cons_of_mem _) id
structure MOk (m:SumM) (k:Nat):Prop where
 nd:(m.map (·.1)).Nodup
 len:m.length<=k
 bn: ∀q∈m,(-(k*67108864:Int)<=q.2.1/\q.2.1<=k*67108864)/\0<=q.2.2/\q.2.2<=k*33554432
theorem MOk.nil:MOk [] 0:=⟨.nil,Nat.le_refl _,fun _ h=>by cases h⟩
theorem MOk.mono {m:SumM} {k k':Nat} (h:MOk m k) (hk:k<=k'):MOk m k':=⟨h.nd,Nat.le_trans h.len hk,fun q hq=>by have:=h.bn q hq;omega⟩
theorem MOk.put {m:SumM} {k:Nat} (e:Int) {v:Int} (h:MOk m k) (hv: -1125899906842624<=v/\v<=1125899906842624):MOk (mPut m e v) (k+1):=by
 obtain ⟨nd,hl,hb⟩:=h
 induction m generalizing k with
 |nil=>exact ⟨by simp [mPut],by simp [mPut],fun q hq=>by
  simp only [mPut,List.mem_singleton] at hq
  subst hq
  dsimp only;omega⟩
 |cons u m ih=>
  rw [List.map_cons] at nd
  have nd':=List.nodup_cons.1 nd
  simp only [mPut]
  have hu:=hb u (List.mem_cons_self ..)
  split
  ·rename_i he
   refine ⟨?_,by simp only [List.length_cons] at hl⊢;omega,fun q hq=>?_⟩
   ·rw [List.map_cons,←he];exact nd
   ·rcases List.mem_cons.1 hq with rfl|hq
    ·dsimp only;omega
    ·have:=hb q (List.mem_cons_of_mem _ hq);omega
  ·rename_i he
   simp only [List.length_cons] at hl
   have i2:=ih (k:=k) nd'.2 (by omega) (fun q hq=>hb q (List.mem_cons_of_mem _ hq))
   have hlen:(mPut m e v).length<=m.length+1:=by
    clear ih nd nd' hl hb hu i2
    induction m with
    |nil=>simp [mPut]
    |cons a m ih=>simp only [mPut];split<;>simp only [List.length_cons]<;>omega
   refine ⟨List.nodup_cons.2 ⟨fun hm=>?_,i2.nd⟩,by simp only [List.length_cons];omega,fun q hq=>?_⟩
   ·obtain ⟨q,q1,q2⟩:=List.mem_map.1 hm
    rcases yks q1 with q1|q1
    ·exact nd'.1 (by have:=List.mem_map_of_mem (f:=(·.1)) q1;rw [q2] at this;exact this)
    ·exact he (q2.symm.trans q1)
   ·rcases List.mem_cons.1 hq with rfl|hq
    ·omega
    ·exact i2.bn q hq
def fS (q:Int×Int×Int):List (Int×Int):=if suV q.2=0 then [] else [(q.1,suV q.2)]
def outS (m:SumM) (sn:List Nat):List (Int×Int):=sn.flatMap fun b=>fS (m.getD b (0,0,0))
theorem yw4 (m:SumM) (sn:List Nat) (b:Nat):outS m (sn++[b])=outS m sn++fS (m.getD b (0,0,0)):=by simp [outS]
theorem ykt (m:SumM): ∀sn:List Nat,(outS m sn).length<=sn.length
 |[]=>Nat.le_refl _
 |b::sn=>by
  have:=ykt m sn
  simp only [outS,List.flatMap_cons,List.length_append,List.length_cons] at this⊢
  have:(fS (m.getD b (0,0,0))).length<=1:=by unfold fS;split<;>simp
  omega
theorem y0n (m:SumM):outS m (List.range m.length)=m.flatMap fS:=by
 have h:(List.range m.length).map (fun b=>m.getD b (0,0,0))=m:=by
  apply List.ext_getElem?
  intro i
  by_cases hi:i<m.length<;>simp [hi]
 conv=>rhs;rw [←h]
 rw [List.flatMap_map];rfl
theorem yw5 (m:SumM) {sn:List Nat} (h:sn.Perm (List.range m.length)):(outS m sn).Perm (m.flatMap fS):=by
 rw [←y0n];exact h.flatMap_right _
theorem y0o {p q:List (Int×Int)} (h:p.Perm q) (e:Int):cfL p e=cfL q e:=by
 induction h with
 |nil=>rfl
 |cons x _ ih=>simp only [cfL,ih]
 |swap x y l=>simp only [cfL];omega
 |trans _ _ h1 h2=>rw [h1,h2]
theorem yjh: ∀m:SumM,((m.flatMap fS).map (·.1)).Sublist (m.map (·.1))
 |[]=> .slnil
 |q::m=>by
  simp only [List.flatMap_cons,List.map_append,List.map_cons]
  unfold fS
  split
  ·exact (yjh m).cons _
  ·exact (yjh m).cons_cons _
theorem yw6: ∀{m:SumM},(m.map (·.1)).Nodup-> ∀e,cfL (m.flatMap fS) e=mVal m e
 |[],_,e=>rfl
 |q::m,h,e=>by
  rw [List.map_cons] at h
  have h':=List.nodup_cons.1 h
  have ih:=yw6 h'.2 e
  rw [List.flatMap_cons,yg3,ih,yc6]
  unfold fS
  by_cases hq:q.1=e
  ·rw [if_pos hq]
   have h0:mVal m e=0:=by
    rw [←ih]
    refine ybz fun t ht he=>h'.1 ?_
    have:=(yjh m).subset (List.mem_map_of_mem ht)
    rw [he,←hq] at this
    exact this
   rw [h0]
   split
   ·rename_i hz;rw [hz];rfl
   ·simp only [cfL];rw [if_pos hq];omega
  ·rw [if_neg hq]
   split
   ·simp only [cfL];omega
   ·simp only [cfL];rw [if_neg hq];omega
theorem y7l {m:SumM} {t:Int×Int} (h:t∈m.flatMap fS):t.2≠0:=by
 obtain ⟨q,_,h2⟩:=List.mem_flatMap.1 h
 unfold fS at h2
 split at h2
 ·cases h2
 ·rename_i hz
  rw [List.mem_singleton.1 h2];exact hz
theorem yw7 {m:SumM} (hm:(m.map (·.1)).Nodup) {sn:List Nat} (hs:sn.Perm (List.range m.length)) {r:List (Int×Int)} (hr:r.Perm (outS m sn)) (ho:r.Pairwise fun a b=>a.1<=b.1):yag r (mVal m):=by
 have hp:=hr.trans (yw5 m hs)
 have hk:(r.map (·.1)).Nodup:=(hp.map (·.1)).nodup_iff.2 ((yjh m).nodup hm)
 refine ⟨⟨?_,fun t ht=>y7l (hp.mem_iff.1 ht)⟩,fun e=>by rw [y0o hp,yw6 hm]⟩
 have h2:r.Pairwise fun a b=>a.1≠b.1:=by
  have:=List.pairwise_map.1 hk
  exact this
 exact (ho.and h2).imp fun ⟨a,b⟩=>by omega
def mAdd (c d:Int):SumM->List (Int×Int)->SumM
 |m,[]=>m
 |m,t::p=>mAdd c d (mPut m (d+t.1) (c*t.2)) p
theorem yin (c d:Int) (t:Int×Int): ∀(p:List (Int×Int)) (m:SumM),mAdd c d m (p++[t])=mPut (mAdd c d m p) (d+t.1) (c*t.2)
 |[],_=>rfl
 |u::p,m=>yin c d t p _
theorem yei (c d x:Int): ∀(p:List (Int×Int)) (m:SumM),mVal (mAdd c d m p) x=mVal m x+c*cfL p (x-d)
 |[],m=>by simp [mAdd,cfL]
 |t::p,m=>by
  simp only [mAdd,cfL]
  rw [yei c d x p,ypp]
  by_cases h:x=d+t.1
  ·rw [if_pos h,if_pos (by omega),Int.mul_add];omega
  ·rw [if_neg h,if_neg (by omega)];simp
theorem MOk.add {c d:Int}: ∀{p:List (Int×Int)} {m:SumM} {k:Nat},MOk m k->(∀t∈p,-1125899906842624<=c*t.2/\c*t.2<=1125899906842624)->MOk (mAdd c d m p) (k+p.length)
 |[],m,k,h,_=>h
 |t::p,m,k,h,hb=>by
  have ht:=hb t (List.mem_cons_self ..)
  have:=MOk.add (c:=c) (d:=d) (h.put (d+t.1) (v:=c*t.2) ht) (fun u hu=>hb u (List.mem_cons_of_mem _ hu))
  simp only [mAdd,List.length_cons]
  exact this.mono (by omega)
def mMul (q:List (Int×Int)):SumM->List (Int×Int)->SumM
 |m,[]=>m
 |m,s::p=>mMul q (mAdd s.2 s.1 m q) p
theorem ynz (q:List (Int×Int)) (s:Int×Int): ∀(p:List (Int×Int)) (m:SumM),mMul q m (p++[s])=mAdd s.2 s.1 (mMul q m p) q
 |[],_=>rfl
 |u::p,m=>ynz q s p _
theorem ypq (q:List (Int×Int)) (x:Int): ∀(p:List (Int×Int)) (m:SumM),mVal (mMul q m p) x=mVal m x+cvL p (cfL q) x
 |[],m=>by simp [mMul,cvL]
 |s::p,m=>by
  simp only [mMul,cvL]
  rw [ypq q x p,yei]
  omega
theorem MOk.mul {q:List (Int×Int)}: ∀{p:List (Int×Int)} {m:SumM} {k:Nat},MOk m k->(∀s∈p,∀t∈q,-1125899906842624<=s.2*t.2/\s.2*t.2<=1125899906842624)->MOk (mMul q m p) (k+p.length*q.length)
 |[],m,k,h,_=>by simpa [mMul] using h
 |s::p,m,k,h,hb=>by
  have:=MOk.mul (q:=q) (h.add (c:=s.2) (d:=s.1) (p:=q) (fun t ht=>hb s (List.mem_cons_self ..) t ht)) (p:=p) (fun u hu=>hb u (List.mem_cons_of_mem _ hu))
  simp only [mMul,List.length_cons,Nat.succ_mul]
  exact this.mono (by omega)
theorem yso (u v c d:Int) (e:Int): ∀p:List (Int×Int),cvL p (cfL [(u,c),(v,d)]) e=c*cfL p (e-u)+d*cfL p (e-v)
 |[]=>by simp [cvL,cfL]
 |t::p=>by
  simp only [cvL,cfL]
  have ih:=yso u v c d e p
  simp only [cfL] at ih
  rw [ih,Int.mul_add,Int.mul_add,Int.mul_add]
  have e1:(t.2*if u=e-t.1 then c else 0)=c*if t.1=e-u then t.2 else 0:=by
   by_cases h:u=e-t.1
   ·rw [if_pos h,if_pos (by omega),Int.mul_comm]
   ·rw [if_neg h,if_neg (by omega)];simp
  have e2:(t.2*if v=e-t.1 then d else 0)=d*if t.1=e-v then t.2 else 0:=by
   by_cases h:v=e-t.1
   ·rw [if_pos h,if_pos (by omega),Int.mul_comm]
   ·rw [if_neg h,if_neg (by omega)];simp
  rw [Int.mul_add,e1,e2]
  omega
theorem rngS {sn:List Nat} {N:Nat} (hn:sn.Nodup) (hr: ∀i∈sn,i<N):sn.length<=N:=by
 have hp:(sn++(List.range N).filter fun i=> !sn.contains i).Perm (List.range N):=by
  refine (List.perm_ext_iff_of_nodup ?_ List.nodup_range).2 fun a=>?_
  ·rw [List.nodup_append]
   refine ⟨hn,List.nodup_range.filter _,fun a ha b hb h=>?_⟩
   subst h
   simp [ha] at hb
  ·by_cases h:a∈sn<;>simp [h]
   exact hr a h
 have:=hp.length_eq
 simp only [List.length_append,List.length_range] at this
 omega
def yct (m:SumM) (M:Int):Prop:= ∀q∈m,(-M<=bvA q.1/\bvA q.1<=M)/\ -M<=bvZ q.1/\bvZ q.1<=M
theorem yct.put {m:SumM} {M e v:Int} (h:yct m M) (he:(-M<=bvA e/\bvA e<=M)/\ -M<=bvZ e/\bvZ e<=M):yct (mPut m e v) M:=fun q hq=>by
 rcases yks hq with h1|h1
 ·exact h q h1
 ·rw [h1];exact he
theorem yct.add {c d M:Int}: ∀{p:List (Int×Int)} {m:SumM},yct m M->(∀t∈p,(-M<=bvA (d+t.1)/\bvA (d+t.1)<=M)/\ -M<=bvZ (d+t.1)/\bvZ (d+t.1)<=M)->yct (mAdd c d m p) M
 |[],_,h,_=>h
 |t::p,m,h,hb=>yct.add (p:=p) (m:=mPut m (d+t.1) (c*t.2)) (h.put (hb t (List.mem_cons_self ..))) fun u hu=>hb u (List.mem_cons_of_mem _ hu)
theorem yct.mul {q:List (Int×Int)} {M:Int}: ∀{p:List (Int×Int)} {m:SumM},yct m M->(∀s∈p,∀t∈q,(-M<=bvA (s.1+t.1)/\bvA (s.1+t.1)<=M)/\ -M<=bvZ (s.1+t.1)/\bvZ (s.1+t.1)<=M)->yct (mMul q m p) M
 |[],_,h,_=>h
 |s::p,m,h,hb=>yct.mul (p:=p) (m:=mAdd s.2 s.1 m q) (h.add (hb s (List.mem_cons_self ..))) fun u hu=>hb u (List.mem_cons_of_mem _ hu)
theorem yct.len {m:SumM} {M:Int} (h:yct m M) (hn:(m.map (·.1)).Nodup) (hM:M<=300):m.length<=1000000:=by
 have hr: ∀i∈m.map fun q=>(bvA q.1*601+bvZ q.1+180600).toNat,i<361201:=fun i hi=>by
  obtain ⟨q,hq,rfl⟩:=List.mem_map.1 hi
  have:=h q hq
  omega
 have hd:(m.map fun q=>(bvA q.1*601+bvZ q.1+180600).toNat).Nodup:=by
  rw [List.nodup_iff_pairwise_ne] at hn⊢
  rw [List.pairwise_map] at hn⊢
  refine hn.imp_of_mem fun {a b} ha hb hab he=>hab ?_
  have h1:=h a ha
  have h2:=h b hb
  have h3:bvA a.1=bvA b.1/\bvZ a.1=bvZ b.1:=by omega
  rw [←yb9 a.1,←yb9 b.1,h3.1,h3.2]
 have:=rngS hd hr
 rw [List.length_map] at this
 omega
end Go.Proofs.YtfgbnalnbdhimaaGreatDoor
namespace Go.Proofs.YtfgbnalnbdhimaaGreatDoor
set_option linter.unusedSimpArgs false
set_option linter.unusedVariables false
def SupB (f:Int->Int) (N:Int):Prop:= ∀e,f e≠0->(-N<=bvA e/\bvA e<=N)/\ -N<=bvZ e/\bvZ e<=N
def BndB (f:Int->Int):Prop:= ∀e,-1125899906842624<=f e/\f e<=1125899906842624
theorem SupB.mono {f:Int->Int} {N M:Int} (h:SupB f N) (hm:N<=M):SupB f M:=fun e he=>by have:=h e he;omega
theorem SupB.add {f g:Int->Int} {N:Int} (hf:SupB f N) (hg:SupB g N) (c:Int):SupB (fun e=>f e+c*g e) N:=fun e he=>by
 by_cases h:f e=0
 ·exact hg e fun h'=>he (by simp [h,h'])
 ·exact hf e h
theorem y5u {e e':Int} {N M:Int} (h:(-N<=bvA (e-e')/\bvA (e-e')<=N)/\ -N<=bvZ (e-e')/\bvZ (e-e')<=N) (h': -M<=bvZ e'/\bvZ e'<=M) (hN:N<=1048576) (hM:M<=1048576):bvA e=bvA (e-e')+bvA e'/\bvZ e=bvZ (e-e')+bvZ e':=by
 have h1:=ym4 (bvA (e-e')) (bvZ (e-e')) (bvA e') (bvZ e')
 rw [yb9,yb9,show e-e'+e'=e by omega] at h1
 have h2:bvA e=bvA (bvE (bvA (e-e')+bvA e') (bvZ (e-e')+bvZ e')):=congrArg bvA h1
 have h3:bvZ e=bvZ (bvE (bvA (e-e')+bvA e') (bvZ (e-e')+bvZ e')):=congrArg bvZ h1
 rw [yet (by omega)] at h2
 rw [yc2 (by omega)] at h3
 exact ⟨h2,h3⟩
theorem SupB.shift {f:Int->Int} {N M a z:Int} (h:SupB f N) (ha: -M<=a/\a<=M) (hz: -M<=z/\z<=M) (hN:N<=1048576) (hM:M<=1048576):SupB (fun e=>f (e-bvE a z)) (N+M):=fun e he=>by
 have h1:=h _ he
 have h2:=y5u h1 (M:=M) (by rw [yc2 (by omega)];exact hz) hN hM
 rw [yet (by omega),yc2 (by omega)] at h2
 omega
theorem yag.lenB {p:List (Int×Int)} {f:Int->Int} (h:yag p f) {N:Int} (hs:SupB f N) (hN:N<=150):p.length<=100000:=by
 have hm: ∀t∈p,(-N<=bvA t.1/\bvA t.1<=N)/\ -N<=bvZ t.1/\bvZ t.1<=N:=fun t ht=>hs _ (h.mem ht).2
 have ha:AscN (p.map fun t=>(bvA t.1*301+bvZ t.1,t.2)):=by
  refine ⟨?_,fun t ht=>?_⟩
  ·rw [List.pairwise_map]
   refine h.asc.asc.imp_of_mem fun {a b} ma mb hab=>?_
   have h1:=hm a ma
   have h2:=hm b mb
   rcases (y1p _ _).1 hab with h3|⟨h3,h4⟩
   ·show bvA a.1*301+bvZ a.1<bvA b.1*301+bvZ b.1
    omega
   ·show bvA a.1*301+bvZ a.1<bvA b.1*301+bvZ b.1
    omega
  ·obtain ⟨u,hu,rfl⟩:=List.mem_map.1 ht
   exact h.asc.nz u hu
 have:=ha.len (a:= -45300) (b:=45300) fun t ht=>by
  obtain ⟨u,hu,rfl⟩:=List.mem_map.1 ht
  have:=hm u hu
  show-45300<=bvA u.1*301+bvZ u.1/\bvA u.1*301+bvZ u.1<=45300
  omega
 simp only [List.length_map] at this
 omega
theorem yag.memB {p:List (Int×Int)} {f:Int->Int} (h:yag p f) {N:Int} (hs:SupB f N) {t:Int×Int} (ht:t∈p):(-N<=bvA t.1/\bvA t.1<=N)/\ -N<=bvZ t.1/\bvZ t.1<=N:=hs _ (h.mem ht).2
theorem ygv {f:Int->Int} {N:Int} (hs:SupB f N) (hN:N<=1048576): ∃p,yag p f:=by
 have hs2: ∀e,f e≠0-> -20000000000000<=e/\e<=20000000000000:=fun e he=>by
  have h1:=hs e he
  have h2:=yb9 e
  unfold bvE at h2
  omega
 obtain ⟨M,hM⟩: ∃M:Nat,M=20000000000000:=⟨_,rfl⟩
 refine ⟨tmI (-(M:Int)) ((List.range (2*M+1)).map fun (i:Nat)=>f ((i:Int)-M)),yjf _ _,fun e=>?_⟩
 rw [yjg]
 by_cases h0:f e=0
 ·rw [h0]
  split
  ·by_cases h1:(e- -(M:Int)).toNat<2*M+1
   ·simp only [List.getD_eq_getElem?_getD,List.getElem?_map,List.getElem?_range h1,Option.map_some,Option.getD_some]
    rw [show (((e- -(M:Int)).toNat:Nat):Int)-M=e by omega,h0]
   ·rw [List.getD_eq_getElem?_getD,List.getElem?_eq_none (by simp;omega)];rfl
  ·rfl
 ·have:=hs2 e h0
  rw [if_pos (by omega)]
  have h1:(e- -(M:Int)).toNat<2*M+1:=by omega
  simp only [List.getD_eq_getElem?_getD,List.getElem?_map,List.getElem?_range h1,Option.map_some,Option.getD_some]
  rw [show (((e- -(M:Int)).toNat:Nat):Int)-M=e by omega]
theorem yag.uniq {p q:List (Int×Int)} {f:Int->Int} (h:yag p f) (h':yag q f):p=q:=AscN.ext h.asc h'.asc fun e=>by rw [h.cf,h'.cf]
theorem ypr (d:Int): ∀(p:List (Int×Int)) (e:Int),cfL (p.map fun t=>(t.1+d,t.2)) e=cfL p (e-d)
 |[],_=>rfl
 |t::p,e=>by
  simp only [List.map_cons,cfL]
  rw [ypr d p e]
  by_cases h:t.1+d=e
  ·rw [if_pos h,if_pos (by omega)]
  ·rw [if_neg h,if_neg (by omega)]
theorem yag.shift {p:List (Int×Int)} {f:Int->Int} (h:yag p f) (d:Int):yag (p.map fun t=>(t.1+d,t.2)) (fun e=>f (e-d)):=by
 refine ⟨⟨?_,fun t ht=>?_⟩,fun e=>by rw [ypr,h.cf]⟩
 ·rw [List.pairwise_map]
  exact h.asc.asc.imp fun {a b} hab=>by show a.1+d<b.1+d;omega
 ·obtain ⟨u,hu,rfl⟩:=List.mem_map.1 ht
  exact h.asc.nz u hu
end Go.Proofs.YtfgbnalnbdhimaaGreatDoor
set_option linter.unusedSimpArgs false
set_option linter.unusedVariables false
namespace Go.Proofs.YtfgbnalnbdhimaaGreatDoor
namespace Sp
def itn (f:Nat->Nat):Nat->Nat->Nat
 |0,x=>x
 |k+1,x=>f (itn f k x)
theorem ydi (f:Nat->Nat) (i:Nat): ∀j x,itn f (i+j) x=itn f i (itn f j x):=by
 induction i with
 |zero=>intro j x;simp [itn]
 |succ i ih=>intro j x;rw [Nat.succ_add];simp only [itn];rw [ih]
theorem ydu (f:Nat->Nat) (k x:Nat):itn f k (f x)=f (itn f k x):=by
 have h:=ydi f k 1 x
 rw [Nat.add_comm k 1,ydi f 1 k x] at h
 exact h.symm
structure yav (N:Nat) (f:Nat->Nat):Prop where
 lt: ∀x,x<N->f x<N
 inj: ∀x y,x<N->y<N->f x=f y->x=y
section
variable {N:Nat} {f:Nat->Nat}
theorem yav.itn_lt (h:yav N f) {x:Nat} (hx:x<N): ∀k,itn f k x<N
 |0=>hx
 |k+1=>h.lt _ (h.itn_lt hx k)
theorem yav.itn_inj (h:yav N f) {x y:Nat} (hx:x<N) (hy:y<N): ∀k,itn f k x=itn f k y->x=y
 |0,e=>e
 |k+1,e=>h.itn_inj hx hy k (h.inj _ _ (h.itn_lt hx k) (h.itn_lt hy k) e)
theorem yw8 {l:List Nat} (hn:l.Nodup) (hl: ∀x∈l,x<N):l.length<=N:=by
 have: ∀(N:Nat) (l:List Nat),l.Nodup->(∀x∈l,x<N)->l.length<=N:=by
  intro N
  induction N with
  |zero=>intro l _ h;cases l with
   |nil=>simp
   |cons a l=>exact absurd (h a (by simp)) (by omega)
  |succ N ih=>
   intro l hn h
   have h1:=ih (l.erase N) (hn.erase N) (fun x hx=>by
    have h2:=h x (List.mem_of_mem_erase hx)
    have h3:x≠N:=fun e=>by subst e;exact (List.Nodup.not_mem_erase hn) hx
    omega)
   have h4:=List.length_erase_le (a:=N) (l:=l)
   by_cases hm:N∈l
   ·have:=List.length_erase_of_mem hm;omega
   ·rw [List.erase_of_not_mem hm] at h1;omega
 exact this N l hn hl
theorem yav.back (h:yav N f) {x:Nat} (hx:x<N): ∃k,0<k/\itn f k x=x:=by
 apply Classical.byContradiction
 intro hno
 have hne: ∀i j,i<j->itn f i x≠itn f j x:=fun i j hij e=>by
  refine hno ⟨j-i,by omega,?_⟩
  have e2:itn f i (itn f (j-i) x)=itn f i x:=by rw [←ydi,show i+(j-i)=j by omega];exact e.symm
  exact h.itn_inj (h.itn_lt hx _) hx i e2
 have hnd:((List.range (N+1)).map fun i=>itn f i x).Nodup:=by
  rw [List.Nodup,List.pairwise_map]
  refine List.Pairwise.imp_of_mem ?_ (List.pairwise_lt_range)
  intro i j _ _ hij
  exact hne i j hij
 have:=yw8 (N:=N) hnd (fun y hy=>by
  obtain ⟨i,_,rfl⟩:=List.mem_map.1 hy
  exact h.itn_lt hx i)
 simp at this
 omega
def SC (f:Nat->Nat) (x y:Nat):Prop:= ∃k,itn f k x=y
theorem SC.refl (f:Nat->Nat) (x:Nat):SC f x x:=⟨0,rfl⟩
theorem SC.step (f:Nat->Nat) (x:Nat):SC f x (f x):=⟨1,rfl⟩
theorem SC.trans {x y z:Nat} (h:SC f x y) (k:SC f y z):SC f x z:=by
 obtain ⟨i,rfl⟩:=h;obtain ⟨j,rfl⟩:=k;exact ⟨j+i,ydi f j i x⟩
theorem SC.symm (hp:yav N f) {x y:Nat} (hx:x<N) (h:SC f x y):SC f y x:=by
 obtain ⟨i,rfl⟩:=h
 obtain ⟨p,hp0,hpx⟩:=hp.back hx
 have hmul: ∀n,itn f (n*p) x=x:=fun n=>by
  induction n with
  |zero=>simp [itn]
  |succ n ih=>rw [Nat.succ_mul,ydi,hpx];exact ih
 refine ⟨(i+1)*p-i,?_⟩
 rw [←ydi]
 have:i<=(i+1)*p:=by
  have:=Nat.mul_le_mul_left (i+1) hp0;omega
 rw [show (i+1)*p-i+i=(i+1)*p by omega]
 exact hmul _
structure EqvN (N:Nat) (E:Nat->Nat->Prop):Prop where
 rfl': ∀x,x<N->E x x
 symm: ∀x y,x<N->y<N->E x y->E y x
 trans: ∀x y z,x<N->y<N->z<N->E x y->E y z->E x z
theorem SC.eqv (hp:yav N f):EqvN N (SC f):=⟨fun x _=> .refl f x,fun _ _ hx _ h=>h.symm hp hx,fun _ _ _ _ _ _ h k=>h.trans k⟩
def Join (E:Nat->Nat->Prop) (a b x y:Nat):Prop:=E x y\/(E x a/\E b y)\/(E x b/\E a y)
theorem Join.eqv {E:Nat->Nat->Prop} (h:EqvN N E) {a b:Nat} (ha:a<N) (hb:b<N):EqvN N (Join E a b):=by
 refine ⟨fun x hx=> .inl (h.rfl' x hx),fun x y hx hy e=>?_,fun x y z hx hy hz e e'=>?_⟩
 ·rcases e with e|⟨e1,e2⟩|⟨e1,e2⟩
  ·exact .inl (h.symm _ _ hx hy e)
  ·exact .inr (.inr ⟨h.symm _ _ hb hy e2,h.symm _ _ hx ha e1⟩)
  ·exact .inr (.inl ⟨h.symm _ _ ha hy e2,h.symm _ _ hx hb e1⟩)
 ·rcases e with e|⟨e1,e2⟩|⟨e1,e2⟩<;>rcases e' with e'|⟨e3,e4⟩|⟨e3,e4⟩
  ·exact .inl (h.trans _ _ _ hx hy hz e e')
  ·exact .inr (.inl ⟨h.trans _ _ _ hx hy ha e e3,e4⟩)
  ·exact .inr (.inr ⟨h.trans _ _ _ hx hy hb e e3,e4⟩)
  ·exact .inr (.inl ⟨e1,h.trans _ _ _ hb hy hz e2 e'⟩)
  ·exact .inr (.inl ⟨e1,e4⟩)
  ·exact .inl (h.trans _ _ _ hx ha hz e1 e4)
  ·exact .inr (.inr ⟨e1,h.trans _ _ _ ha hy hz e2 e'⟩)
  ·exact .inl (h.trans _ _ _ hx hb hz e1 e4)
  ·exact .inr (.inr ⟨e1,e4⟩)
def swp (f:Nat->Nat) (a b x:Nat):Nat:=if x=a then f b else if x=b then f a else f x
theorem yfj (f:Nat->Nat) (a b:Nat):swp (swp f a b) a b=f:=by
 funext x
 unfold swp
 by_cases h1:x=a
 ·subst h1
  rw [if_pos rfl]
  by_cases h2:b=x
  ·subst h2;simp
  ·rw [if_neg h2,if_pos rfl]
 ·rw [if_neg h1]
  by_cases h2:x=b
  ·subst h2;rw [if_pos rfl,if_pos rfl]
  ·rw [if_neg h2,if_neg h1,if_neg h2]
theorem yc7 (hp:yav N f) {a b:Nat} (ha:a<N) (hb:b<N):yav N (swp f a b):=by
 refine ⟨fun x hx=>?_,fun x y hx hy e=>?_⟩
 ·unfold swp;split
  ·exact hp.lt _ hb
  ·split
   ·exact hp.lt _ ha
   ·exact hp.lt _ hx
 ·unfold swp at e
  split at e<;>split at e<;>(try split at e)<;>(try split at e)<;>(have:=hp.inj _ _ (by assumption) (by assumption) e;omega)
theorem yio {a b x:Nat} (n:Nat) (h: ∀j,j<n->itn f j x≠a/\itn f j x≠b): ∀j,j<=n->itn (swp f a b) j x=itn f j x
 |0,_=>rfl
 |j+1,hj=>by
  simp only [itn]
  rw [yio n h j (by omega)]
  have:=h j (by omega)
  unfold swp
  rw [if_neg this.1,if_neg this.2]
theorem yw9 {x y:Nat} (h:SC f x y): ∃k,itn f k x=y/\ ∀j,j<k->itn f j x≠y:=by
 obtain ⟨k,hk⟩:=h
 induction k using Nat.strongRecOn with
 |ind k ih=>
  by_cases hj: ∃j,j<k/\itn f j x=y
  ·obtain ⟨j,h1,h2⟩:=hj;exact ih j h1 h2
  ·exact ⟨k,hk,fun j h1 h2=>hj ⟨j,h1,h2⟩⟩
theorem yur (hp:yav N f) {x:Nat} (hx:x<N): ∃k,0<k/\itn f k x=x/\ ∀j,0<j->j<k->itn f j x≠x:=by
 obtain ⟨k,h0,hk⟩:=hp.back hx
 induction k using Nat.strongRecOn with
 |ind k ih=>
  by_cases hj: ∃j,0<j/\j<k/\itn f j x=x
  ·obtain ⟨j,h1,h2,h3⟩:=hj;exact ih j h2 h1 h3
  ·exact ⟨k,h0,hk,fun j h1 h2 h3=>hj ⟨j,h1,h2,h3⟩⟩
theorem yxa (hp:yav N f) {a b:Nat} (hb:b<N) (hno: ¬SC f a b):SC (swp f a b) a b:=by
 obtain ⟨k,h0,hk,hf⟩:=yur hp hb
 obtain ⟨n,rfl⟩: ∃n,k=n+1:=⟨k-1,by omega⟩
 have hs: ∀j,j<n->itn f j (f b)≠a/\itn f j (f b)≠b:=fun j hj=>by
  rw [ydu]
  refine ⟨fun e=>hno ?_,hf (j+1) (by omega) (by omega)⟩
  exact (show SC f b a from ⟨j+1,e⟩).symm hp hb
 have h1:=yio (f:=f) (a:=a) (b:=b) n hs n (Nat.le_refl _)
 refine ⟨n+1,?_⟩
 have e:itn (swp f a b) (n+1) a=itn (swp f a b) n (swp f a b a):=by simp only [itn];rw [ydu]
 rw [e,show swp f a b a=f b by unfold swp;rw [if_pos rfl],h1,ydu]
 exact hk
theorem ycu (hp:yav N f) {a b:Nat} (ha:a<N) (hb:b<N) (hno: ¬SC f a b): ∀x y,x<N->y<N->(SC (swp f a b) x y↔Join (SC f) a b x y):=by
 have hp':=yc7 hp ha hb
 have hab:=yxa hp hb hno
 have hba:SC (swp f a b) b a:=hab.symm hp' ha
 have hE:=SC.eqv hp
 have hJ:=Join.eqv hE ha hb
 have hstep: ∀x,SC (swp f a b) x (f x):=fun x=>by
  by_cases h1:x=a
  ·subst h1
   refine hab.trans ⟨1,?_⟩
   show swp f x b b=f x
   unfold swp
   by_cases h2:b=x
   ·rw [if_pos h2,h2]
   ·rw [if_neg h2,if_pos rfl]
  ·by_cases h2:x=b
   ·subst h2
    refine hba.trans ⟨1,?_⟩
    show swp f a x a=f x
    unfold swp;rw [if_pos rfl]
   ·refine ⟨1,?_⟩
    show swp f a b x=f x
    unfold swp;rw [if_neg h1,if_neg h2]
 have hway1: ∀k x,SC (swp f a b) x (itn f k x):=fun k x=>by
  induction k with
  |zero=>exact .refl _ _
  |succ k ih=>exact ih.trans (hstep _)
 have hway: ∀x y,SC f x y->SC (swp f a b) x y:=fun x y ⟨k,hk⟩=>hk▸hway1 k x
 intro x y hx hy
 constructor
 ·rintro ⟨k,rfl⟩
  clear hy
  induction k with
  |zero=>exact .inl (.refl _ _)
  |succ k ih=>
   have hlt:=hp'.itn_lt hx k
   refine hJ.trans _ _ _ hx hlt (hp'.lt _ hlt) ih ?_
   simp only [itn]
   generalize itn (swp f a b) k x=z
   unfold swp
   split
   ·subst z;exact .inr (.inl ⟨.refl _ _, .step _ _⟩)
   ·split
    ·subst z;exact .inr (.inr ⟨.refl _ _, .step _ _⟩)
    ·exact .inl (.step _ _)
 ·rintro (h|⟨h1,h2⟩|⟨h1,h2⟩)
  ·exact hway _ _ h
  ·exact (hway _ _ h1).trans (hab.trans (hway _ _ h2))
  ·exact (hway _ _ h1).trans (hba.trans (hway _ _ h2))
theorem yf2 (hp:yav N f) {a b:Nat} (ha:a<N) (hab:a≠b) (hs:SC f a b): ¬SC (swp f a b) a b:=by
 obtain ⟨k,hk,hf⟩:=yw9 (hs.symm hp ha)
 have hk0:0<k:=by
  rcases Nat.eq_zero_or_pos k with h|h
  ·subst h;exact absurd hk.symm hab
  ·exact h
 have hnb: ∀j,0<j->j<=k->itn f j b≠b:=fun j h1 h2 e=>by
  have e2:itn f (k-j) b=a:=by
   have:itn f (k-j) (itn f j b)=a:=by rw [←ydi,show k-j+j=k by omega];exact hk
   rwa [e] at this
  exact hf (k-j) (by omega) e2
 obtain ⟨n,rfl⟩: ∃n,k=n+1:=⟨k-1,by omega⟩
 have hs1: ∀j,j<n->itn f j (f b)≠a/\itn f j (f b)≠b:=fun j hj=>by
  rw [ydu];exact ⟨hf (j+1) (by omega),hnb (j+1) (by omega) (by omega)⟩
 have h1:=yio (f:=f) (a:=a) (b:=b) n hs1
 have hsa:swp f a b a=f b:=by unfold swp;rw [if_pos rfl]
 have hcyc: ∀j,j<=n->itn (swp f a b) (j+1) a=itn f (j+1) b:=fun j hj=>by
  have e:itn (swp f a b) (j+1) a=itn (swp f a b) j (swp f a b a):=by simp only [itn];rw [ydu]
  rw [e,hsa,h1 j hj,ydu];rfl
 have hback:itn (swp f a b) (n+1) a=a:=by rw [hcyc n (Nat.le_refl _)];exact hk
 have hmul: ∀q,itn (swp f a b) (q*(n+1)) a=a:=fun q=>by
  induction q with
  |zero=>simp [itn]
  |succ q ih=>rw [Nat.succ_mul,ydi,hback];exact ih
 rintro ⟨i,hi⟩
 have e:itn (swp f a b) (i %(n+1)) a=b:=by
  have:itn (swp f a b) (i %(n+1)+(i/(n+1))*(n+1)) a=b:=by
   rw [show i %(n+1)+i/(n+1)*(n+1)=i by rw [Nat.mul_comm];exact Nat.mod_add_div i (n+1)];exact hi
  rwa [ydi,hmul] at this
 have hlt:=Nat.mod_lt i (show n+1>0 by omega)
 rcases Nat.eq_zero_or_pos (i %(n+1)) with h|h
 ·rw [h] at e;exact hab e
 ·obtain ⟨j,hj⟩: ∃j,i %(n+1)=j+1:=⟨i %(n+1)-1,by omega⟩
  rw [hj,hcyc j (by omega)] at e
  exact hnb (j+1) (by omega) (by omega) e
structure Tr (N:Nat) (U:Nat->Prop) (E:Nat->Nat->Prop) (l:List Nat):Prop where
 mem: ∀x∈l,x<N/\U x
 nodup:l.Nodup
 apart: ∀x∈l,∀y∈l,E x y->x=y
 all: ∀x,x<N->U x-> ∃y∈l,E x y
variable {U:Nat->Prop} {E E':Nat->Nat->Prop} {l l':List Nat}
theorem yfk {α β:Type} [DecidableEq β]: ∀(l:List α) (k:List β) (g:α->β),l.Nodup->(∀x∈l,g x∈k)->(∀x∈l,∀y∈l,g x=g y->x=y)->l.length<=k.length
 |[],k,g,_,_,_=>by simp
 |a::l,k,g,hn,hm,hi=>by
  have h1:=yfk l (k.erase (g a)) g (List.nodup_cons.1 hn).2 (fun x hx=>by
   have hne:g x≠g a:=fun e=>by
    have:=hi x (by simp [hx]) a (by simp) e
    subst this;exact (List.nodup_cons.1 hn).1 hx
   exact (List.mem_erase_of_ne hne).2 (hm x (by simp [hx]))) (fun x hx y hy=>hi x (by simp [hx]) y (by simp [hy]))
  have h2:=List.length_erase_of_mem (hm a (by simp))
  have h3:0<k.length:=List.length_pos_of_mem (hm a (by simp))
  simp only [List.length_cons]
  omega
theorem Tr.le (hE:EqvN N E) (h:Tr N U E l) (h':Tr N U E l'):l.length<=l'.length:=by
 have hc: ∀x,∃y,x∈l->(y∈l'/\E x y):=fun x=>by
  by_cases hx:x∈l
  ·obtain ⟨y,h1,h2⟩:=h'.all x (h.mem x hx).1 (h.mem x hx).2
   exact ⟨y,fun _=>⟨h1,h2⟩⟩
  ·exact ⟨0,fun h=>absurd h hx⟩
 obtain ⟨g,hg⟩:=Classical.axiomOfChoice hc
 refine yfk l l' g h.nodup (fun x hx=>(hg x hx).1) fun x hx y hy e=>?_
 have h1:=hg x hx
 have h2:=hg y hy
 rw [e] at h1
 exact h.apart x hx y hy (hE.trans _ _ _ (h.mem x hx).1 (h'.mem _ h2.1).1 (h.mem y hy).1 h1.2 (hE.symm _ _ (h.mem y hy).1 (h'.mem _ h2.1).1 h2.2))
theorem Tr.len_eq (hE:EqvN N E) (h:Tr N U E l) (h':Tr N U E l'):l.length=l'.length:=Nat.le_antisymm (h.le hE h') (h'.le hE h)
theorem Tr.congr (h:Tr N U E l) (he: ∀x y,x<N->y<N->(E x y↔E' x y)):Tr N U E' l:=
 ⟨h.mem,h.nodup,fun x hx y hy e=>h.apart x hx y hy ((he x y (h.mem x hx).1 (h.mem y hy).1).2 e),fun x hx hU=>let ⟨y,h1,h2⟩:=h.all x hx hU;⟨y,h1,(he x y hx (h.mem y h1).1).1 h2⟩⟩
theorem Tr.exists (hE:EqvN N E) (U:Nat->Prop): ∃l,Tr N U E l:=by
 classical
 refine ⟨(List.range N).filter fun x=>decide (U x/\ ∀y,y<x->U y-> ¬E x y),?_,?_,?_,?_⟩
 ·intro x hx
  have h:=List.mem_filter.1 hx
  exact ⟨List.mem_range.1 h.1,(of_decide_eq_true h.2).1⟩
 ·exact List.nodup_range.filter _
 ·intro x hx y hy e
  have h1:=List.mem_filter.1 hx
  have h2:=List.mem_filter.1 hy
  have k1:=of_decide_eq_true h1.2
  have k2:=of_decide_eq_true h2.2
  have l1:=List.mem_range.1 h1.1
  have l2:=List.mem_range.1 h2.1
  rcases Nat.lt_trichotomy x y with g|g|g
  ·exact absurd (hE.symm _ _ l1 l2 e) (k2.2 x g k1.1)
  ·exact g
  ·exact absurd e (k1.2 y g k2.1)
 ·intro x hx hU
  have: ∀n x,x<n->x<N->U x-> ∃y,y∈((List.range N).filter fun x=>decide (U x/\ ∀y,y<x->U y-> ¬E x y))/\E x y:=by
   intro n
   induction n with
   |zero=>intro x h;omega
   |succ n ih=>
    intro x hn hx hU
    by_cases hl: ∃y,y<x/\U y/\E x y
    ·obtain ⟨y,h1,h2,h3⟩:=hl
     obtain ⟨z,h4,h5⟩:=ih y (by omega) (by omega) h2
     have hz:=List.mem_range.1 (List.mem_filter.1 h4).1
     exact ⟨z,h4,hE.trans _ _ _ hx (by omega) hz h3 h5⟩
    ·exact ⟨x,List.mem_filter.2 ⟨List.mem_range.2 hx,decide_eq_true ⟨hU,fun y h1 h2 h3=>hl ⟨y,h1,h2,h3⟩⟩⟩,hE.rfl' x hx⟩
  exact this (x+1) x (by omega) hx hU
theorem Tr.join (hE:EqvN N E) (h:Tr N U E l) {a b:Nat} (ha:a<N) (hb:b<N) (hUa:U a) (hUb:U b) (hno: ¬E a b) (h':Tr N U (Join E a b) l'):l.length=l'.length+1:=by
 obtain ⟨x,hx,hax⟩:=h.all a ha hUa
 obtain ⟨y,hy,hby⟩:=h.all b hb hUb
 have lx:=(h.mem x hx).1
 have ly:=(h.mem y hy).1
 have hxy:x≠y:=fun e=>by subst e;exact hno (hE.trans _ _ _ ha lx hb hax (hE.symm _ _ hb lx hby))
 have key:Tr N U (Join E a b) (l.erase y):=by
  refine ⟨fun z hz=>h.mem z (List.mem_of_mem_erase hz),h.nodup.erase y,fun z hz w hw e=>?_,fun z hz hU=>?_⟩
  ·have mz:=List.mem_of_mem_erase hz
   have mw:=List.mem_of_mem_erase hw
   have lz:=(h.mem z mz).1
   have lw:=(h.mem w mw).1
   have nz:z≠y:=fun e=>by subst e;exact List.Nodup.not_mem_erase h.nodup hz
   have nw:w≠y:=fun e=>by subst e;exact List.Nodup.not_mem_erase h.nodup hw
   rcases e with e|⟨e1,e2⟩|⟨e1,e2⟩
   ·exact h.apart z mz w mw e
   ·exact absurd (h.apart w mw y hy (hE.trans _ _ _ lw hb ly (hE.symm _ _ hb lw e2) hby)) nw
   ·exact absurd (h.apart z mz y hy (hE.trans _ _ _ lz hb ly e1 hby)) nz
  ·obtain ⟨w,hw,e⟩:=h.all z hz hU
   by_cases hwy:w=y
   ·subst hwy
    refine ⟨x,(List.mem_erase_of_ne hxy).2 hx, .inr (.inr ⟨hE.trans _ _ _ hz ly hb e (hE.symm _ _ hb ly hby),hax⟩)⟩
   ·exact ⟨w,(List.mem_erase_of_ne hwy).2 hw, .inl e⟩
 have e1:=key.len_eq (Join.eqv hE ha hb) h'
 have e2:=List.length_erase_of_mem hy
 have e3:0<l.length:=List.length_pos_of_mem hy
 omega
theorem Tr.join_out (hE:EqvN N E) (h:Tr N U E l) {a b:Nat} (hc: ∀x y,x<N->y<N->E x y->(U x↔U y)) (ha:a<N) (hb:b<N) (hUa: ¬U a) (hUb: ¬U b) (h':Tr N U (Join E a b) l'):l.length=l'.length:=by
 have key:Tr N U (Join E a b) l:=by
  refine ⟨h.mem,h.nodup,fun z hz w hw e=>?_,fun z hz hU=>?_⟩
  ·rcases e with e|⟨e1,e2⟩|⟨e1,e2⟩
   ·exact h.apart z hz w hw e
   ·exact absurd ((hc _ _ (h.mem z hz).1 ha e1).1 (h.mem z hz).2) hUa
   ·exact absurd ((hc _ _ (h.mem z hz).1 hb e1).1 (h.mem z hz).2) hUb
  ·obtain ⟨w,hw,e⟩:=h.all z hz hU;exact ⟨w,hw, .inl e⟩
 exact key.len_eq (Join.eqv hE ha hb) h'
theorem yn0 (hE:EqvN N E) {a b:Nat} (ha:a<N) (hb:b<N) (hab:E a b): ∀x y,x<N->y<N->(Join E a b x y↔E x y):=fun x y hx hy=>by
 constructor
 ·rintro (e|⟨e1,e2⟩|⟨e1,e2⟩)
  ·exact e
  ·exact hE.trans _ _ _ hx ha hy e1 (hE.trans _ _ _ ha hb hy hab e2)
  ·exact hE.trans _ _ _ hx hb hy e1 (hE.trans _ _ _ hb ha hy (hE.symm _ _ ha hb hab) e2)
 ·exact .inl
end
end Sp
end Go.Proofs.YtfgbnalnbdhimaaGreatDoor
namespace Go.Proofs.YtfgbnalnbdhimaaGreatDoor
namespace Sp
open Classical
theorem ydv {N:Nat} {f g:Nat->Nat} (hf:yav N f) (h: ∀x,x<N->f x=g x) {x y:Nat} (hx:x<N):SC f x y↔SC g x y:=by
 have: ∀k,itn f k x=itn g k x:=fun k=>by
  induction k with
  |zero=>rfl
  |succ k ih=>simp only [itn];rw [←ih];exact h _ (hf.itn_lt hx k)
 constructor
 ·rintro ⟨k,rfl⟩;exact ⟨k,(this k).symm⟩
 ·rintro ⟨k,rfl⟩;exact ⟨k,this k⟩
theorem yav.congr {N:Nat} {f g:Nat->Nat} (hf:yav N f) (h: ∀x,x<N->f x=g x):yav N g:=
 ⟨fun x hx=>by rw [←h x hx];exact hf.lt x hx,fun x y hx hy e=>hf.inj x y hx hy (by rw [h x hx,h y hy];exact e)⟩
structure Mat (N:Nat) (al:Nat->Nat):Prop where
 lt: ∀x,x<N->al x<N
 inv: ∀x,x<N->al (al x)=x
 ne: ∀x,x<N->al x≠x
def alK (al:Nat->Nat) (k x:Nat):Nat:=if min x (al x)<k then al x else x
def phK (si al:Nat->Nat) (k x:Nat):Nat:=si (alK al k x)
def KK (si al:Nat->Nat):Nat->Nat->Nat->Prop
 |0=>SC si
 |k+1=>if k<al k then Join (KK si al k) k (al k) else KK si al k
section
variable {N:Nat} {si al:Nat->Nat} {U:Nat->Prop}
theorem yps (ha:Mat N al) {k:Nat} (hk:k<N) (h:k<al k): ∀x,x<N->swp (phK si al k) k (al k) x=phK si al (k+1) x:=fun x hx=>by
 have hi:=ha.inv k hk
 unfold swp phK alK
 by_cases h1:x=k
 ·subst h1
  rw [if_pos rfl,hi]
  rw [if_neg (by omega),if_pos (by omega)]
 ·rw [if_neg h1]
  by_cases h2:x=al k
  ·subst h2
   rw [if_pos rfl,hi,if_neg (by omega),if_pos (by omega)]
  ·rw [if_neg h2]
   have h3:al x≠k:=fun e=>h2 (by rw [←e];exact (ha.inv x hx).symm)
   by_cases h4:min x (al x)<k
   ·rw [if_pos h4,if_pos (by omega)]
   ·rw [if_neg h4,if_neg (by omega)]
theorem ypt (ha:Mat N al) {k:Nat} (hk:k<N) (h: ¬k<al k): ∀x,x<N->phK si al k x=phK si al (k+1) x:=fun x hx=>by
 unfold phK alK
 have hne:=ha.ne k hk
 by_cases h4:min x (al x)<k
 ·rw [if_pos h4,if_pos (by omega)]
 ·rw [if_neg h4]
  have h5: ¬min x (al x)<k+1:=fun h6=>by
   have h7:min x (al x)=k:=by omega
   by_cases h8:x<=al x
   ·have:x=k:=by omega
    subst this;omega
   ·have h9:al x=k:=by omega
    have:x=al k:=by rw [←h9];exact (ha.inv x hx).symm
    omega
  rw [if_neg h5]
theorem yb3 (hs:yav N si) (ha:Mat N al): ∀k,k<=N->yav N (phK si al k)
 |0,_=>hs.congr fun x _=>by unfold phK alK;rw [if_neg (by omega)]
 |k+1,hk=>by
  have ih:=yb3 hs ha k (by omega)
  by_cases h:k<al k
  ·exact (yc7 ih (show k<N by omega) (ha.lt k (by omega))).congr (yps ha (by omega) h)
  ·exact ih.congr (ypt ha (by omega) h)
theorem yip (hs:yav N si) (ha:Mat N al): ∀k,k<=N->EqvN N (KK si al k)
 |0,_=>SC.eqv hs
 |k+1,hk=>by
  have ih:=yip hs ha k (by omega)
  unfold KK
  split
  ·exact Join.eqv ih (by omega) (ha.lt k (by omega))
  ·exact ih
theorem ypu {f:Nat->Nat} {E:Nat->Nat->Prop} (hf:yav N f) (hE:EqvN N E) (h: ∀x,x<N->E x (f x)) {x y:Nat} (hx:x<N) (hs:SC f x y):E x y:=by
 obtain ⟨k,rfl⟩:=hs
 induction k with
 |zero=>exact hE.rfl' x hx
 |succ k ih=>exact hE.trans _ _ _ hx (hf.itn_lt hx k) (hf.lt _ (hf.itn_lt hx k)) ih (h _ (hf.itn_lt hx k))
theorem yor (hs:yav N si) (ha:Mat N al): ∀k,k<=N-> ∀x,x<N->KK si al k x (si x)
 |0,_,x,_=>SC.step _ _
 |k+1,hk,x,hx=>by
  have ih:=yor hs ha k (by omega) x hx
  unfold KK;split
  ·exact .inl ih
  ·exact ih
theorem yus (hs:yav N si) (ha:Mat N al): ∀k,k<=N-> ∀x,x<N->min x (al x)<k->KK si al k x (al x)
 |0,_,x,_,h=>by omega
 |k+1,hk,x,hx,h=>by
  by_cases h1:min x (al x)<k
  ·have ih:=yus hs ha k (by omega) x hx h1
   unfold KK;split
   ·exact .inl ih
   ·exact ih
  ·have hE:=yip hs ha k (by omega)
   have hal:=ha.lt x hx
   have hi:=ha.inv x hx
   have hne:=ha.ne x hx
   have h2:min x (al x)=k:=by omega
   unfold KK
   by_cases h3:x<al x
   ·have:x=k:=by omega
    subst this
    rw [if_pos h3]
    exact .inr (.inl ⟨hE.rfl' _ hx,hE.rfl' _ hal⟩)
   ·have h4:al x=k:=by omega
    have h5:al k=x:=by rw [←h4];exact hi
    rw [if_pos (by omega)]
    refine .inr (.inr ⟨?_,?_⟩)
    ·rw [h5];exact hE.rfl' _ hx
    ·rw [h4];exact hE.rfl' _ (by omega)
theorem yku (hs:yav N si) (ha:Mat N al) {R:Nat->Nat->Prop} (hR:EqvN N R) (h1: ∀x,x<N->R x (si x)) (h2: ∀x,x<N->R x (al x)): ∀k,k<=N-> ∀x y,x<N->y<N->KK si al k x y->R x y
 |0,_,x,y,hx,_,h=>ypu hs hR h1 hx h
 |k+1,hk,x,y,hx,hy,h=>by
  have ih:=yku hs ha hR h1 h2 k (by omega)
  have hkN:k<N:=by omega
  have hal:=ha.lt k hkN
  unfold KK at h
  split at h
  ·rcases h with h|⟨e1,e2⟩|⟨e1,e2⟩
   ·exact ih x y hx hy h
   ·exact hR.trans _ _ _ hx hkN hy (ih _ _ hx hkN e1) (hR.trans _ _ _ hkN hal hy (h2 k hkN) (ih _ _ hal hy e2))
   ·exact hR.trans _ _ _ hx hal hy (ih _ _ hx hal e1) (hR.trans _ _ _ hal hkN hy (hR.symm _ _ hkN hal (h2 k hkN)) (ih _ _ hkN hy e2))
  ·exact ih x y hx hy h
theorem ylt (hs:yav N si) (ha:Mat N al) {k:Nat} (hk:k<=N) {x y:Nat} (hx:x<N) (h:SC (phK si al k) x y):KK si al k x y:=by
 have hE:=yip hs ha k hk
 refine ypu (yb3 hs ha k hk) hE (fun x hx=>?_) hx h
 have hal:=ha.lt x hx
 unfold phK alK
 split
 ·exact hE.trans _ _ _ hx hal (hs.lt _ hal) (yus hs ha k hk x hx (by assumption)) (yor hs ha k hk _ hal)
 ·exact yor hs ha k hk x hx
noncomputable def eU (al:Nat->Nat) (U:Nat->Prop) (k:Nat):Nat:=(List.range k).countP fun h=>decide (U h/\h<al h)
theorem yji (al:Nat->Nat) (U:Nat->Prop) (k:Nat):eU al U (k+1)=eU al U k+if U k/\k<al k then 1 else 0:=by
 unfold eU
 rw [List.range_succ,List.countP_append]
 by_cases h:U k/\k<al k
 ·simp [h]
 ·simp [h]
theorem KK_U (hs:yav N si) (ha:Mat N al) (h1: ∀x,x<N->(U x↔U (si x))) (h2: ∀x,x<N->(U x↔U (al x))) {k:Nat} (hk:k<=N) {x y:Nat} (hx:x<N) (hy:y<N) (h:KK si al k x y):U x↔U y:=
 yku (R:=fun x y=>U x↔U y) hs ha ⟨fun _ _=>Iff.rfl,fun _ _ _ _ h=>h.symm,fun _ _ _ _ _ _ h k=>h.trans k⟩ h1 h2 k hk x y hx hy h
theorem y1q (hs:yav N si) (ha:Mat N al) (h1: ∀x,x<N->(U x↔U (si x))) (h2: ∀x,x<N->(U x↔U (al x))): ∀k,k<=N-> ∀lV lF lK,Tr N U (SC si) lV->Tr N U (SC (phK si al k)) lF->Tr N U (KK si al k) lK->
  lV.length+lF.length<=2*lK.length+eU al U k
 |0,_,lV,lF,lK,hV,hF,hK=>by
  have e1:=hV.len_eq (SC.eqv hs) hK
  have e2:=hV.len_eq (SC.eqv hs) (hF.congr (E':=SC si) (fun x y hx _=>(ydv hs (g:=phK si al 0) (fun x _=>by unfold phK alK;rw [if_neg (by omega)]) hx).symm))
  omega
 |k+1,hk,lV,lF,lK,hV,hF,hK=>by
  have hkN:k<N:=by omega
  have hal:=ha.lt k hkN
  have hE:=yip hs ha k (by omega)
  have hP:=yb3 hs ha k (by omega)
  have hSE:=SC.eqv hP
  obtain ⟨lF0,hF0⟩:=Tr.exists hSE U
  obtain ⟨lK0,hK0⟩:=Tr.exists hE U
  have ih:=y1q hs ha h1 h2 k (by omega) lV lF0 lK0 hV hF0 hK0
  rw [yji]
  by_cases hlt:k<al k
  ·have hst:=yps (si:=si) ha hkN hlt
   have hsw:=yc7 hP hkN hal
   have hF1:Tr N U (SC (swp (phK si al k) k (al k))) lF:=hF.congr fun x y hx _=>(ydv hsw hst hx).symm
   have hK1:Tr N U (Join (KK si al k) k (al k)) lK:=by unfold KK at hK;rw [if_pos hlt] at hK;exact hK
   by_cases hU:U k
   ·have hUa:=(h2 k hkN).1 hU
    rw [if_pos ⟨hU,hlt⟩]
    have hFle:lF.length<=lF0.length+1/\(¬SC (phK si al k) k (al k)->lF0.length=lF.length+1):=by
     by_cases hsc:SC (phK si al k) k (al k)
     ·refine ⟨?_,fun h=>absurd hsc h⟩
      have hno:=yf2 hP hkN (by omega) hsc
      have hj:=ycu hsw hkN hal hno
      rw [yfj] at hj
      have:=hF1.join (SC.eqv hsw) hkN hal hU hUa hno (hF0.congr hj)
      omega
     ·have:=hF0.join hSE hkN hal hU hUa hsc (hF1.congr (ycu hP hkN hal hsc))
      exact ⟨by omega,fun _=>this⟩
    by_cases hke:KK si al k k (al k)
    ·have:=hK0.len_eq hE (hK1.congr (yn0 hE hkN hal hke))
     omega
    ·have e1:=hK0.join hE hkN hal hU hUa hke hK1
     have e2:=hFle.2 (fun hsc=>hke (ylt hs ha (by omega) hkN hsc))
     omega
   ·have hUa: ¬U (al k):=fun h=>hU ((h2 k hkN).2 h)
    rw [if_neg (fun h=>hU h.1)]
    have hcK: ∀x y,x<N->y<N->KK si al k x y->(U x↔U y):=fun x y hx hy h=>KK_U hs ha h1 h2 (by omega) hx hy h
    have e1:=hK0.join_out hE hcK hkN hal hU hUa hK1
    have e2:lF0.length=lF.length:=by
     by_cases hsc:SC (phK si al k) k (al k)
     ·have hno:=yf2 hP hkN (by omega) hsc
      have hj:=ycu hsw hkN hal hno
      rw [yfj] at hj
      refine (hF1.join_out (SC.eqv hsw) (fun x y hx hy h=>?_) hkN hal hU hUa (hF0.congr hj)).symm
      have h3:SC (phK si al (k+1)) x y:=(ydv hsw hst hx).1 h
      exact KK_U hs ha h1 h2 hk hx hy (ylt hs ha hk hx h3)
     ·exact hF0.join_out hSE (fun x y hx hy h=>KK_U hs ha h1 h2 (by omega) hx hy (ylt hs ha (by omega) hx h)) hkN hal hU hUa (hF1.congr (ycu hP hkN hal hsc))
    omega
  ·rw [if_neg (fun h=>hlt h.2)]
   have hK1:Tr N U (KK si al k) lK:=by unfold KK at hK;rw [if_neg hlt] at hK;exact hK
   have e1:=hK0.len_eq hE hK1
   have e2:=hF0.len_eq hSE (hF.congr fun x y hx _=>(ydv hP (ypt ha hkN hlt) hx).symm)
   omega
end
end Sp
end Go.Proofs.YtfgbnalnbdhimaaGreatDoor
namespace Go.Proofs.YtfgbnalnbdhimaaGreatDoor
namespace Sp
open Classical
section
variable {N:Nat} {si al:Nat->Nat} {U W:Nat->Prop} {E E':Nat->Nat->Prop} {l l':List Nat}
theorem Tr.congrU (h:Tr N U E l) (hU: ∀x,x<N->(U x↔W x)) (he: ∀x y,x<N->y<N->U x->U y->(E x y↔E' x y)):Tr N W E' l:=
 ⟨fun x hx=>⟨(h.mem x hx).1,(hU x (h.mem x hx).1).1 (h.mem x hx).2⟩,h.nodup,fun x hx y hy e=>h.apart x hx y hy ((he x y (h.mem x hx).1 (h.mem y hy).1 (h.mem x hx).2 (h.mem y hy).2).2 e),fun x hx hW=>by
  have hUx:=(hU x hx).2 hW
  obtain ⟨y,h1,h2⟩:=h.all x hx hUx
  exact ⟨y,h1,(he x y hx (h.mem y h1).1 hUx (h.mem y h1).2).1 h2⟩⟩
theorem Tr.append (h:Tr N U E l) (h':Tr N W E l') (hno: ∀x y,x<N->y<N->U x->W y-> ¬E x y/\ ¬E y x) (hne: ∀x,x<N->U x-> ¬W x):Tr N (fun x=>U x\/W x) E (l++l'):=by
 refine ⟨fun x hx=>?_,?_,fun x hx y hy e=>?_,fun x hx hU=>?_⟩
 ·rcases List.mem_append.1 hx with g|g
  ·exact ⟨(h.mem x g).1, .inl (h.mem x g).2⟩
  ·exact ⟨(h'.mem x g).1, .inr (h'.mem x g).2⟩
 ·refine List.nodup_append.2 ⟨h.nodup,h'.nodup,fun x hx y hy e=>?_⟩
  subst e
  exact hne x (h.mem x hx).1 (h.mem x hx).2 (h'.mem x hy).2
 ·rcases List.mem_append.1 hx with g|g<;>rcases List.mem_append.1 hy with k|k
  ·exact h.apart x g y k e
  ·exact absurd e (hno x y (h.mem x g).1 (h'.mem y k).1 (h.mem x g).2 (h'.mem y k).2).1
  ·exact absurd e (hno y x (h.mem y k).1 (h'.mem x g).1 (h.mem y k).2 (h'.mem x g).2).2
  ·exact h'.apart x g y k e
 ·rcases hU with g|g
  ·obtain ⟨y,h1,h2⟩:=h.all x hx g;exact ⟨y,List.mem_append_left _ h1,h2⟩
  ·obtain ⟨y,h1,h2⟩:=h'.all x hx g;exact ⟨y,List.mem_append_right _ h1,h2⟩
theorem yej {al':Nat->Nat} {k:Nat} (h: ∀x,x<k->((U x/\x<al x)↔(W x/\x<al' x))):eU al U k=eU al' W k:=by
 unfold eU
 refine List.countP_congr fun x hx=>?_
 simp only [decide_eq_true_eq]
 exact h x (List.mem_range.1 hx)
theorem y7m {k:Nat} (h: ∀x,x<k->U x-> ¬W x):eU al (fun x=>U x\/W x) k=eU al U k+eU al W k:=by
 induction k with
 |zero=>simp [eU]
 |succ k ih=>
  rw [yji,yji,yji,ih (fun x hx=>h x (by omega))]
  have:=h k (by omega)
  by_cases h1:U k<;>by_cases h2:W k<;>by_cases h3:k<al k<;>simp [h1,h2,h3]<;>first|omega|exact absurd h2 (this h1)
end
structure Sph (N:Nat) (si al:Nat->Nat):Prop where
 perm:yav N si
 mat:Mat N al
 eq: ∀r,r<N-> ∀lV lF,Tr N (KK si al N r) (SC si) lV->Tr N (KK si al N r) (SC (phK si al N)) lF->lV.length+lF.length=2+eU al (KK si al N r) N
section
variable {N:Nat} {si al:Nat->Nat}
theorem ph_N (ha:Mat N al) {x:Nat} (hx:x<N):phK si al N x=si (al x):=by
 unfold phK alK;rw [if_pos (by omega)]
theorem yd9 (hs:yav N si) (ha:Mat N al):EqvN N (KK si al N):=yip hs ha N (Nat.le_refl _)
theorem K_si (hs:yav N si) (ha:Mat N al) {x:Nat} (hx:x<N):KK si al N x (si x):=yor hs ha N (Nat.le_refl _) x hx
theorem K_al (hs:yav N si) (ha:Mat N al) {x:Nat} (hx:x<N):KK si al N x (al x):=yus hs ha N (Nat.le_refl _) x hx (by omega)
theorem K_sc (hs:yav N si) (ha:Mat N al) {x y:Nat} (hx:x<N) (h:SC si x y):KK si al N x y:=ypu hs (yd9 hs ha) (fun _ hx=>K_si hs ha hx) hx h
theorem K_ph (hs:yav N si) (ha:Mat N al) {x y:Nat} (hx:x<N) (h:SC (phK si al N) x y):KK si al N x y:=ylt hs ha (Nat.le_refl _) hx h
theorem ydj (hs:yav N si) (ha:Mat N al) {R:Nat->Nat->Prop} (hR:EqvN N R) (h1: ∀x,x<N->R x (si x)) (h2: ∀x,x<N->R x (al x)) {x y:Nat} (hx:x<N) (hy:y<N) (h:KK si al N x y):R x y:=yku hs ha hR h1 h2 N (Nat.le_refl _) x y hx hy h
theorem K_cl (hs:yav N si) (ha:Mat N al) {r:Nat} (hr:r<N):(∀x,x<N->(KK si al N r x↔KK si al N r (si x)))/\(∀x,x<N->(KK si al N r x↔KK si al N r (al x))):=by
 have hE:=yd9 hs ha
 refine ⟨fun x hx=>?_,fun x hx=>?_⟩
 ·have h1:=K_si hs ha hx
  have h2:=hs.lt x hx
  exact ⟨fun h=>hE.trans _ _ _ hr hx h2 h h1,fun h=>hE.trans _ _ _ hr h2 hx h (hE.symm _ _ hx h2 h1)⟩
 ·have h1:=K_al hs ha hx
  have h2:=ha.lt x hx
  exact ⟨fun h=>hE.trans _ _ _ hr hx h2 h h1,fun h=>hE.trans _ _ _ hr h2 hx h (hE.symm _ _ hx h2 h1)⟩
theorem ypv (hs:yav N si) (ha:Mat N al) {r:Nat} (hr:r<N) {lV lF:List Nat} (hV:Tr N (KK si al N r) (SC si) lV) (hF:Tr N (KK si al N r) (SC (phK si al N)) lF):lV.length+lF.length<=2+eU al (KK si al N r) N:=by
 have hE:=yd9 hs ha
 have hK:Tr N (KK si al N r) (KK si al N) [r]:=by
  refine ⟨fun x hx=>?_,by simp,fun x hx y hy _=>?_,fun x hx h=>⟨r,by simp,hE.symm _ _ hr hx h⟩⟩
  ·simp at hx;subst hx;exact ⟨hr,hE.rfl' _ hr⟩
  ·simp at hx hy;rw [hx,hy]
 have:=y1q hs ha (K_cl hs ha hr).1 (K_cl hs ha hr).2 N (Nat.le_refl _) lV lF [r] hV hF hK
 simpa using this
theorem Sph.split (h:Sph N si al) {p q:Nat} (hp:p<N) (hq:q<N) (hpq:p≠q) (hsc:SC si p q):Sph N (swp si p q) al:=by
 have hs:=h.perm
 have ha:=h.mat
 have hs':=yc7 hs hp hq
 have hE:=yd9 hs ha
 have hE':=yd9 hs' ha
 have hvn:=yf2 hs hp hpq hsc
 have hvj:=ycu hs' hp hq hvn
 rw [yfj] at hvj
 have hap:=ha.lt p hp
 have haq:=ha.lt q hq
 have hpm:=yb3 hs ha N (Nat.le_refl _)
 have hpm':=yb3 hs' ha N (Nat.le_refl _)
 have hph: ∀x,x<N->swp (phK si al N) (al p) (al q) x=phK (swp si p q) al N x:=fun x hx=>by
  rw [ph_N ha hx]
  unfold swp
  have i1:=ha.inv x hx
  by_cases h1:x=al p
  ·subst h1
   rw [if_pos rfl,ha.inv p hp,if_pos rfl,ph_N ha haq,ha.inv q hq]
  ·rw [if_neg h1]
   have n1:al x≠p:=fun e=>h1 (by rw [←e,i1])
   by_cases h2:x=al q
   ·subst h2
    rw [if_pos rfl,ha.inv q hq,if_neg (Ne.symm hpq),if_pos rfl,ph_N ha hap,ha.inv p hp]
   ·rw [if_neg h2]
    have n2:al x≠q:=fun e=>h2 (by rw [←e,i1])
    rw [if_neg n1,if_neg n2,ph_N ha hx]
 have haa:al p≠al q:=fun e=>hpq (by rw [←ha.inv p hp,←ha.inv q hq,e])
 have hKpq:KK si al N p q:=K_sc hs ha hp hsc
 have hsi': ∀x,x<N->(x≠p/\x≠q/\swp si p q x=si x)\/(x=p/\swp si p q x=si q)\/(x=q/\swp si p q x=si p):=fun x _=>by
  unfold swp
  by_cases h1:x=p
  ·exact .inr (.inl ⟨h1,by rw [if_pos h1]⟩)
  ·by_cases h2:x=q
   ·exact .inr (.inr ⟨h2,by rw [if_neg h1,if_pos h2]⟩)
   ·exact .inl ⟨h1,h2,by rw [if_neg h1,if_neg h2]⟩
 have hsub: ∀x y,x<N->y<N->KK (swp si p q) al N x y->KK si al N x y:=fun x y hx hy hk=>by
  refine ydj hs' ha hE (fun x hx=>?_) (fun x hx=>K_al hs ha hx) hx hy hk
  rcases hsi' x hx with ⟨_,_,e⟩|⟨rfl,e⟩|⟨rfl,e⟩
  ·rw [e];exact K_si hs ha hx
  ·rw [e];exact hE.trans _ _ _ hx hq (hs.lt _ hq) hKpq (K_si hs ha hq)
  ·rw [e];exact hE.trans _ _ _ hx hp (hs.lt _ hp) (hE.symm _ _ hp hx hKpq) (K_si hs ha hp)
 have hKj: ∀x y,x<N->y<N->(KK si al N x y↔Join (KK (swp si p q) al N) p q x y):=fun x y hx hy=>by
  constructor
  ·intro hk
   refine ydj hs ha (Join.eqv hE' hp hq) (fun x hx=>?_) (fun x hx=> .inl (K_al hs' ha hx)) hx hy hk
   rcases hsi' x hx with ⟨_,_,e⟩|⟨rfl,_⟩|⟨rfl,_⟩
   ·rw [←e];exact .inl (K_si hs' ha hx)
   ·refine .inr (.inl ⟨hE'.rfl' _ hx,?_⟩)
    have:=K_si hs' ha hq
    rwa [show swp si x q q=si x by unfold swp;rw [if_neg (Ne.symm hpq),if_pos rfl]] at this
   ·refine .inr (.inr ⟨hE'.rfl' _ hx,?_⟩)
    have:=K_si hs' ha hp
    rwa [show swp si p x p=si x by unfold swp;rw [if_pos rfl]] at this
  ·rintro (e|⟨e1,e2⟩|⟨e1,e2⟩)
   ·exact hsub x y hx hy e
   ·exact hE.trans _ _ _ hx hp hy (hsub _ _ hx hp e1) (hE.trans _ _ _ hp hq hy hKpq (hsub _ _ hq hy e2))
   ·exact hE.trans _ _ _ hx hq hy (hsub _ _ hx hq e1) (hE.trans _ _ _ hq hp hy (hE.symm _ _ hp hq hKpq) (hsub _ _ hp hy e2))
 obtain ⟨lV,hV⟩:=Tr.exists (SC.eqv hs) (KK si al N p)
 obtain ⟨lF,hF⟩:=Tr.exists (SC.eqv hpm) (KK si al N p)
 have heq:=h.eq p hp lV lF hV hF
 obtain ⟨lV',hV'⟩:=Tr.exists (SC.eqv hs') (KK si al N p)
 obtain ⟨lF',hF'⟩:=Tr.exists (SC.eqv hpm') (KK si al N p)
 have hUp:KK si al N p p:=hE.rfl' _ hp
 have hv1:lV'.length=lV.length+1:=hV'.join (SC.eqv hs') hp hq hUp hKpq hvn (hV.congr hvj)
 have hUap:KK si al N p (al p):=K_al hs ha hp
 have hUaq:KK si al N p (al q):=hE.trans _ _ _ hp hq haq hKpq (K_al hs ha hq)
 have hswp:=yc7 hpm hap haq
 have hF1:Tr N (KK si al N p) (SC (swp (phK si al N) (al p) (al q))) lF':=hF'.congr fun x y hx _=>(ydv hswp hph hx).symm
 have hfup: ¬SC (phK (swp si p q) al N) (al p) (al q)->lF'.length=lF.length+1:=fun hno=>by
  have hno': ¬SC (swp (phK si al N) (al p) (al q)) (al p) (al q):=fun e=>hno ((ydv hswp hph hap).1 e)
  have hj:=ycu hswp hap haq hno'
  rw [yfj] at hj
  exact hF1.join (SC.eqv hswp) hap haq hUap hUaq hno' (hF.congr hj)
 have hfle:lF.length<=lF'.length+1:=by
  by_cases hsc2:SC (phK si al N) (al p) (al q)
  ·have hno:=yf2 hpm hap haa hsc2
   have hj:=ycu hswp hap haq hno
   rw [yfj] at hj
   have:=hF1.join (SC.eqv hswp) hap haq hUap hUaq hno (hF.congr hj)
   omega
  ·have:=hF.join (SC.eqv hpm) hap haq hUap hUaq hsc2 (hF1.congr (ycu hpm hap haq hsc2))
   omega
 refine ⟨hs',ha,fun r hr kV kF hkV hkF=>?_⟩
 by_cases hrp:KK si al N p r
 ·by_cases hsame:KK (swp si p q) al N p q
  ·--nothing is parted
   have hKK: ∀x y,x<N->y<N->(KK si al N x y↔KK (swp si p q) al N x y):=fun x y hx hy=>(hKj x y hx hy).trans (yn0 hE' hp hq hsame x y hx hy)
   have hcl: ∀x,x<N->(KK si al N p x↔KK (swp si p q) al N r x):=fun x hx=>by
    rw [←hKK r x hr hx]
    exact ⟨fun e=>hE.trans _ _ _ hr hp hx (hE.symm _ _ hp hr hrp) e,fun e=>hE.trans _ _ _ hp hr hx hrp e⟩
   have e1:=(hV'.congrU hcl (E':=SC (swp si p q)) (fun _ _ _ _ _ _=>Iff.rfl)).len_eq (SC.eqv hs') hkV
   have e2:=(hF'.congrU hcl (E':=SC (phK (swp si p q) al N)) (fun _ _ _ _ _ _=>Iff.rfl)).len_eq (SC.eqv hpm') hkF
   have e3:eU al (KK si al N p) N=eU al (KK (swp si p q) al N r) N:=yej fun x hx=>by rw [hcl x hx]
   have e4:=ypv hs' ha hr hkV hkF
   omega
  ·--the class is parted
   have hnab: ¬SC (phK (swp si p q) al N) (al p) (al q):=fun e=>hsame (by
    have h1:=K_ph hs' ha hap e
    exact hE'.trans _ _ _ hp hap hq (K_al hs' ha hp) (hE'.trans _ _ _ hap haq hq h1 (hE'.symm _ _ hq haq (K_al hs' ha hq))))
   have hf1:=hfup hnab
   obtain ⟨pV,hpV⟩:=Tr.exists (SC.eqv hs') (KK (swp si p q) al N p)
   obtain ⟨pF,hpF⟩:=Tr.exists (SC.eqv hpm') (KK (swp si p q) al N p)
   obtain ⟨qV,hqV⟩:=Tr.exists (SC.eqv hs') (KK (swp si p q) al N q)
   obtain ⟨qF,hqF⟩:=Tr.exists (SC.eqv hpm') (KK (swp si p q) al N q)
   have hdis: ∀x,x<N->KK (swp si p q) al N p x-> ¬KK (swp si p q) al N q x:=fun x hx e1 e2=>hsame (hE'.trans _ _ _ hp hx hq e1 (hE'.symm _ _ hq hx e2))
   have hcov: ∀x,x<N->((KK (swp si p q) al N p x\/KK (swp si p q) al N q x)↔KK si al N p x):=fun x hx=>by
    rw [hKj p x hp hx]
    constructor
    ·rintro (e|e)
     ·exact .inl e
     ·exact .inr (.inl ⟨hE'.rfl' _ hp,e⟩)
    ·rintro (e|⟨_,e⟩|⟨e,_⟩)
     ·exact .inl e
     ·exact .inr e
     ·exact absurd e hsame
   have hnoV: ∀x y,x<N->y<N->KK (swp si p q) al N p x->KK (swp si p q) al N q y-> ¬SC (swp si p q) x y/\ ¬SC (swp si p q) y x:=fun x y hx hy e1 e2=>
    ⟨fun e=>hdis y hy (hE'.trans _ _ _ hp hx hy e1 (K_sc hs' ha hx e)) e2,fun e=>hdis x hx e1 (hE'.trans _ _ _ hq hy hx e2 (K_sc hs' ha hy e))⟩
   have hnoF: ∀x y,x<N->y<N->KK (swp si p q) al N p x->KK (swp si p q) al N q y-> ¬SC (phK (swp si p q) al N) x y/\ ¬SC (phK (swp si p q) al N) y x:=fun x y hx hy e1 e2=>
    ⟨fun e=>hdis y hy (hE'.trans _ _ _ hp hx hy e1 (K_ph hs' ha hx e)) e2,fun e=>hdis x hx e1 (hE'.trans _ _ _ hq hy hx e2 (K_ph hs' ha hy e))⟩
   have eV:=((hpV.append hqV hnoV hdis).congrU hcov (E':=SC (swp si p q)) (fun _ _ _ _ _ _=>Iff.rfl)).len_eq (SC.eqv hs') hV'
   have eF:=((hpF.append hqF hnoF hdis).congrU hcov (E':=SC (phK (swp si p q) al N)) (fun _ _ _ _ _ _=>Iff.rfl)).len_eq (SC.eqv hpm') hF'
   rw [List.length_append] at eV eF
   have eE:eU al (KK si al N p) N=eU al (KK (swp si p q) al N p) N+eU al (KK (swp si p q) al N q) N:=by
    rw [←y7m (fun x hx e=>hdis x hx e)]
    exact yej fun x hx=>by rw [hcov x hx]
   have ip:=ypv hs' ha hp hpV hpF
   have iq:=ypv hs' ha hq hqV hqF
   have hr':=(hcov r hr).2 hrp
   rcases hr' with hr'|hr'
   ·have hcl: ∀x,x<N->(KK (swp si p q) al N p x↔KK (swp si p q) al N r x):=fun x hx=>⟨fun e=>hE'.trans _ _ _ hr hp hx (hE'.symm _ _ hp hr hr') e,fun e=>hE'.trans _ _ _ hp hr hx hr' e⟩
    have e1:=(hpV.congrU hcl (E':=SC (swp si p q)) (fun _ _ _ _ _ _=>Iff.rfl)).len_eq (SC.eqv hs') hkV
    have e2:=(hpF.congrU hcl (E':=SC (phK (swp si p q) al N)) (fun _ _ _ _ _ _=>Iff.rfl)).len_eq (SC.eqv hpm') hkF
    have e3:eU al (KK (swp si p q) al N p) N=eU al (KK (swp si p q) al N r) N:=yej fun x hx=>by rw [hcl x hx]
    omega
   ·have hcl: ∀x,x<N->(KK (swp si p q) al N q x↔KK (swp si p q) al N r x):=fun x hx=>⟨fun e=>hE'.trans _ _ _ hr hq hx (hE'.symm _ _ hq hr hr') e,fun e=>hE'.trans _ _ _ hq hr hx hr' e⟩
    have e1:=(hqV.congrU hcl (E':=SC (swp si p q)) (fun _ _ _ _ _ _=>Iff.rfl)).len_eq (SC.eqv hs') hkV
    have e2:=(hqF.congrU hcl (E':=SC (phK (swp si p q) al N)) (fun _ _ _ _ _ _=>Iff.rfl)).len_eq (SC.eqv hpm') hkF
    have e3:eU al (KK (swp si p q) al N q) N=eU al (KK (swp si p q) al N r) N:=yej fun x hx=>by rw [hcl x hx]
    omega
 ·--another component:as it was
  have hnr: ∀x,x<N->KK si al N r x->x≠p/\x≠q:=fun x hx e=>⟨fun g=>by subst g;exact hrp (hE.symm _ _ hr hx e),fun g=>by
   subst g;exact hrp (hE.trans _ _ _ hp hx hr hKpq (hE.symm _ _ hr hx e))⟩
  have hcl: ∀x,x<N->(KK (swp si p q) al N r x↔KK si al N r x):=fun x hx=>by
   refine ⟨hsub r x hr hx,fun e=>?_⟩
   rcases (hKj r x hr hx).1 e with e|⟨e1,_⟩|⟨e1,_⟩
   ·exact e
   ·exact absurd rfl (hnr p hp (hsub _ _ hr hp e1)).1
   ·exact absurd rfl (hnr q hq (hsub _ _ hr hq e1)).2
  have hclE: ∀{f:Nat->Nat} (_:yav N f) {g:Nat->Nat} (_: ∀x,x<N->KK si al N r x->f x=g x/\KK si al N r (f x)) (x y:Nat),x<N->KK si al N r x->(SC f x y↔SC g x y):=fun {f} hf {g} hfg x y hx hU=>by
   have hi: ∀k,KK si al N r (itn f k x)/\itn f k x=itn g k x:=fun k=>by
    induction k with
    |zero=>exact ⟨hU,rfl⟩
    |succ k ih=>
     have:=hfg _ (hf.itn_lt hx k) ih.1
     exact ⟨this.2,by simp only [itn];rw [←ih.2];exact this.1⟩
   constructor
   ·rintro ⟨k,rfl⟩;exact ⟨k,(hi k).2.symm⟩
   ·rintro ⟨k,rfl⟩;exact ⟨k,(hi k).2⟩
  have hsc1:=hclE hs' (g:=si) (fun x hx e=>by
   have hn:=hnr x hx e
   rcases hsi' x hx with ⟨_,_,g⟩|⟨g,_⟩|⟨g,_⟩
   ·rw [g];exact ⟨rfl,((K_cl hs ha hr).1 x hx).1 e⟩
   ·exact absurd g hn.1
   ·exact absurd g hn.2)
  have hsc2:=hclE hpm' (g:=phK si al N) (fun x hx e=>by
   have hax:=ha.lt x hx
   have e1:=((K_cl hs ha hr).2 x hx).1 e
   have hn:=hnr (al x) hax e1
   rw [ph_N ha hx,ph_N ha hx]
   rcases hsi' (al x) hax with ⟨_,_,g⟩|⟨g,_⟩|⟨g,_⟩
   ·rw [g];exact ⟨rfl,((K_cl hs ha hr).1 _ hax).1 e1⟩
   ·exact absurd g hn.1
   ·exact absurd g hn.2)
  have t1:Tr N (KK si al N r) (SC si) kV:=hkV.congrU hcl (fun x y hx _ hU _=>hsc1 x y hx ((hcl x hx).1 hU))
  have t2:Tr N (KK si al N r) (SC (phK si al N)) kF:=hkF.congrU hcl (fun x y hx _ hU _=>hsc2 x y hx ((hcl x hx).1 hU))
  have:=h.eq r hr kV kF t1 t2
  rw [this]
  congr 1
  exact yej fun x hx=>by rw [hcl x hx]
end
end Sp
end Go.Proofs.YtfgbnalnbdhimaaGreatDoor
namespace Go.Proofs.YtfgbnalnbdhimaaGreatDoor
namespace Sp
open Classical
noncomputable def cU (U:Nat->Prop) (N:Nat):Nat:=(List.range N).countP fun h=>decide (U h)
section
variable {N:Nat} {si al:Nat->Nat} {U W:Nat->Prop}
theorem ydk (U:Nat->Prop) (k:Nat):cU U (k+1)=cU U k+if U k then 1 else 0:=by
 unfold cU
 rw [List.range_succ,List.countP_append]
 by_cases h:U k<;>simp [h]
theorem ykv {k:Nat} (h: ∀x,x<k->(U x↔W x)):cU U k=cU W k:=by
 unfold cU
 refine List.countP_congr fun x hx=>?_
 simp only [decide_eq_true_eq]
 exact h x (List.mem_range.1 hx)
theorem yut {k:Nat} (h: ∀x,x<k->U x-> ¬W x):cU (fun x=>U x\/W x) k=cU U k+cU W k:=by
 induction k with
 |zero=>simp [cU]
 |succ k ih=>
  rw [ydk,ydk,ydk,ih (fun x hx=>h x (by omega))]
  have:=h k (by omega)
  by_cases h1:U k<;>by_cases h2:W k<;>simp [h1,h2]<;>first|omega|exact absurd h2 (this h1)
theorem yiq {u:Nat}: ∀k,cU (fun x=>x=u) k=if u<k then 1 else 0
 |0=>by simp [cU]
 |k+1=>by
  rw [ydk,yiq k]
  by_cases h1:u<k
  ·rw [if_pos h1,if_neg (by omega),if_pos (by omega)]
  ·rw [if_neg h1]
   by_cases h2:k=u
   ·rw [if_pos h2,if_pos (by omega)]
   ·rw [if_neg h2,if_neg (by omega)]
theorem yek (ha:Mat N al) (hU: ∀x,x<N->(U x↔U (al x))):2*eU al U N=cU U N:=by
 have e1:eU al U N=((List.range N).filter fun h=>decide (U h/\h<al h)).length:=by unfold eU;rw [List.countP_eq_length_filter]
 have e2:cU U N=eU al U N+((List.range N).filter fun h=>decide (U h/\ ¬h<al h)).length:=by
  rw [←List.countP_eq_length_filter]
  unfold cU eU
  generalize List.range N=l
  induction l with
  |nil=>simp
  |cons x l ih=>
   simp only [List.countP_cons]
   rw [ih]
   by_cases h1:U x<;>by_cases h2:x<al x<;>simp [h1,h2]<;>omega
 have m1: ∀x,x∈((List.range N).filter fun h=>decide (U h/\h<al h))↔x<N/\U x/\x<al x:=fun x=>by simp [List.mem_filter]
 have m2: ∀x,x∈((List.range N).filter fun h=>decide (U h/\ ¬h<al h))↔x<N/\U x/\ ¬x<al x:=fun x=>by simp [List.mem_filter]
 have i1:=yfk ((List.range N).filter fun h=>decide (U h/\h<al h)) ((List.range N).filter fun h=>decide (U h/\ ¬h<al h)) al (List.nodup_range.filter _) (fun x hx=>by
  obtain ⟨h1,h2,h3⟩:=(m1 x).1 hx
  exact (m2 _).2 ⟨ha.lt x h1,(hU x h1).1 h2,by rw [ha.inv x h1];omega⟩) (fun x hx y hy e=>by
  have h1:=((m1 x).1 hx).1
  have h2:=((m1 y).1 hy).1
  rw [←ha.inv x h1,←ha.inv y h2,e])
 have i2:=yfk ((List.range N).filter fun h=>decide (U h/\ ¬h<al h)) ((List.range N).filter fun h=>decide (U h/\h<al h)) al (List.nodup_range.filter _) (fun x hx=>by
  obtain ⟨h1,h2,h3⟩:=(m2 x).1 hx
  have:=ha.ne x h1
  exact (m1 _).2 ⟨ha.lt x h1,(hU x h1).1 h2,by rw [ha.inv x h1];omega⟩) (fun x hx y hy e=>by
  have h1:=((m2 x).1 hx).1
  have h2:=((m2 y).1 hy).1
  rw [←ha.inv x h1,←ha.inv y h2,e])
 omega
theorem ym5 {f:Nat->Nat} {x:Nat} (h:f x=x): ∀k,itn f k x=x
 |0=>rfl
 |k+1=>by simp only [itn];rw [ym5 h k];exact h
theorem ypw {f:Nat->Nat} (hf:yav N f) {a v:Nat} (ha:a<N) (hav:a≠v) (hs:f a=v):swp f a v v=v/\ ∀x y,x<N->y<N->x≠v->y≠v->(SC f x y↔SC (swp f a v) x y):=by
 have hv:v<N:=by rw [←hs];exact hf.lt a ha
 have hfix:swp f a v v=v:=by unfold swp;rw [if_neg (Ne.symm hav),if_pos rfl];exact hs
 refine ⟨hfix,fun x y hx hy nx ny=>?_⟩
 have hsc:SC f a v:=⟨1,hs⟩
 have hp':=yc7 hf ha hv
 have hno:=yf2 hf ha hav hsc
 have hj:=ycu hp' ha hv hno x y hx hy
 rw [yfj] at hj
 rw [hj]
 have hvv: ∀z,SC (swp f a v) v z->z=v:=fun z ⟨k,hk⟩=>hk▸ym5 hfix k
 constructor
 ·rintro (e|⟨_,e⟩|⟨e,_⟩)
  ·exact e
  ·exact absurd (hvv _ e) ny
  ·exact absurd (hvv _ (e.symm hp' hx)) nx
 ·exact .inl
def det (al:Nat->Nat) (u v x:Nat):Nat:=if x=u then v else if x=v then u else if x=al u then al v else if x=al v then al u else al x
theorem Sph.detach (h:Sph N si al) {u v:Nat} (hu:u<N) (hv:v<N) (huv:u≠v) (s1:si u=v) (s2:si v=u) (hne:al u≠v):Sph N si (det al u v):=by
 have hs:=h.perm
 have ha:=h.mat
 obtain ⟨a,ea⟩: ∃a,al u=a:=⟨_,rfl⟩
 obtain ⟨b,eb⟩: ∃b,al v=b:=⟨_,rfl⟩
 have la:a<N:=by rw [←ea];exact ha.lt u hu
 have lb:b<N:=by rw [←eb];exact ha.lt v hv
 have ia:al a=u:=by rw [←ea];exact ha.inv u hu
 have ib:al b=v:=by rw [←eb];exact ha.inv v hv
 have nau:a≠u:=by rw [←ea];exact ha.ne u hu
 have nbv:b≠v:=by rw [←eb];exact ha.ne v hv
 have nav:a≠v:=by rw [←ea];exact hne
 have nbu:b≠u:=fun e=>nav (by rw [←ea,←e,ib])
 have nab:a≠b:=fun e=>huv (by rw [←ia,←ib,e])
 have du:det al u v u=v:=by unfold det;rw [if_pos rfl]
 have dv:det al u v v=u:=by unfold det;rw [if_neg (Ne.symm huv),if_pos rfl]
 have dxa:det al u v a=b:=by unfold det;rw [if_neg nau,if_neg nav,ea,if_pos rfl,eb]
 have dxb:det al u v b=a:=by unfold det;rw [if_neg nbu,if_neg nbv,ea,if_neg (Ne.symm nab),eb,if_pos rfl]
 have dx: ∀x,x≠u->x≠v->x≠a->x≠b->det al u v x=al x:=fun x h1 h2 h3 h4=>by unfold det;rw [if_neg h1,if_neg h2,ea,if_neg h3,eb,if_neg h4]
 have dc: ∀x,x=u\/x=v\/x=a\/x=b\/(x≠u/\x≠v/\x≠a/\x≠b):=fun x=>by omega
 have dout: ∀x,x<N->x≠u->x≠v->x≠a->x≠b->al x≠u/\al x≠v/\al x≠a/\al x≠b:=fun x hx h1 h2 h3 h4=>by
  have i:=ha.inv x hx
  refine ⟨fun e=>h3 (by rw [←i,e,ea]),fun e=>h4 (by rw [←i,e,eb]),fun e=>h1 (by rw [←i,e,ia]),fun e=>h2 (by rw [←i,e,ib])⟩
 have ha':Mat N (det al u v):=by
  refine ⟨fun x hx=>?_,fun x hx=>?_,fun x hx=>?_⟩
  ·rcases dc x with rfl|rfl|rfl|rfl|⟨h1,h2,h3,h4⟩
   ·rw [du];exact hv
   ·rw [dv];exact hu
   ·rw [dxa];exact lb
   ·rw [dxb];exact la
   ·rw [dx x h1 h2 h3 h4];exact ha.lt x hx
  ·rcases dc x with rfl|rfl|rfl|rfl|⟨h1,h2,h3,h4⟩
   ·rw [du,dv]
   ·rw [dv,du]
   ·rw [dxa,dxb]
   ·rw [dxb,dxa]
   ·obtain ⟨k1,k2,k3,k4⟩:=dout x hx h1 h2 h3 h4
    rw [dx x h1 h2 h3 h4,dx _ k1 k2 k3 k4];exact ha.inv x hx
  ·rcases dc x with rfl|rfl|rfl|rfl|⟨h1,h2,h3,h4⟩
   ·rw [du];exact Ne.symm huv
   ·rw [dv];exact huv
   ·rw [dxa];exact Ne.symm nab
   ·rw [dxb];exact nab
   ·rw [dx x h1 h2 h3 h4];exact ha.ne x hx
 have hE:=yd9 hs ha
 have hE':=yd9 hs ha'
 have kuv:KK si al N u v:=by have:=K_si hs ha hu;rwa [s1] at this
 have kua:KK si al N u a:=by have:=K_al hs ha hu;rwa [ea] at this
 have kvb:KK si al N v b:=by have:=K_al hs ha hv;rwa [eb] at this
 have kab:KK si al N a b:=hE.trans _ _ _ la hu lb (hE.symm _ _ hu la kua) (hE.trans _ _ _ hu hv lb kuv kvb)
 have hsub: ∀x y,x<N->y<N->KK si (det al u v) N x y->KK si al N x y:=fun x y hx hy hk=>by
  refine ydj hs ha' hE (fun x hx=>K_si hs ha hx) (fun x hx=>?_) hx hy hk
  rcases dc x with rfl|rfl|rfl|rfl|⟨h1,h2,h3,h4⟩
  ·rw [du];exact kuv
  ·rw [dv];exact hE.symm _ _ hu hv kuv
  ·rw [dxa];exact kab
  ·rw [dxb];exact hE.symm _ _ la lb kab
  ·rw [dx x h1 h2 h3 h4];exact K_al hs ha hx
 have kab':KK si (det al u v) N a b:=by have:=K_al hs ha' la;rwa [dxa] at this
 have siuv: ∀x,x<N->((x=u\/x=v)↔(si x=u\/si x=v)):=fun x hx=>by
  constructor
  ·rintro (rfl|rfl)
   ·exact .inr s1
   ·exact .inl s2
  ·rintro (e|e)
   ·exact .inr (hs.inj x v hx hv (by rw [e,s2]))
   ·exact .inl (hs.inj x u hx hu (by rw [e,s1]))
 have hsup: ∀x y,x<N->y<N->x≠u->x≠v->y≠u->y≠v->KK si al N x y->KK si (det al u v) N x y:=fun x y hx hy x1 x2 y1 y2 hk=>by
  obtain ⟨r,hr⟩: ∃r:Nat->Nat,∀x,r x=if x=u then a else if x=v then b else x:=⟨_,fun _=>rfl⟩
  have ru:r u=a:=by rw [hr,if_pos rfl]
  have rv:r v=b:=by rw [hr,if_neg (Ne.symm huv),if_pos rfl]
  have ro: ∀x,x≠u->x≠v->r x=x:=fun x h1 h2=>by rw [hr,if_neg h1,if_neg h2]
  have rl: ∀x,x<N->r x<N:=fun x hx=>by
   rw [hr];split
   ·exact la
   ·split
    ·exact lb
    ·exact hx
  have key:KK si (det al u v) N (r x) (r y):=by
   refine ydj (R:=fun x y=>KK si (det al u v) N (r x) (r y)) hs ha ⟨fun x hx=>hE'.rfl' _ (rl x hx),fun x y hx hy e=>hE'.symm _ _ (rl x hx) (rl y hy) e,fun x y z hx hy hz e1 e2=>hE'.trans _ _ _ (rl x hx) (rl y hy) (rl z hz) e1 e2⟩ (fun x hx=>?_) (fun x hx=>?_) hx hy hk
   ·by_cases h1:x=u
    ·subst h1;rw [s1,ru,rv];exact kab'
    ·by_cases h2:x=v
     ·subst h2;rw [s2,ru,rv];exact hE'.symm _ _ la lb kab'
     ·have:=siuv x hx
      have h3: ¬(si x=u\/si x=v):=fun e=>by have:=this.2 e;omega
      rw [ro x h1 h2,ro (si x) (fun e=>h3 (.inl e)) (fun e=>h3 (.inr e))]
      exact K_si hs ha' hx
   ·rcases dc x with rfl|rfl|rfl|rfl|⟨h1,h2,h3,h4⟩
    ·rw [ea,ru,ro a nau nav];exact hE'.rfl' _ la
    ·rw [eb,rv,ro b nbu nbv];exact hE'.rfl' _ lb
    ·rw [ia,ru,ro x nau nav];exact hE'.rfl' _ la
    ·rw [ib,rv,ro x nbu nbv];exact hE'.rfl' _ lb
    ·obtain ⟨k1,k2,_,_⟩:=dout x hx h1 h2 h3 h4
     rw [ro x h1 h2,ro _ k1 k2]
     have:=K_al hs ha' hx
     rwa [dx x h1 h2 h3 h4] at this
  rwa [ro x x1 x2,ro y y1 y2] at key
 have huvc: ∀x y,x<N->y<N->KK si (det al u v) N x y->((x=u\/x=v)↔(y=u\/y=v)):=fun x y hx hy hk=>by
  refine ydj (R:=fun x y=>((x=u\/x=v)↔(y=u\/y=v))) hs ha' ⟨fun _ _=>Iff.rfl,fun _ _ _ _ e=>e.symm,fun _ _ _ _ _ _ e1 e2=>e1.trans e2⟩ (fun x hx=>siuv x hx) (fun x hx=>?_) hx hy hk
  rcases dc x with rfl|rfl|rfl|rfl|⟨h1,h2,h3,h4⟩
  ·rw [du];simp
  ·rw [dv];simp
  ·rw [dxa];simp [nau,nav,nbu,nbv]
  ·rw [dxb];simp [nau,nav,nbu,nbv]
  ·obtain ⟨k1,k2,_,_⟩:=dout x hx h1 h2 h3 h4
   rw [dx x h1 h2 h3 h4];simp [h1,h2,k1,k2]
 have hpm:=yb3 hs ha N (Nat.le_refl _)
 have hpm':=yb3 hs ha' N (Nat.le_refl _)
 have fa:phK si al N a=v:=by rw [ph_N ha la,ia,s1]
 obtain ⟨fx1,fx2⟩:=ypw hpm la nav fa
 have hq:=yc7 hpm la hv
 have fb:swp (phK si al N) a v b=u:=by unfold swp;rw [if_neg (Ne.symm nab),if_neg nbv,ph_N ha lb,ib,s2]
 obtain ⟨fx3,fx4⟩:=ypw hq lb nbu fb
 have hq2:=yc7 hq lb hu
 have hph: ∀x,x<N->swp (swp (phK si al N) a v) b u x=phK si (det al u v) N x:=fun x hx=>by
  rw [ph_N ha' hx]
  rcases dc x with rfl|rfl|rfl|rfl|⟨h1,h2,h3,h4⟩
  ·rw [du,s2];exact fx3
  ·rw [dv,s1]
   unfold swp;rw [if_neg (Ne.symm nbv),if_neg (Ne.symm huv)]
   exact fx1
  ·rw [dxa]
   unfold swp;rw [if_neg nab,if_neg nau,if_pos rfl,ph_N ha hv,eb]
  ·rw [dxb]
   unfold swp;rw [if_pos rfl,if_neg (Ne.symm nau),if_neg huv,ph_N ha hu,ea]
  ·rw [dx x h1 h2 h3 h4]
   unfold swp;rw [if_neg h4,if_neg h1,if_neg h3,if_neg h2,ph_N ha hx]
 have hsc: ∀x y,x<N->y<N->x≠u->x≠v->y≠u->y≠v->(SC (phK si al N) x y↔SC (phK si (det al u v) N) x y):=fun x y hx hy x1 x2 y1 y2=>
  (fx2 x y hx hy x2 y2).trans ((fx4 x y hx hy x1 y1).trans (ydv hq2 hph hx))
 refine ⟨hs,ha',fun r hr kV kF hkV hkF=>?_⟩
 by_cases hr2:r=u\/r=v
 ·--the circle of the two darts
  have hcl: ∀x,x<N->(KK si (det al u v) N r x↔(x=u\/x=v)):=fun x hx=>by
   refine ⟨fun e=>(huvc r x hr hx e).1 hr2,fun e=>?_⟩
   have kuv':KK si (det al u v) N u v:=by have:=K_si hs ha' hu;rwa [s1] at this
   rcases hr2 with rfl|rfl<;>rcases e with rfl|rfl
   ·exact hE'.rfl' _ hr
   ·exact kuv'
   ·exact hE'.symm _ _ hx hr kuv'
   ·exact hE'.rfl' _ hr
  have tV:Tr N (KK si (det al u v) N r) (SC si) [u]:=by
   refine ⟨fun x hx=>?_,by simp,fun x hx y hy _=>?_,fun x hx e=>⟨u,by simp,?_⟩⟩
   ·simp at hx;subst hx;exact ⟨hu,(hcl _ hu).2 (.inl rfl)⟩
   ·simp at hx hy;rw [hx,hy]
   ·rcases (hcl x hx).1 e with rfl|rfl
    ·exact .refl _ _
    ·exact ⟨1,s2⟩
  have fixu:phK si (det al u v) N u=u:=by rw [ph_N ha' hu,du,s2]
  have fixv:phK si (det al u v) N v=v:=by rw [ph_N ha' hv,dv,s1]
  have fixsc: ∀x y,phK si (det al u v) N x=x->SC (phK si (det al u v) N) x y->y=x:=fun x y hf ⟨k,hk⟩=>hk▸ym5 hf k
  have tF:Tr N (KK si (det al u v) N r) (SC (phK si (det al u v) N)) [u,v]:=by
   refine ⟨fun x hx=>?_,by simp [huv],fun x hx y hy e=>?_,fun x hx e=>?_⟩
   ·simp at hx
    rcases hx with rfl|rfl
    ·exact ⟨hu,(hcl _ hu).2 (.inl rfl)⟩
    ·exact ⟨hv,(hcl _ hv).2 (.inr rfl)⟩
   ·simp at hx
    rcases hx with rfl|rfl
    ·exact (fixsc _ _ fixu e).symm
    ·exact (fixsc _ _ fixv e).symm
   ·rcases (hcl x hx).1 e with rfl|rfl
    ·exact ⟨x,by simp, .refl _ _⟩
    ·exact ⟨x,by simp, .refl _ _⟩
  have e1:=tV.len_eq (SC.eqv hs) hkV
  have e2:=tF.len_eq (SC.eqv hpm') hkF
  have e3:=yek ha' (K_cl hs ha' hr).2
  have e4:cU (KK si (det al u v) N r) N=2:=by
   rw [ykv hcl,yut (fun x _ e1 e2=>huv (e1.symm.trans e2)),yiq,yiq,if_pos hu,if_pos hv]
  simp at e1 e2
  omega
 ·have r1:r≠u:=fun e=>hr2 (.inl e)
  have r2:r≠v:=fun e=>hr2 (.inr e)
  have hnu: ∀x,x<N->KK si (det al u v) N r x->x≠u/\x≠v:=fun x hx e=>by
   have:=(huvc r x hr hx e)
   exact ⟨fun g=>hr2 (this.2 (.inl g)),fun g=>hr2 (this.2 (.inr g))⟩
  have hcl: ∀x,x<N->x≠u->x≠v->(KK si (det al u v) N r x↔KK si al N r x):=fun x hx x1 x2=>⟨hsub r x hr hx,hsup r x hr hx r1 r2 x1 x2⟩
  by_cases hru:KK si al N r u
  ·have hrv:=hE.trans _ _ _ hr hu hv hru kuv
   have hra:=hE.trans _ _ _ hr hu la hru kua
   have hrb:=hE.trans _ _ _ hr hv lb hrv kvb
   have tV:Tr N (KK si al N r) (SC si) (u::kV):=by
    refine ⟨fun x hx=>?_,?_,fun x hx y hy e=>?_,fun x hx e=>?_⟩
    ·rcases List.mem_cons.1 hx with rfl|g
     ·exact ⟨hu,hru⟩
     ·exact ⟨(hkV.mem x g).1,hsub r x hr (hkV.mem x g).1 (hkV.mem x g).2⟩
    ·exact List.nodup_cons.2 ⟨fun g=>(hnu u hu (hkV.mem u g).2).1 rfl,hkV.nodup⟩
    ·have hsik: ∀k,itn si k u=u\/itn si k u=v:=fun k=>by
      induction k with
      |zero=>exact .inl rfl
      |succ k ih=>exact (siuv _ (hs.itn_lt hu k)).1 ih
     have hsiu: ∀z,SC si u z->z=u\/z=v:=fun z ⟨k,hk⟩=>hk▸hsik k
     rcases List.mem_cons.1 hx with rfl|g<;>rcases List.mem_cons.1 hy with rfl|k
     ·rfl
     ·have:=hnu y (hkV.mem y k).1 (hkV.mem y k).2
      have:=hsiu y e
      omega
     ·have:=hnu x (hkV.mem x g).1 (hkV.mem x g).2
      have:=hsiu x (e.symm hs (hkV.mem x g).1)
      omega
     ·exact hkV.apart x g y k e
    ·by_cases x1:x=u
     ·exact ⟨u,by simp,by rw [x1];exact .refl _ _⟩
     ·by_cases x2:x=v
      ·exact ⟨u,by simp,by rw [x2];exact ⟨1,s2⟩⟩
      ·obtain ⟨y,h1,h2⟩:=hkV.all x hx ((hcl x hx x1 x2).2 e)
       exact ⟨y,by simp [h1],h2⟩
   have tF:Tr N (KK si al N r) (SC (phK si al N)) kF:=by
    refine ⟨fun x hx=>⟨(hkF.mem x hx).1,hsub r x hr (hkF.mem x hx).1 (hkF.mem x hx).2⟩,hkF.nodup,fun x hx y hy e=>?_,fun x hx e=>?_⟩
    ·have nx:=hnu x (hkF.mem x hx).1 (hkF.mem x hx).2
     have ny:=hnu y (hkF.mem y hy).1 (hkF.mem y hy).2
     exact hkF.apart x hx y hy ((hsc x y (hkF.mem x hx).1 (hkF.mem y hy).1 nx.1 nx.2 ny.1 ny.2).1 e)
    ·have step: ∀z,z<N->z≠u->z≠v->KK si al N r z-> ∃y,y∈kF/\SC (phK si al N) z y:=fun z hz z1 z2 ez=>by
      obtain ⟨y,h1,h2⟩:=hkF.all z hz ((hcl z hz z1 z2).2 ez)
      have ny:=hnu y (hkF.mem y h1).1 (hkF.mem y h1).2
      exact ⟨y,h1,(hsc z y hz (hkF.mem y h1).1 z1 z2 ny.1 ny.2).2 h2⟩
     by_cases x1:x=u
     ·obtain ⟨y,h1,h2⟩:=step b lb nbu nbv hrb
      refine ⟨y,h1,?_⟩
      have:SC (phK si al N) b u:=⟨1,by show phK si al N b=u;rw [ph_N ha lb,ib,s2]⟩
      rw [x1];exact (this.symm hpm lb).trans h2
     ·by_cases x2:x=v
      ·obtain ⟨y,h1,h2⟩:=step a la nau nav hra
       refine ⟨y,h1,?_⟩
       have:SC (phK si al N) a v:=⟨1,fa⟩
       rw [x2];exact (this.symm hpm la).trans h2
      ·exact step x hx x1 x2 e
   have e0:=h.eq r hr _ _ tV tF
   have e1:=yek ha (K_cl hs ha hr).2
   have e2:=yek ha' (K_cl hs ha' hr).2
   have e3:cU (KK si al N r) N=cU (KK si (det al u v) N r) N+2:=by
    have c1:cU (KK si al N r) N=cU (fun x=>KK si (det al u v) N r x\/(x=u\/x=v)) N:=ykv fun x hx=>by
     by_cases x1:x=u
     ·subst x1;exact ⟨fun _=> .inr (.inl rfl),fun _=>hru⟩
     ·by_cases x2:x=v
      ·subst x2;exact ⟨fun _=> .inr (.inr rfl),fun _=>hrv⟩
      ·rw [hcl x hx x1 x2];simp [x1,x2]
    rw [c1,yut (fun x hx e1 e2=>by have:=hnu x hx e1;omega),yut (fun x _ e1 e2=>huv (e1.symm.trans e2)),yiq,yiq,if_pos hu,if_pos hv]
   simp only [List.length_cons] at e0
   omega
  ·have hnot: ∀x,x<N->KK si al N r x->x≠u/\x≠v/\x≠a/\x≠b:=fun x hx e=>by
    refine ⟨fun g=>?_,fun g=>?_,fun g=>?_,fun g=>?_⟩
    ·subst g;exact hru e
    ·subst g;exact hru (hE.trans _ _ _ hr hx hu e (hE.symm _ _ hu hx kuv))
    ·subst g;exact hru (hE.trans _ _ _ hr hx hu e (hE.symm _ _ hu hx kua))
    ·subst g;exact hru (hE.trans _ _ _ hr hx hu e (hE.trans _ _ _ hx hv hu (hE.symm _ _ hv hx kvb) (hE.symm _ _ hu hv kuv)))
   have hcl2: ∀x,x<N->(KK si (det al u v) N r x↔KK si al N r x):=fun x hx=>by
    refine ⟨hsub r x hr hx,fun e=>?_⟩
    have:=hnot x hx e
    exact (hcl x hx this.1 this.2.1).2 e
   have tV:Tr N (KK si al N r) (SC si) kV:=hkV.congrU hcl2 (fun _ _ _ _ _ _=>Iff.rfl)
   have tF:Tr N (KK si al N r) (SC (phK si al N)) kF:=hkF.congrU hcl2 (fun x y hx hy e1 e2=>by
    have n1:=hnot x hx ((hcl2 x hx).1 e1)
    have n2:=hnot y hy ((hcl2 y hy).1 e2)
    exact (hsc x y hx hy n1.1 n1.2.1 n2.1 n2.2.1).symm)
   have e0:=h.eq r hr _ _ tV tF
   rw [e0]
   congr 1
   exact yej fun x hx=>by
    rw [hcl2 x hx]
    constructor
    ·rintro ⟨g1,g2⟩
     have:=hnot x hx g1
     exact ⟨g1,by rw [dx x this.1 this.2.1 this.2.2.1 this.2.2.2];exact g2⟩
    ·rintro ⟨g1,g2⟩
     have:=hnot x hx g1
     exact ⟨g1,by rw [dx x this.1 this.2.1 this.2.2.1 this.2.2.2] at g2;exact g2⟩
end
end Sp
end Go.Proofs.YtfgbnalnbdhimaaGreatDoor
namespace Go.Proofs.YtfgbnalnbdhimaaGreatDoor
namespace Sp
open Classical
def siD (x:Nat):Nat:=x-x % 4+(x % 4+3)% 4
def alD (m:List Int) (x:Nat):Nat:=(m.getD x 0).toNat
theorem yg6 (x:Nat):siD x/4=x/4:=by unfold siD;omega
theorem yb4 (n:Nat):yav (4*n) siD:=⟨fun x hx=>by unfold siD;omega,fun x y hx hy e=>by unfold siD at e;omega⟩
theorem yir {x y:Nat}:SC siD x y↔x/4=y/4:=by
 constructor
 ·rintro ⟨k,rfl⟩
  induction k with
  |zero=>rfl
  |succ k ih=>simp only [itn];rw [yg6];exact ih
 ·intro e
  refine ⟨(x % 4+4-y % 4)% 4,?_⟩
  have h4:x % 4=0\/x % 4=1\/x % 4=2\/x % 4=3:=by omega
  have k4:y % 4=0\/y % 4=1\/y % 4=2\/y % 4=3:=by omega
  rcases h4 with h|h|h|h<;>rcases k4 with k|k|k|k<;>rw [h,k]<;>first|(simp only [itn,siD];omega)|(show x=y;omega)
section
variable {m:List Int} {n:Nat}
structure Dia (m:List Int) (n:Nat):Prop where
 prd:yao m n
 ne: ∀h:Nat,h<4*n->m.getD h 0≠h
theorem Dia.cast (h:Dia m n) {x:Nat} (hx:x<4*n):((alD m x:Nat):Int)=m.getD x 0:=by
 have:=h.prd.ok.2 x hx;unfold alD;omega
theorem Dia.mat (h:Dia m n):Mat (4*n) (alD m):=by
 refine ⟨fun x hx=>?_,fun x hx=>?_,fun x hx=>?_⟩
 ·have:=h.prd.ok.2 x hx;unfold alD;omega
 ·have:=h.prd.inv x hx;unfold alD;rw [this];simp
 ·intro e;exact h.ne x hx (by rw [←h.cast hx,e])
theorem Dia.conn (h:Dia m n) {x y:Nat} (hx:x<4*n) (hy:y<4*n):KK siD (alD m) (4*n) x y↔Conn m (x/4) (y/4):=by
 have hs:=yb4 n
 have ha:=h.mat
 have hE:=yd9 hs ha
 constructor
 ·refine fun hk=>ydj (R:=fun x y=>Conn m (x/4) (y/4)) hs ha ⟨fun _ _=> .refl _,fun x y hx _ e=>e.symm h.prd (by omega),fun _ _ _ _ _ _ e1 e2=>e1.trans e2⟩ (fun x _=>?_) (fun x hx=>?_) hx hy hk
  ·rw [yg6];exact .refl _
  ·have:alD m x/4=nb m (x/4) (x % 4):=by
    unfold nb alD
    rw [show 4*(x/4)+x % 4=x by omega]
    have:=h.prd.ok.2 x hx
    omega
   rw [this]
   exact .step _ (by omega) (.refl _)
 ·have key: ∀{a b:Nat},Conn m a b->a<n-> ∀x y,x/4=a->y/4=b->KK siD (alD m) (4*n) x y:=fun {a b} hc han=>by
   induction hc with
   |refl=>intro x y hx hy;exact K_sc hs ha (by omega) (yir.2 (by omega))
   | @step b s h4 hc ih=>
     intro x y hx hy
     have hb:=hc.lt h.prd han
     have h1:=ih x (4*b+s) hx (by omega)
     have h2:=K_al hs ha (x:=4*b+s) (by omega)
     have hl:=ha.lt (4*b+s) (by omega)
     have h3:alD m (4*b+s)/4=nb m b s:=by
      unfold nb alD
      have:=h.prd.ok.2 (4*b+s) (by omega)
      omega
     have hyl:y<4*n:=by omega
     exact hE.trans _ _ _ (by omega) (by omega) hyl h1 (hE.trans _ _ _ (by omega) hl hyl h2 (K_sc hs ha hl (yir.2 (by omega))))
  intro hc
  exact key hc (by omega) x y rfl rfl
theorem Dia.it (h:Dia m n) {x:Nat} (hx:x<4*n): ∀k,it (ybg m) k x=(itn (phK siD (alD m) (4*n)) k x:Nat)
 |0=>rfl
 |k+1=>by
  have hl:=(yb3 (yb4 n) h.mat (4*n) (Nat.le_refl _)).itn_lt hx k
  simp only [itn,Go.Proofs.YtfgbnalnbdhimaaGreatDoor.it]
  rw [h.it hx k,ph_N h.mat hl]
  generalize itn (phK siD (alD m) (4*n)) k x=z at*
  unfold ybg
  rw [Int.toNat_natCast,ye1,←h.cast hl]
  unfold siD
  omega
theorem Dia.face (h:Dia m n) {x y:Nat} (hx:x<4*n):(y:Int)∈orbF (ybg m) m.length x↔SC (phK siD (alD m) (4*n)) x y:=by
 have hml:=h.prd.ok.1
 have ho:=(yd0 (ygo h.prd) (x:=x) (by unfold InR;omega)).1 y
 rw [hml,ho]
 constructor
 ·rintro ⟨j,e⟩;rw [h.it hx j] at e;exact ⟨j,by omega⟩
 ·rintro ⟨j,e⟩;exact ⟨j,by rw [h.it hx j,e]⟩
theorem ysp (P:Nat->Prop): ∀n,cU (fun x=>P (x/4)) (4*n)=4*cU P n
 |0=>by simp [cU]
 |n+1=>by
  rw [show 4*(n+1)=4*n+1+1+1+1 by omega,ydk,ydk,ydk,ydk,ysp P n,ydk]
  rw [show 4*n/4=n by omega,show (4*n+1)/4=n by omega,show (4*n+1+1)/4=n by omega,show (4*n+1+1+1)/4=n by omega]
  split<;>omega
theorem Dia.vert (h:Dia m n) {a:Nat} (ha:a<n) {u:Int} (hu: ∀b,b<n->((rlP m n n).getD b 0=u↔Conn m a b)) {r:Nat} (hr:r/4=a):
  (∃l,Tr (4*n) (KK siD (alD m) (4*n) r) (SC siD) l/\l.length=cntV (rlP m n n) n u)/\cU (KK siD (alD m) (4*n) r) (4*n)=4*cntV (rlP m n n) n u:=by
 have hrl:r<4*n:=by omega
 have hcon: ∀x,x<4*n->(KK siD (alD m) (4*n) r x↔(rlP m n n).getD (x/4) 0=u):=fun x hx=>by
  rw [h.conn hrl hx,hr,hu (x/4) (by omega)]
 refine ⟨⟨((List.range n).filter fun c=>(rlP m n n).getD c 0==u).map (4* ·),⟨fun x hx=>?_,?_,fun x hx y hy e=>?_,fun x hx e=>?_⟩,?_⟩,?_⟩
 ·obtain ⟨c,hc,rfl⟩:=List.mem_map.1 hx
  have h1:=List.mem_filter.1 hc
  have h2:=List.mem_range.1 h1.1
  refine ⟨by omega,(hcon _ (by omega)).2 ?_⟩
  rw [show 4*c/4=c by omega]
  simpa using h1.2
 ·exact List.Pairwise.map _ (fun a b hab e=>hab (by omega)) (List.nodup_range.filter _)
 ·obtain ⟨c,_,rfl⟩:=List.mem_map.1 hx
  obtain ⟨d,_,rfl⟩:=List.mem_map.1 hy
  have:=yir.1 e
  omega
 ·refine ⟨4*(x/4),List.mem_map.2 ⟨x/4,List.mem_filter.2 ⟨List.mem_range.2 (by omega),by simpa using (hcon x hx).1 e⟩,rfl⟩,yir.2 (by omega)⟩
 ·rw [List.length_map,←List.countP_eq_length_filter];rfl
 ·rw [ykv hcon,ysp (fun c=>(rlP m n n).getD c 0=u)]
  congr 1
  unfold cU cntV
  refine List.countP_congr fun c _=>?_
  simp
theorem Dia.fcs (h:Dia m n) {a:Nat} (ha:a<n) {u:Int} (hu: ∀b,b<n->((rlP m n n).getD b 0=u↔Conn m a b)) {r:Nat} (hr:r/4=a):
  ∃l,Tr (4*n) (KK siD (alD m) (4*n) r) (SC (phK siD (alD m) (4*n))) l/\l.length=cntF m (rlP m n n) (4*n) u:=by
 have hrl:r<4*n:=by omega
 have hcon: ∀x,x<4*n->(KK siD (alD m) (4*n) r x↔(rlP m n n).getD (x/4) 0=u):=fun x hx=>by
  rw [h.conn hrl hx,hr,hu (x/4) (by omega)]
 have hpm:=yb3 (yb4 n) h.mat (4*n) (Nat.le_refl _)
 have hfl: ∀x,x<4*n->(fl m x=true↔ ∀y,SC (phK siD (alD m) (4*n)) x y->x<=y):=fun x hx=>by
  unfold fl
  rw [yhp]
  constructor
  ·intro hl y hy
   have:=hl y ((h.face hx).2 hy)
   omega
  ·intro hl y hy
   have hy2:=(yd0 (ygo h.prd) (x:=x) (by unfold InR;omega)).2.1 y (by rw [h.prd.ok.1] at hy;exact hy)
   unfold InR at hy2
   obtain ⟨z,rfl⟩: ∃z:Nat,y=z:=⟨y.toNat,by omega⟩
   have:=hl z ((h.face hx).1 hy)
   omega
 refine ⟨(List.range (4*n)).filter fun i=>fl m i&&(rlP m n n).getD (i/4) 0==u,⟨fun x hx=>?_,List.nodup_range.filter _,fun x hx y hy e=>?_,fun x hx e=>?_⟩,?_⟩
 ·have h1:=List.mem_filter.1 hx
  have h2:=List.mem_range.1 h1.1
  refine ⟨h2,(hcon x h2).2 ?_⟩
  have:=h1.2
  rw [Bool.and_eq_true] at this
  simpa using this.2
 ·have h1:=List.mem_filter.1 hx
  have h2:=List.mem_filter.1 hy
  have l1:=List.mem_range.1 h1.1
  have l2:=List.mem_range.1 h2.1
  have f1:=(hfl x l1).1 ((Bool.and_eq_true _ _▸h1.2).1)
  have f2:=(hfl y l2).1 ((Bool.and_eq_true _ _▸h2.2).1)
  have:=f1 y e
  have:=f2 x (e.symm hpm l1)
  omega
 ·have key: ∀k x,x<k->x<4*n->(rlP m n n).getD (x/4) 0=u-> ∃y,y∈((List.range (4*n)).filter fun i=>fl m i&&(rlP m n n).getD (i/4) 0==u)/\SC (phK siD (alD m) (4*n)) x y:=fun k=>by
   induction k with
   |zero=>intro x h;omega
   |succ k ih=>
    intro x hk hx hux
    by_cases hl: ∃y,SC (phK siD (alD m) (4*n)) x y/\y<x
    ·obtain ⟨y,h1,h2⟩:=hl
     have hyl:y<4*n:=by omega
     have huy:(rlP m n n).getD (y/4) 0=u:=by
      have hk1:=K_ph (yb4 n) h.mat hx h1
      have:=(hcon x hx).2 hux
      exact (hcon y hyl).1 ((yd9 (yb4 n) h.mat).trans _ _ _ hrl hx hyl this hk1)
     obtain ⟨z,h3,h4⟩:=ih y (by omega) hyl huy
     exact ⟨z,h3,h1.trans h4⟩
    ·refine ⟨x,List.mem_filter.2 ⟨List.mem_range.2 hx,?_⟩, .refl _ _⟩
     rw [Bool.and_eq_true]
     exact ⟨(hfl x hx).2 fun y hy=>Nat.le_of_not_lt fun hlt=>hl ⟨y,hy,hlt⟩,by simpa using hux⟩
  exact key (x+1) x (by omega) hx ((hcon x hx).1 e)
 ·rw [←List.countP_eq_length_filter];rfl
theorem Dia.sph (h:Dia m n):sphR m n=true↔Sph (4*n) siD (alD m):=by
 have hpm:=yb3 (yb4 n) h.mat (4*n) (Nat.le_refl _)
 rw [ypi]
 constructor
 ·intro hr
  refine ⟨yb4 n,h.mat,fun r hrl lV lF hV hF=>?_⟩
  obtain ⟨u,hu,hc,hiff⟩:=yms h.prd (a:=r/4) (by omega)
  have e0:=hr u hu ((hiff u hu).2 (hc.symm h.prd hu))
  obtain ⟨⟨l1,t1,n1⟩,hcU⟩:=h.vert (a:=r/4) (by omega) hiff rfl
  obtain ⟨l2,t2,n2⟩:=h.fcs (a:=r/4) (by omega) hiff rfl
  have e1:=hV.len_eq (SC.eqv (yb4 n)) t1
  have e2:=hF.len_eq (SC.eqv hpm) t2
  have e3:=yek h.mat (K_cl (yb4 n) h.mat hrl).2
  omega
 ·intro hS c hc hlab
  obtain ⟨u,hu,hcc,hiff⟩:=yms h.prd (a:=c) hc
  have huc:(u:Int)=c:=by rw [←hlab];exact ((hiff c hc).2 (.refl _)).symm
  have huc':u=c:=by omega
  subst huc'
  obtain ⟨⟨l1,t1,n1⟩,hcU⟩:=h.vert (a:=u) hc hiff (r:=4*u) (by omega)
  obtain ⟨l2,t2,n2⟩:=h.fcs (a:=u) hc hiff (r:=4*u) (by omega)
  have e0:=hS.eq (4*u) (by omega) l1 l2 t1 t2
  have e3:=yek h.mat (K_cl (yb4 n) h.mat (r:=4*u) (by omega)).2
  omega
end
end Sp
end Go.Proofs.YtfgbnalnbdhimaaGreatDoor
namespace Go.Proofs.YtfgbnalnbdhimaaGreatDoor
namespace Sp
open Classical
section
variable {N N':Nat} {si al si' al' io:Nat->Nat}
def eqAt (N:Nat) (si al:Nat->Nat) (r:Nat):Prop:= ∀lV lF,Tr N (KK si al N r) (SC si) lV->Tr N (KK si al N r) (SC (phK si al N)) lF->lV.length+lF.length=2+eU al (KK si al N r) N
theorem y0p (hs:yav N si) (ha:Mat N al) (il: ∀x,x<N'->io x<N) (ii: ∀x y,x<N'->y<N'->io x=io y->x=y) (ls: ∀x,x<N'->si' x<N') (la: ∀x,x<N'->al' x<N')
  (es: ∀x,x<N'->io (si' x)=si (io x)) (ea: ∀x,x<N'->io (al' x)=al (io x)):yav N' si'/\Mat N' al'/\ ∀r,r<N'->(eqAt N si al (io r)↔eqAt N' si' al' r):=by
 have hs':yav N' si':=⟨ls,fun x y hx hy e=>ii x y hx hy (hs.inj _ _ (il x hx) (il y hy) (by rw [←es x hx,←es y hy,e]))⟩
 have ha':Mat N' al':=by
  refine ⟨la,fun x hx=>ii _ _ (la _ (la x hx)) hx (by rw [ea _ (la x hx),ea x hx];exact ha.inv _ (il x hx)),fun x hx e=>ha.ne _ (il x hx) (by rw [←ea x hx,e])⟩
 have hE:=yd9 hs ha
 have hE':=yd9 hs' ha'
 have hpm:=yb3 hs ha N (Nat.le_refl _)
 have hpm':=yb3 hs' ha' N' (Nat.le_refl _)
 have hit: ∀{f f':Nat->Nat} (_: ∀x,x<N'->f' x<N') (_: ∀x,x<N'->io (f' x)=f (io x)) (x y:Nat),x<N'->y<N'->(SC f' x y↔SC f (io x) (io y)):=fun {f f'} hl he x y hx hy=>by
  have hk: ∀k,itn f' k x<N'/\io (itn f' k x)=itn f k (io x):=fun k=>by
   induction k with
   |zero=>exact ⟨hx,rfl⟩
   |succ k ih=>exact ⟨hl _ ih.1,by simp only [itn];rw [he _ ih.1,ih.2]⟩
  constructor
  ·rintro ⟨k,rfl⟩;exact ⟨k,(hk k).2.symm⟩
  ·rintro ⟨k,e⟩;exact ⟨k,ii _ _ (hk k).1 hy (by rw [(hk k).2,e])⟩
 have hsi:=hit ls es
 have hph:=hit (f:=phK si al N) (f':=phK si' al' N') (fun x hx=>hpm'.lt x hx) (fun x hx=>by
  rw [ph_N ha' hx,ph_N ha (il x hx),es _ (la x hx),ea x hx])
 have him: ∀u,u<N->((∃x,x<N'/\io x=u)↔(∃x,x<N'/\io x=si u)):=fun u hu=>by
  constructor
  ·rintro ⟨x,hx,rfl⟩;exact ⟨si' x,ls x hx,es x hx⟩
  ·rintro ⟨x,hx,e⟩
   obtain ⟨k,hk⟩:=(SC.step si u).symm hs hu
   rw [←e] at hk
   have: ∀k,∃y,y<N'/\io y=itn si k (io x):=fun k=>by
    induction k with
    |zero=>exact ⟨x,hx,rfl⟩
    |succ k ih=>obtain ⟨y,hy,e⟩:=ih;exact ⟨si' y,ls y hy,by rw [es y hy,e];rfl⟩
   obtain ⟨y,hy,e2⟩:=this k
   exact ⟨y,hy,by rw [e2,hk]⟩
 have hia: ∀u,u<N->((∃x,x<N'/\io x=u)↔(∃x,x<N'/\io x=al u)):=fun u hu=>by
  constructor
  ·rintro ⟨x,hx,rfl⟩;exact ⟨al' x,la x hx,ea x hx⟩
  ·rintro ⟨x,hx,e⟩;exact ⟨al' x,la x hx,by rw [ea x hx,e];exact ha.inv u hu⟩
 have hKR:EqvN N (fun u v=>((∃x,x<N'/\io x=u)↔(∃y,y<N'/\io y=v))/\ ∀x y,x<N'->y<N'->io x=u->io y=v->KK si' al' N' x y):=by
  refine ⟨fun u _=>⟨Iff.rfl,fun x y hx hy e1 e2=>?_⟩,fun u v _ _ e=>⟨e.1.symm,fun x y hx hy e1 e2=>hE'.symm _ _ hy hx (e.2 y x hy hx e2 e1)⟩,fun u v w _ _ _ e1 e2=>⟨e1.1.trans e2.1,fun x y hx hy g1 g2=>?_⟩⟩
  ·have:=ii x y hx hy (by rw [e1,e2]);subst this;exact hE'.rfl' _ hx
  ·obtain ⟨z,hz,e⟩:=e1.1.1 ⟨x,hx,g1⟩
   exact hE'.trans _ _ _ hx hz hy (e1.2 x z hx hz g1 e) (e2.2 z y hz hy e g2)
 have hK: ∀x y,x<N'->y<N'->(KK si' al' N' x y↔KK si al N (io x) (io y)):=fun x y hx hy=>by
  constructor
  ·refine fun hk=>ydj (R:=fun x y=>KK si al N (io x) (io y)) hs' ha' ⟨fun x hx=>hE.rfl' _ (il x hx),fun x y hx hy e=>hE.symm _ _ (il x hx) (il y hy) e,fun x y z hx hy hz e1 e2=>hE.trans _ _ _ (il x hx) (il y hy) (il z hz) e1 e2⟩ (fun x hx=>?_) (fun x hx=>?_) hx hy hk
   ·rw [es x hx];exact K_si hs ha (il x hx)
   ·rw [ea x hx];exact K_al hs ha (il x hx)
  ·intro hk
   refine (ydj hs ha hKR (fun u hu=>⟨him u hu,fun x y hx hy e1 e2=>?_⟩) (fun u hu=>⟨hia u hu,fun x y hx hy e1 e2=>?_⟩) (il x hx) (il y hy) hk).2 x y hx hy rfl rfl
   ·have:y=si' x:=ii _ _ hy (ls x hx) (by rw [e2,es x hx,e1])
    subst this;exact K_si hs' ha' hx
   ·have:y=al' x:=ii _ _ hy (la x hx) (by rw [e2,ea x hx,e1])
    subst this;exact K_al hs' ha' hx
 have hcov: ∀r,r<N'-> ∀u,u<N->KK si al N (io r) u-> ∃x,x<N'/\io x=u:=fun r hr u hu hk=>
  (ydj (R:=fun u v=>((∃x,x<N'/\io x=u)↔(∃y,y<N'/\io y=v))) hs ha ⟨fun _ _=>Iff.rfl,fun _ _ _ _ e=>e.symm,fun _ _ _ _ _ _ e1 e2=>e1.trans e2⟩ him hia (il r hr) hu hk).1 ⟨r,hr,rfl⟩
 have htr: ∀{E E':Nat->Nat->Prop} (_: ∀x y,x<N'->y<N'->(E' x y↔E (io x) (io y))) (r:Nat) (l:List Nat),r<N'->Tr N' (KK si' al' N' r) E' l->Tr N (KK si al N (io r)) E (l.map io):=fun {E E'} he r l hr ht=>by
  refine ⟨fun u hu=>?_,?_,fun u hu v hv e=>?_,fun u hu hk=>?_⟩
  ·obtain ⟨x,hx,rfl⟩:=List.mem_map.1 hu
   exact ⟨il x (ht.mem x hx).1,(hK r x hr (ht.mem x hx).1).1 (ht.mem x hx).2⟩
  ·rw [List.Nodup,List.pairwise_map]
   refine List.Pairwise.imp_of_mem ?_ ht.nodup
   intro x y hx hy hne e
   exact hne (ii x y (ht.mem x hx).1 (ht.mem y hy).1 e)
  ·obtain ⟨x,hx,rfl⟩:=List.mem_map.1 hu
   obtain ⟨y,hy,rfl⟩:=List.mem_map.1 hv
   rw [ht.apart x hx y hy ((he x y (ht.mem x hx).1 (ht.mem y hy).1).2 e)]
  ·obtain ⟨x,hx,rfl⟩:=hcov r hr u hu hk
   obtain ⟨y,h1,h2⟩:=ht.all x hx ((hK r x hr hx).2 hk)
   exact ⟨io y,List.mem_map.2 ⟨y,h1,rfl⟩,(he x y hx (ht.mem y h1).1).1 h2⟩
 refine ⟨hs',ha',fun r hr=>?_⟩
 have e1:=yek ha (K_cl hs ha (il r hr)).2
 have e2:=yek ha' (K_cl hs' ha' hr).2
 have e3:cU (KK si al N (io r)) N=cU (KK si' al' N' r) N':=by
  unfold cU
  rw [List.countP_eq_length_filter,List.countP_eq_length_filter]
  have m1: ∀u,u∈((List.range N).filter fun x=>decide (KK si al N (io r) x))↔u<N/\KK si al N (io r) u:=fun u=>by simp [List.mem_filter]
  have m2: ∀u,u∈((List.range N').filter fun x=>decide (KK si' al' N' r x))↔u<N'/\KK si' al' N' r u:=fun u=>by simp [List.mem_filter]
  refine Nat.le_antisymm ?_ ?_
  ·have hch: ∀u,∃x,(u<N/\KK si al N (io r) u)->(x<N'/\io x=u):=fun u=>by
    by_cases hu:u<N/\KK si al N (io r) u
    ·obtain ⟨x,h1,h2⟩:=hcov r hr u hu.1 hu.2;exact ⟨x,fun _=>⟨h1,h2⟩⟩
    ·exact ⟨0,fun e=>absurd e hu⟩
   obtain ⟨g,hg⟩:=Classical.axiomOfChoice hch
   refine yfk _ _ g (List.nodup_range.filter _) (fun u hu=>?_) (fun u hu v hv e=>?_)
   ·have h1:=(m1 u).1 hu
    have h2:=hg u h1
    exact (m2 _).2 ⟨h2.1,(hK r _ hr h2.1).2 (by rw [h2.2];exact h1.2)⟩
   ·have h1:=hg u ((m1 u).1 hu)
    have h2:=hg v ((m1 v).1 hv)
    rw [←h1.2,←h2.2,e]
  ·refine yfk _ _ io (List.nodup_range.filter _) (fun x hx=>?_) (fun x hx y hy e=>ii x y ((m2 x).1 hx).1 ((m2 y).1 hy).1 e)
   have h1:=(m2 x).1 hx
   exact (m1 _).2 ⟨il x h1.1,(hK r x hr h1.1).1 h1.2⟩
 constructor
 ·intro h lV lF hV hF
  have e0:=h _ _ (htr hsi r lV hr hV) (htr hph r lF hr hF)
  rw [List.length_map,List.length_map] at e0
  omega
 ·intro h lV lF hV hF
  obtain ⟨lV',hV'⟩:=Tr.exists (SC.eqv hs') (KK si' al' N' r)
  obtain ⟨lF',hF'⟩:=Tr.exists (SC.eqv hpm') (KK si' al' N' r)
  have e0:=h _ _ hV' hF'
  have g1:=hV.len_eq (SC.eqv hs) (htr hsi r lV' hr hV')
  have g2:=hF.len_eq (SC.eqv hpm) (htr hph r lF' hr hF')
  rw [List.length_map] at g1 g2
  omega
theorem Sph.embed (h:Sph N si al) (il: ∀x,x<N'->io x<N) (ii: ∀x y,x<N'->y<N'->io x=io y->x=y) (ls: ∀x,x<N'->si' x<N') (la: ∀x,x<N'->al' x<N')
  (es: ∀x,x<N'->io (si' x)=si (io x)) (ea: ∀x,x<N'->io (al' x)=al (io x)):Sph N' si' al':=by
 obtain ⟨h1,h2,h3⟩:=y0p h.perm h.mat il ii ls la es ea
 exact ⟨h1,h2,fun r hr=>(h3 r hr).1 (h.eq (io r) (il r hr))⟩
end
end Sp
end Go.Proofs.YtfgbnalnbdhimaaGreatDoor
namespace Go.Proofs.YtfgbnalnbdhimaaGreatDoor
namespace Sp
open Classical
def fol (al:Nat->Nat) (u v x:Nat):Nat:=if x=u then al v else if x=v then al u else x
def detO (al:Nat->Nat) (u v:Nat):Nat->Nat:=if al u=v then al else det al u v
section
variable {N:Nat} {si al:Nat->Nat}
theorem ypx (ha:Mat N al) {u v h:Nat} (hu:u<N) (hv:v<N) (huv:u≠v) (hh:h<N) (h1:h≠u) (h2:h≠v):detO al u v h=fol al u v (al h):=by
 have ih:=ha.inv h hh
 unfold detO fol
 by_cases e:al u=v
 ·rw [if_pos e]
  have n1:al h≠u:=fun g=>h2 (by rw [←ih,g,e])
  have n2:al h≠v:=fun g=>h1 (by rw [←ih,g,←e,ha.inv u hu])
  rw [if_neg n1,if_neg n2]
 ·rw [if_neg e]
  unfold det
  rw [if_neg h1,if_neg h2]
  by_cases g1:h=al u
  ·rw [if_pos g1,if_pos (by rw [g1,ha.inv u hu])]
  ·rw [if_neg g1]
   have n1:al h≠u:=fun g=>g1 (by rw [←ih,g])
   rw [if_neg n1]
   by_cases g2:h=al v
   ·rw [if_pos g2,if_pos (by rw [g2,ha.inv v hv])]
   ·rw [if_neg g2,if_neg (fun g=>g2 (by rw [←ih,g]))]
theorem Sph.detO (h:Sph N si al) {u v:Nat} (hu:u<N) (hv:v<N) (huv:u≠v) (s1:si u=v) (s2:si v=u):Sph N si (detO al u v):=by
 unfold Sp.detO
 by_cases e:al u=v
 ·rw [if_pos e];exact h
 ·rw [if_neg e];exact h.detach hu hv huv s1 s2 e
end
theorem follow {u1 v1 u2 v2 h:Nat} {al T:Nat->Nat} {O:Nat->Prop} (i: ∀x,x=u1\/x=v1\/x=u2\/x=v2\/x=h->al (al x)=x/\al x≠x) (d:u1≠v1/\u1≠u2/\u1≠v2/\v1≠u2/\v1≠v2/\u2≠v2)
  (hh:h≠u1/\h≠v1/\h≠u2/\h≠v2) (T1:T u1=al v1) (T2:T v1=al u1) (T3:T u2=al v2) (T4:T v2=al u2) (TO: ∀x,x≠u1->x≠v1->x≠u2->x≠v2->T x=x):
  (if fol al u1 v1 (al h)=u2 then fol al u1 v1 (al v2) else if fol al u1 v1 (al h)=v2 then fol al u1 v1 (al u2) else fol al u1 v1 (al h))=T (T (T (T (T (al h))))):=by
 obtain ⟨d1,d2,d3,d4,d5,d6⟩:=d
 obtain ⟨k1,k2,k3,k4⟩:=hh
 have j1:=i u1 (by simp)
 have j2:=i v1 (by simp)
 have j3:=i u2 (by simp)
 have j4:=i v2 (by simp)
 have j5:=i h (by simp)
 have inj: ∀x y,(x=u1\/x=v1\/x=u2\/x=v2\/x=h)->(y=u1\/y=v1\/y=u2\/y=v2\/y=h)->al x=y->al y=x:=fun x y hx _ e=>by rw [←e];exact (i x hx).1
 have stay: ∀x,x≠u1->x≠v1->x≠u2->x≠v2->T (T (T (T (T x))))=x/\T (T (T (T x)))=x/\T (T (T x))=x:=fun x a1 a2 a3 a4=>by
  have:=TO x a1 a2 a3 a4;simp only [this];simp
 unfold fol
 by_cases c1:al h=u1
 ·have b1:al u1=h:=inj h u1 (by simp) (by simp) c1
  rw [if_pos c1,c1,T1]
  have y1:al v1≠u1:=fun e=>k2 (by rw [←b1];exact inj v1 u1 (by simp) (by simp) e)
  have y2:al v1≠v1:=j2.2
  by_cases c2:al v1=u2
  ·have b2:al u2=v1:=inj v1 u2 (by simp) (by simp) c2
   have z1:al v2≠u1:=fun e=>k4 (by rw [←b1];exact inj v2 u1 (by simp) (by simp) e)
   have z2:al v2≠v1:=fun e=>d6 (by rw [←c2];exact inj v2 v1 (by simp) (by simp) e)
   have z3:al v2≠u2:=fun e=>d5 (by rw [←b2];exact inj v2 u2 (by simp) (by simp) e)
   rw [if_pos c2,if_neg z1,if_neg z2,c2,T3,(stay _ z1 z2 z3 j4.2).2.2]
  ·by_cases c3:al v1=v2
   ·have b2:al v2=v1:=inj v1 v2 (by simp) (by simp) c3
    have z1:al u2≠u1:=fun e=>k3 (by rw [←b1];exact inj u2 u1 (by simp) (by simp) e)
    have z2:al u2≠v1:=fun e=>d6 (by rw [←c3];exact (inj u2 v1 (by simp) (by simp) e).symm)
    have z4:al u2≠v2:=fun e=>d4 (by rw [←b2];exact inj u2 v2 (by simp) (by simp) e)
    rw [if_neg c2,if_pos c3,if_neg z1,if_neg z2,c3,T4,(stay _ z1 z2 j3.2 z4).2.2]
   ·rw [if_neg c2,if_neg c3,(stay _ y1 y2 c2 c3).2.1]
 ·rw [if_neg c1]
  by_cases c1':al h=v1
  ·have b1:al v1=h:=inj h v1 (by simp) (by simp) c1'
   rw [if_pos c1',c1',T2]
   have y1:al u1≠v1:=fun e=>k1 (by rw [←b1];exact inj u1 v1 (by simp) (by simp) e)
   have y2:al u1≠u1:=j1.2
   by_cases c2:al u1=u2
   ·have b2:al u2=u1:=inj u1 u2 (by simp) (by simp) c2
    have z1:al v2≠v1:=fun e=>k4 (by rw [←b1];exact inj v2 v1 (by simp) (by simp) e)
    have z2:al v2≠u1:=fun e=>d6 (by rw [←c2];exact inj v2 u1 (by simp) (by simp) e)
    have z3:al v2≠u2:=fun e=>d3 (by rw [←b2];exact inj v2 u2 (by simp) (by simp) e)
    rw [if_pos c2,if_neg z2,if_neg z1,c2,T3,(stay _ z2 z1 z3 j4.2).2.2]
   ·by_cases c3:al u1=v2
    ·have b2:al v2=u1:=inj u1 v2 (by simp) (by simp) c3
     have z1:al u2≠v1:=fun e=>k3 (by rw [←b1];exact inj u2 v1 (by simp) (by simp) e)
     have z2:al u2≠u1:=fun e=>d6 (by rw [←c3];exact (inj u2 u1 (by simp) (by simp) e).symm)
     have z4:al u2≠v2:=fun e=>d2 (by rw [←b2];exact inj u2 v2 (by simp) (by simp) e)
     rw [if_neg c2,if_pos c3,if_neg z2,if_neg z1,c3,T4,(stay _ z2 z1 j3.2 z4).2.2]
    ·rw [if_neg c2,if_neg c3,(stay _ y2 y1 c2 c3).2.1]
  ·rw [if_neg c1']
   by_cases c4:al h=u2
   ·have b1:al u2=h:=inj h u2 (by simp) (by simp) c4
    rw [if_pos c4,c4,T3]
    have y3:al v2≠u2:=fun e=>k4 (by rw [←b1];exact inj v2 u2 (by simp) (by simp) e)
    by_cases c2:al v2=u1
    ·have b2:al u1=v2:=inj v2 u1 (by simp) (by simp) c2
     have z1:al v1≠u1:=fun e=>d5 (by rw [←b2];exact (inj v1 u1 (by simp) (by simp) e).symm)
     have z3:al v1≠u2:=fun e=>k2 (by rw [←b1];exact inj v1 u2 (by simp) (by simp) e)
     have z4:al v1≠v2:=fun e=>d1 (by rw [←c2];exact inj v1 v2 (by simp) (by simp) e)
     rw [if_pos c2,c2,T1,(stay _ z1 j2.2 z3 z4).2.2]
    ·by_cases c3:al v2=v1
     ·have b2:al v1=v2:=inj v2 v1 (by simp) (by simp) c3
      have z2:al u1≠v1:=fun e=>d3 (by rw [←b2];exact (inj u1 v1 (by simp) (by simp) e).symm)
      have z3:al u1≠u2:=fun e=>k1 (by rw [←b1];exact inj u1 u2 (by simp) (by simp) e)
      have z4:al u1≠v2:=fun e=>d1 (by rw [←c3];exact (inj u1 v2 (by simp) (by simp) e).symm)
      rw [if_neg c2,if_pos c3,c3,T2,(stay _ j1.2 z2 z3 z4).2.2]
     ·rw [if_neg c2,if_neg c3,(stay _ c2 c3 y3 j4.2).2.1]
   ·rw [if_neg c4]
    by_cases c5:al h=v2
    ·have b1:al v2=h:=inj h v2 (by simp) (by simp) c5
     rw [if_pos c5,c5,T4]
     have y3:al u2≠v2:=fun e=>k3 (by rw [←b1];exact inj u2 v2 (by simp) (by simp) e)
     by_cases c2:al u2=u1
     ·have b2:al u1=u2:=inj u2 u1 (by simp) (by simp) c2
      have z1:al v1≠u1:=fun e=>d4 (by rw [←b2];exact (inj v1 u1 (by simp) (by simp) e).symm)
      have z3:al v1≠v2:=fun e=>k2 (by rw [←b1];exact inj v1 v2 (by simp) (by simp) e)
      have z4:al v1≠u2:=fun e=>d1 (by rw [←c2];exact inj v1 u2 (by simp) (by simp) e)
      rw [if_pos c2,c2,T1,(stay _ z1 j2.2 z4 z3).2.2]
     ·by_cases c3:al u2=v1
      ·have b2:al v1=u2:=inj u2 v1 (by simp) (by simp) c3
       have z2:al u1≠v1:=fun e=>d2 (by rw [←b2];exact (inj u1 v1 (by simp) (by simp) e).symm)
       have z3:al u1≠v2:=fun e=>k1 (by rw [←b1];exact inj u1 v2 (by simp) (by simp) e)
       have z4:al u1≠u2:=fun e=>d1 (by rw [←c3];exact (inj u1 u2 (by simp) (by simp) e).symm)
       rw [if_neg c2,if_pos c3,c3,T2,(stay _ j1.2 z2 z4 z3).2.2]
      ·rw [if_neg c2,if_neg c3,(stay _ c2 c3 j3.2 y3).2.1]
    ·rw [if_neg c5,(stay _ c1 c1' c4 c5).1]
end Sp
end Go.Proofs.YtfgbnalnbdhimaaGreatDoor
namespace Go.Proofs.YtfgbnalnbdhimaaGreatDoor
namespace Sp
open Classical
theorem yfb (l k:List Int) (i:Nat) (h:i<l.length):(l++k).getD i 0=l.getD i 0:=by
 rw [List.getD_eq_getElem?_getD,List.getD_eq_getElem?_getD,List.getElem?_append_left h]
theorem yfc (l k:List Int) (i:Nat) (h:l.length<=i):(l++k).getD i 0=k.getD (i-l.length) 0:=by
 rw [List.getD_eq_getElem?_getD,List.getD_eq_getElem?_getD,List.getElem?_append_right h]
theorem ym6 {E:List Int} {c:Nat}: ∀k,(woM E c k).length=4*(if c<k then k-1 else k)/\ ∀x,x<4*(if c<k then k-1 else k)->(woM E c k).getD x 0=cutM E c (if x/4<c then x else x+4)
 |0=>by simp [woM]
 |k+1=>by
  obtain ⟨h1,h2⟩:=ym6 (E:=E) (c:=c) k
  by_cases hk:k=c
  ·have e:woM E c (k+1)=woM E c k:=by simp [woM,hk]
   rw [e,if_pos (by omega)]
   rw [if_neg (by omega)] at h1 h2
   exact ⟨by omega,fun x hx=>h2 x (by omega)⟩
  ·have e:woM E c (k+1)=woM E c k++[cutM E c (4*k),cutM E c (4*k+1),cutM E c (4*k+2),cutM E c (4*k+3)]:=by simp [woM,woM4,hk]
   rw [e]
   by_cases hck:c<k
   ·rw [if_pos hck] at h1 h2
    rw [if_pos (by omega)]
    refine ⟨by simp [h1];omega,fun x hx=>?_⟩
    by_cases hx2:x<4*(k-1)
    ·rw [yfb _ _ _ (by omega)];exact h2 x hx2
    ·rw [yfc _ _ _ (by omega),h1]
     have hx3:x=4*(k-1)\/x=4*(k-1)+1\/x=4*(k-1)+2\/x=4*(k-1)+3:=by omega
     rw [if_neg (by omega)]
     rcases hx3 with rfl|rfl|rfl|rfl
     ·rw [show 4*(k-1)-4*(k-1)=0 by omega,show 4*(k-1)+4=4*k by omega];rfl
     ·rw [show 4*(k-1)+1-4*(k-1)=1 by omega,show 4*(k-1)+1+4=4*k+1 by omega];rfl
     ·rw [show 4*(k-1)+2-4*(k-1)=2 by omega,show 4*(k-1)+2+4=4*k+2 by omega];rfl
     ·rw [show 4*(k-1)+3-4*(k-1)=3 by omega,show 4*(k-1)+3+4=4*k+3 by omega];rfl
   ·rw [if_neg hck] at h1 h2
    rw [if_neg (by omega)]
    refine ⟨by simp [h1];omega,fun x hx=>?_⟩
    by_cases hx2:x<4*k
    ·rw [yfb _ _ _ (by omega)];exact h2 x hx2
    ·rw [yfc _ _ _ (by omega),h1]
     have hx3:x=4*k\/x=4*k+1\/x=4*k+2\/x=4*k+3:=by omega
     rw [if_pos (by omega)]
     rcases hx3 with rfl|rfl|rfl|rfl
     ·rw [show 4*k-4*k=0 by omega];rfl
     ·rw [show 4*k+1-4*k=1 by omega];rfl
     ·rw [show 4*k+2-4*k=2 by omega];rfl
     ·rw [show 4*k+3-4*k=3 by omega];rfl
theorem jnF (c:Nat):jnB false (4*c)=4*c+1/\jnB false (4*c+1)=4*c/\jnB false (4*c+2)=4*c+3/\jnB false (4*c+3)=4*c+2:=by
 unfold jnB;simp only [yhq,ye1];refine ⟨?_,?_,?_,?_⟩<;>(split<;>rename_i h<;>simp at h<;>omega)
theorem jnT (c:Nat):jnB true (4*c)=4*c+3/\jnB true (4*c+1)=4*c+2/\jnB true (4*c+2)=4*c+1/\jnB true (4*c+3)=4*c:=by
 unfold jnB;simp only [yhq,ye1];refine ⟨?_,?_,?_,?_⟩<;>(split<;>rename_i h<;>simp at h<;>omega)
theorem jnFN (c:Nat):(jnB false ((4*c:Nat):Int)).toNat=4*c+1/\(jnB false ((4*c+1:Nat):Int)).toNat=4*c/\(jnB false ((4*c+2:Nat):Int)).toNat=4*c+3/\(jnB false ((4*c+3:Nat):Int)).toNat=4*c+2:=by
 obtain ⟨h1,h2,h3,h4⟩:=jnF c
 refine ⟨?_,?_,?_,?_⟩
 ·rw [show ((4*c:Nat):Int)=4*c by omega,h1];omega
 ·rw [show ((4*c+1:Nat):Int)=4*c+1 by omega,h2];omega
 ·rw [show ((4*c+2:Nat):Int)=4*c+2 by omega,h3];omega
 ·rw [show ((4*c+3:Nat):Int)=4*c+3 by omega,h4];omega
theorem jnTN (c:Nat):(jnB true ((4*c:Nat):Int)).toNat=4*c+3/\(jnB true ((4*c+1:Nat):Int)).toNat=4*c+2/\(jnB true ((4*c+2:Nat):Int)).toNat=4*c+1/\(jnB true ((4*c+3:Nat):Int)).toNat=4*c:=by
 obtain ⟨h1,h2,h3,h4⟩:=jnT c
 refine ⟨?_,?_,?_,?_⟩
 ·rw [show ((4*c:Nat):Int)=4*c by omega,h1];omega
 ·rw [show ((4*c+1:Nat):Int)=4*c+1 by omega,h2];omega
 ·rw [show ((4*c+2:Nat):Int)=4*c+2 by omega,h3];omega
 ·rw [show ((4*c+3:Nat):Int)=4*c+3 by omega,h4];omega
section
variable {m:List Int} {n c:Nat} {b:Bool}
def thT (m:List Int) (b:Bool) (c x:Nat):Nat:=if x/4=c then alD m (jnB b x).toNat else x
theorem ypy (h:Dia m n) (hc:c<n): ∀f x:Nat,x<4*n->thrX m b c f x=(itn (thT m b c) f x:Nat)
 |0,x,_=>rfl
 |f+1,x,hx=>by
  simp only [itn]
  rw [←ydu (thT m b c) f x]
  by_cases hxc:x/4=c
  ·have hj:=ydg b (x:Int)
   have hl:(jnB b (x:Int)).toNat<4*n:=by omega
   have e1:thT m b c x=alD m (jnB b x).toNat:=by unfold thT;rw [if_pos hxc]
   rw [e1,ysf (by omega),←h.cast hl]
   exact ypy h hc f _ (h.mat.lt _ hl)
  ·have e1:thT m b c x=x:=by unfold thT;rw [if_neg hxc]
   rw [e1,←ypy h hc f x hx,ymu (by omega),ymu (by omega)]
theorem yuu (h:Dia m n) (hc:c<n) (hsp:sphR m n=true):Dia (woM (smE m b c (4*n)) c n) (n-1)/\sphR (woM (smE m b c (4*n)) c n) (n-1)=true:=by
 have hml:=h.prd.ok.1
 have hS:=h.sph.1 hsp
 have ha:=h.mat
 obtain ⟨u1,hu1⟩: ∃u,u=4*c:=⟨_,rfl⟩
 obtain ⟨u2,hu2⟩: ∃u,u=4*c+2:=⟨_,rfl⟩
 obtain ⟨v1,hv1⟩: ∃v,v=if b then 4*c+3 else 4*c+1:=⟨_,rfl⟩
 obtain ⟨v2,hv2⟩: ∃v,v=if b then 4*c+1 else 4*c+3:=⟨_,rfl⟩
 obtain ⟨p,hp⟩: ∃p,p=if b then 4*c+1 else 4*c:=⟨_,rfl⟩
 obtain ⟨q,hq⟩: ∃q,q=if b then 4*c+3 else 4*c+2:=⟨_,rfl⟩
 have hb:(v1=4*c+3/\v2=4*c+1/\p=4*c+1/\q=4*c+3/\b=true)\/(v1=4*c+1/\v2=4*c+3/\p=4*c/\q=4*c+2/\b=false):=by
  cases b
  ·exact .inr ⟨hv1,hv2,hp,hq,rfl⟩
  ·exact .inl ⟨hv1,hv2,hp,hq,rfl⟩
 have hS1:=hS.split (p:=p) (q:=q) (by omega) (by omega) (by omega) (yir.2 (by omega))
 have sj:swp siD p q u1=v1/\swp siD p q v1=u1/\swp siD p q u2=v2/\swp siD p q v2=u2:=by
  unfold swp siD
  rcases hb with ⟨e1,e2,e3,e4,_⟩|⟨e1,e2,e3,e4,_⟩<;>subst hu1 hu2 e1 e2 e3 e4<;>refine ⟨?_,?_,?_,?_⟩<;>(repeat' split)<;>omega
 have so: ∀x,x/4≠c->swp siD p q x=siD x:=fun x hx=>by unfold swp;rw [if_neg (by omega),if_neg (by omega)]
 have hS2:=hS1.detO (u:=u1) (v:=v1) (by omega) (by omega) (by omega) sj.1 sj.2.1
 have hS3:=hS2.detO (u:=u2) (v:=v2) (by omega) (by omega) (by omega) sj.2.2.1 sj.2.2.2
 have f1: ∀x,x<4*n->x≠u1->x≠v1->detO (alD m) u1 v1 x=fol (alD m) u1 v1 (alD m x):=fun x hx h1 h2=>ypx ha (by omega) (by omega) (by omega) hx h1 h2
 have hmate: ∀x,x<4*n->x/4≠c->((detO (detO (alD m) u1 v1) u2 v2 x:Nat):Int)=thrX m b c 5 (m.getD x 0):=fun x hx hxc=>by
  have hal:=ha.lt x hx
  rw [←h.cast hx,ypy h hc 5 _ hal]
  congr 1
  rw [ypx hS2.mat (by omega) (by omega) (by omega) hx (by omega) (by omega)]
  rw [f1 x hx (by omega) (by omega)]
  have key:=follow (u1:=u1) (v1:=v1) (u2:=u2) (v2:=v2) (h:=x) (al:=alD m) (T:=thT m b c) (O:=fun _=>True)
   (fun y hy=>⟨ha.inv y (by omega),ha.ne y (by omega)⟩) (by omega) (by omega)
   (by
    unfold thT;rw [if_pos (by omega)];congr 1
    rcases hb with ⟨e1,_,_,_,rfl⟩|⟨e1,_,_,_,rfl⟩
    ·rw [hu1,(jnTN c).1,e1]
    ·rw [hu1,(jnFN c).1,e1])
   (by
    unfold thT;rw [if_pos (by omega)];congr 1
    rcases hb with ⟨e1,_,_,_,rfl⟩|⟨e1,_,_,_,rfl⟩
    ·rw [e1,(jnTN c).2.2.2,hu1]
    ·rw [e1,(jnFN c).2.1,hu1])
   (by
    unfold thT;rw [if_pos (by omega)];congr 1
    rcases hb with ⟨_,e2,_,_,rfl⟩|⟨_,e2,_,_,rfl⟩
    ·rw [hu2,(jnTN c).2.2.1,e2]
    ·rw [hu2,(jnFN c).2.2.1,e2])
   (by
    unfold thT;rw [if_pos (by omega)];congr 1
    rcases hb with ⟨_,e2,_,_,rfl⟩|⟨_,e2,_,_,rfl⟩
    ·rw [e2,(jnTN c).2.1,hu2]
    ·rw [e2,(jnFN c).2.2.2,hu2])
   (fun y h1 h2 h3 h4=>by unfold thT;rw [if_neg (by omega)])
  show (if fol (alD m) u1 v1 (alD m x)=u2 then detO (alD m) u1 v1 v2 else if fol (alD m) u1 v1 (alD m x)=v2 then detO (alD m) u1 v1 u2 else fol (alD m) u1 v1 (alD m x))=_
  rw [f1 v2 (by omega) (by omega) (by omega),f1 u2 (by omega) (by omega) (by omega)]
  exact key
 obtain ⟨wl,wg⟩:=ym6 (E:=smE m b c (4*n)) (c:=c) n
 rw [if_pos hc] at wl wg
 obtain ⟨io,hio⟩: ∃io:Nat->Nat,∀x,io x=if x/4<c then x else x+4:=⟨_,fun _=>rfl⟩
 have iol: ∀x,x<4*(n-1)->io x<4*n/\io x/4≠c:=fun x hx=>by rw [hio];split<;>omega
 have hget: ∀x,x<4*(n-1)-> ∃y:Nat,y<4*n/\y/4≠c/\detO (detO (alD m) u1 v1) u2 v2 (io x)=y/\(woM (smE m b c (4*n)) c n).getD x 0=((if c<y/4 then y-4 else y:Nat):Int):=fun x hx=>by
  have hi:=iol x hx
  have e1:=hmate (io x) hi.1 hi.2
  have hout:=yko (b:=b) h.prd hc hi.1 hi.2
  have hrng:=ykp (b:=b) h.prd hc 5 (m.getD (io x) 0) (by have:=h.prd.ok.2 (io x) hi.1;unfold InR;omega)
  unfold InR at hrng
  refine ⟨detO (detO (alD m) u1 v1) u2 v2 (io x),by omega,by omega,rfl,?_⟩
  rw [wg x hx,←hio x]
  have e2:(smE m b c (4*n)).getD (io x) 0=thrX m b c 5 (m.getD (io x) 0):=by
   have: ∀k,k<=m.length->io x<k->(smE m b c k).getD (io x) 0=thrX m b c 5 (m.getD (io x) 0):=fun k=>by
    induction k with
    |zero=>intro _ h;omega
    |succ k ih=>
     intro hk hlt
     have hl:=ymv (m:=m) (b:=b) (c:=c) k
     simp only [smE]
     by_cases hkc:k/4=c
     ·rw [if_pos hkc]
      have:io x≠k:=fun e=>hi.2 (by rw [e];exact hkc)
      exact ih (by omega) (by omega)
     ·rw [if_neg hkc]
      by_cases e:k=io x
      ·rw [←e,yar (by omega)]
      ·rw [yam e];exact ih (by omega) (by omega)
   exact this (4*n) (by omega) hi.1
  unfold cutM
  rw [e2,←e1]
  generalize detO (detO (alD m) u1 v1) u2 v2 (io x)=y at*
  by_cases hy:c<y/4
  ·rw [if_pos hy,if_pos (by omega)];omega
  ·rw [if_neg hy,if_neg (by omega)]
 have hal': ∀x,x<4*(n-1)->alD (woM (smE m b c (4*n)) c n) x<4*(n-1)/\io (alD (woM (smE m b c (4*n)) c n) x)=detO (detO (alD m) u1 v1) u2 v2 (io x)/\((alD (woM (smE m b c (4*n)) c n) x:Nat):Int)=(woM (smE m b c (4*n)) c n).getD x 0:=fun x hx=>by
  obtain ⟨y,y1,y2,y3,y4⟩:=hget x hx
  have e:alD (woM (smE m b c (4*n)) c n) x=if c<y/4 then y-4 else y:=by unfold alD;rw [y4,Int.toNat_natCast]
  rw [e,y3]
  refine ⟨by split<;>omega,?_,y4.symm⟩
  rw [hio]
  by_cases hy:c<y/4
  ·rw [if_pos hy,if_neg (by omega)];omega
  ·rw [if_neg hy,if_pos (by omega)]
 have hS4:Sph (4*(n-1)) siD (alD (woM (smE m b c (4*n)) c n)):=by
  refine hS3.embed (io:=io) (fun x hx=>(iol x hx).1) (fun x y hx hy e=>?_) (fun x hx=>(yb4 (n-1)).lt x hx) (fun x hx=>(hal' x hx).1) (fun x hx=>?_) (fun x hx=>(hal' x hx).2.1)
  ·rw [hio,hio] at e
   by_cases h1:x/4<c<;>by_cases h2:y/4<c
   ·rw [if_pos h1,if_pos h2] at e;exact e
   ·rw [if_pos h1,if_neg h2] at e;omega
   ·rw [if_neg h1,if_pos h2] at e;omega
   ·rw [if_neg h1,if_neg h2] at e;omega
  ·rw [so _ (iol x hx).2,hio,hio,yg6]
   by_cases h1:x/4<c
   ·rw [if_pos h1,if_pos h1]
   ·rw [if_neg h1,if_neg h1];unfold siD;omega
 have hD:Dia (woM (smE m b c (4*n)) c n) (n-1):=by
  refine ⟨⟨⟨wl,fun i hi=>?_⟩,fun x hx=>?_⟩,fun x hx e=>?_⟩
  ·have:=hal' i hi;omega
  ·have h1:=hal' x hx
   have h2:=hS4.mat.inv x hx
   have h3:=hal' _ h1.1
   rw [h2] at h3
   rw [←h1.2.2,Int.toNat_natCast,←h3.2.2]
  ·have h1:=hal' x hx
   exact hS4.mat.ne x hx (by omega)
 exact ⟨hD,hD.sph.2 hS4⟩
end
end Sp
end Go.Proofs.YtfgbnalnbdhimaaGreatDoor
set_option linter.unusedSimpArgs false
set_option linter.unusedVariables false
namespace Go.Proofs.YtfgbnalnbdhimaaGreatDoor
namespace Sp
section
variable {s m:List Int} {L:Int} {n c:Nat} {b:Bool}
theorem ym7 {s:List Int} {c:Nat}: ∀k,(woS s c k).length=(if c<k then k-1 else k)/\ ∀x,x<(if c<k then k-1 else k)->(woS s c k).getD x 0=s.getD (if x<c then x else x+1) 0
 |0=>by simp [woS]
 |k+1=>by
  obtain ⟨h1,h2⟩:=ym7 (s:=s) (c:=c) k
  simp only [woS]
  by_cases e:k=c
  ·subst e
   rw [if_pos rfl,if_pos (by omega)]
   rw [if_neg (by omega)] at h1 h2
   refine ⟨by omega,fun x hx=>h2 x (by omega)⟩
  ·rw [if_neg e]
   by_cases hc:c<k
   ·rw [if_pos hc] at h1 h2
    rw [if_pos (by omega)]
    refine ⟨by rw [List.length_append,h1];simp;omega,fun x hx=>?_⟩
    by_cases hx':x<k-1
    ·rw [yfb _ _ _ (by omega)];exact h2 x hx'
    ·obtain rfl:x=k-1:=by omega
     rw [yfc _ _ _ (by omega),h1,Nat.sub_self,if_neg (by omega),show k-1+1=k by omega];rfl
   ·rw [if_neg hc] at h1 h2
    rw [if_neg (by omega)]
    refine ⟨by rw [List.length_append,h1];simp,fun x hx=>?_⟩
    by_cases hx':x<k
    ·rw [yfb _ _ _ (by omega)];exact h2 x hx'
    ·obtain rfl:x=k:=by omega
     rw [yfc _ _ _ (by omega),h1,Nat.sub_self,if_pos (by omega)];rfl
theorem y3t {i:Nat} (hi:i/4≠c): ∀k,k<=m.length->i<k->(smE m b c k).getD i 0=thrX m b c 5 (m.getD i 0):=fun k=>by
 induction k with
 |zero=>intro _ h;omega
 |succ k ih=>
  intro hk hlt
  have hl:=ymv (m:=m) (b:=b) (c:=c) k
  simp only [smE]
  by_cases hkc:k/4=c
  ·rw [if_pos hkc]
   have:i≠k:=fun e=>hi (by rw [e];exact hkc)
   exact ih (by omega) (by omega)
  ·rw [if_neg hkc]
   by_cases e:k=i
   ·rw [←e,yar (by omega)]
   ·rw [yam e];exact ih (by omega) (by omega)
theorem yxb (hv:ya4 s m L=true):Dia m s.length/\sphR m s.length=true:=by
 have v:=ya8 hv
 refine ⟨⟨v.prd,fun x hx=>(v.mt x hx).2.2.1⟩,?_⟩
 rw [ykn] at hv
 unfold yim at hv
 exact (Bool.and_eq_true _ _▸hv).2
theorem y3u {x:Int} (hs:s.getD c 0=1\/s.getD c 0= -1) (hx:x/4=c):outB s (jnB (s.getD c 0== -1) x)= !outB s x:=by
 have e:x=4*c\/x=4*c+1\/x=4*c+2\/x=4*c+3:=by omega
 have d0:(4*(c:Int))/4=c/\(4*(c:Int)+1)/4=c/\(4*(c:Int)+2)/4=c/\(4*(c:Int)+3)/4=c:=by omega
 have r0:(4*(c:Int))% 4=0/\(4*(c:Int)+1)% 4=1/\(4*(c:Int)+2)% 4=2/\(4*(c:Int)+3)% 4=3:=by omega
 obtain ⟨d1,d2,d3,d4⟩:=d0
 obtain ⟨r1,r2,r3,r4⟩:=r0
 rcases hs with hs|hs
 ·have hb:(s.getD c 0== -1)=false:=by rw [hs];decide
  rw [hb]
  obtain ⟨j1,j2,j3,j4⟩:=jnF c
  rcases e with rfl|rfl|rfl|rfl
  ·rw [j1];simp only [outB,d1,d2,r1,r2,Int.toNat_natCast,hs];decide
  ·rw [j2];simp only [outB,d1,d2,r1,r2,Int.toNat_natCast,hs];decide
  ·rw [j3];simp only [outB,d3,d4,r3,r4,Int.toNat_natCast,hs];decide
  ·rw [j4];simp only [outB,d3,d4,r3,r4,Int.toNat_natCast,hs];decide
 ·have hb:(s.getD c 0== -1)=true:=by rw [hs];decide
  rw [hb]
  obtain ⟨j1,j2,j3,j4⟩:=jnT c
  rcases e with rfl|rfl|rfl|rfl
  ·rw [j1];simp only [outB,d1,d4,r1,r4,Int.toNat_natCast,hs];decide
  ·rw [j2];simp only [outB,d2,d3,r2,r3,Int.toNat_natCast,hs];decide
  ·rw [j3];simp only [outB,d2,d3,r2,r3,Int.toNat_natCast,hs];decide
  ·rw [j4];simp only [outB,d1,d4,r1,r4,Int.toNat_natCast,hs];decide
theorem yn1 (v:ycm s m L) (hc:c<s.length): ∀f x,InR s.length x->outB s (thrX m (s.getD c 0== -1) c f x)=outB s x
 |0,x,_=>rfl
 |f+1,x,hx=>by
  unfold thrX
  split
  ·rename_i e
   have hd:=ydg (s.getD c 0== -1) x
   have hr:InR s.length (jnB (s.getD c 0== -1) x):=by unfold InR;omega
   rw [yn1 v hc f _ (v.prd.rng hr)]
   unfold InR at hr
   have h1:=(v.mt (jnB (s.getD c 0== -1) x).toNat (by omega)).2.2.2.2
   rw [show (((jnB (s.getD c 0== -1) x).toNat:Nat):Int)=jnB (s.getD c 0== -1) x by omega,y3u (v.sg c hc) e] at h1
   cases h2:outB s x<;>cases h3:outB s (m.getD (jnB (s.getD c 0== -1) x).toNat 0)<;>simp_all
  ·rfl
theorem yfl:0<=smL m b c n/\smL m b c n<=2:=by
 unfold smL;simp only;split<;>split<;>omega
theorem ysq (hc:c<s.length) {x y:Nat} (hx:x<4*(s.length-1)) (hy:y=if x/4<c then x else x+4):outB (woS s c s.length) x=outB s y:=by
 obtain ⟨_,h2⟩:=ym7 (s:=s) (c:=c) s.length
 rw [if_pos hc] at h2
 have e1:((x:Int)/4).toNat=x/4:=by omega
 have e2:((y:Int)/4).toNat=if x/4<c then x/4 else x/4+1:=by rw [hy];split<;>omega
 have e3:(y:Int)% 4=(x:Int)% 4:=by rw [hy];split<;>omega
 unfold outB
 rw [e1,e2,e3,h2 (x/4) (by omega)]
theorem yis (hv:ya4 s m L=true) (hc:c<s.length) (hL:smLp s m c L<=64):ya4 (smS s c) (smM s m c) (smLp s m c L)=true/\(smS s c).length=s.length-1:=by
 have v:=ya8 hv
 obtain ⟨hd,hsp⟩:=yxb hv
 obtain ⟨hd',hsp'⟩:=yuu (b:=(s.getD c 0== -1)) hd hc hsp
 obtain ⟨w1,w2⟩:=ym7 (s:=s) (c:=c) s.length
 rw [if_pos hc] at w1 w2
 obtain ⟨wl,wg⟩:=ym6 (E:=smE m (s.getD c 0== -1) c (4*s.length)) (c:=c) s.length
 rw [if_pos hc] at wl wg
 have hsl:(smS s c).length=s.length-1:=w1
 refine ⟨?_,hsl⟩
 rw [ykn]
 unfold yim
 rw [hsl,Bool.and_eq_true]
 refine ⟨?_,hsp'⟩
 unfold ycz
 rw [decide_eq_true_iff,hsl]
 have h64:=v.s64
 have hsm:=yfl (m:=m) (b:=(s.getD c 0== -1)) (c:=c) (n:=s.length)
 have hl0:=v.l0
 refine ⟨by omega,wl,by unfold smLp;omega,hL,fun i hi=>?_,fun h hh=>?_⟩
 ·unfold smS
  rw [w2 i hi]
  exact v.sg _ (by split<;>omega)
 ·have p1:=hd'.prd.ok.2 h hh
  have p2:=hd'.prd.inv h hh
  have p3:=hd'.ne h hh
  refine ⟨p1.1,by rw [hsl];exact p1.2,p3,p2,?_⟩
  obtain ⟨y,hy⟩: ∃y,y=if h/4<c then h else h+4:=⟨_,rfl⟩
  have hyr:y<4*s.length/\y/4≠c:=by rw [hy];split<;>omega
  unfold smS
  rw [ysq hc hh hy]
  have e1:(smM s m c).getD h 0=cutM (smE m (s.getD c 0== -1) c (4*s.length)) c y:=by unfold smM;rw [wg h hh,hy]
  have hml:=v.len
  have e2:(smE m (s.getD c 0== -1) c (4*s.length)).getD y 0=thrX m (s.getD c 0== -1) c 5 (m.getD y 0):=y3t hyr.2 _ (by omega) hyr.1
  have hout:=yko (b:=(s.getD c 0== -1)) v.prd hc hyr.1 hyr.2
  have hr0:InR s.length (m.getD y 0):=by have:=v.prd.ok.2 y hyr.1;unfold InR;omega
  have hrng:=ykp (b:=(s.getD c 0== -1)) v.prd hc 5 _ hr0
  have ho:=yn1 v hc 5 _ hr0
  have hne:=(v.mt y hyr.1).2.2.2.2
  have p1':(0:Int)<=(smM s m c).getD h 0/\(smM s m c).getD h 0<4*((s.length-1:Nat):Int):=p1
  unfold cutM at e1
  rw [e2] at e1
  generalize thrX m (s.getD c 0== -1) c 5 (m.getD y 0)=z at*
  unfold InR at hrng
  obtain ⟨z,rfl⟩: ∃q:Nat,z=q:=⟨z.toNat,by omega⟩
  obtain ⟨q,hq⟩: ∃q:Nat,(smM s m c).getD h 0=q:=⟨((smM s m c).getD h 0).toNat,by omega⟩
  rw [hq,ysq (y:=z) hc (by omega) (by rw [hq] at e1;split at e1<;>split<;>omega),ho]
  exact hne
end
end Sp
end Go.Proofs.YtfgbnalnbdhimaaGreatDoor
namespace Go.Proofs.YtfgbnalnbdhimaaGreatDoor
namespace Sp
section
variable {s m:List Int} {L:Int} {n c k:Nat}
def tw (k c x:Nat):Nat:=if x/4=c then x-x % 4+(x % 4+k)% 4 else x
theorem ylu (k c x:Nat):tw k c x/4=x/4:=by unfold tw;split<;>omega
theorem ygq {x:Nat} (hx:x<4*n):tw k c x<4*n:=by have:=ylu k c x;omega
theorem yc8 {x:Nat} (h:x/4≠c):tw k c x=x:=by unfold tw;rw [if_neg h]
theorem yg7 {x:Nat} (hk:k=1\/k=3):tw (4-k) c (tw k c x)=x/\tw k c (tw (4-k) c x)=x:=by
 by_cases h:x/4=c
 ·unfold tw
  simp only [h,if_true]
  rw [if_pos (by omega),if_pos (by omega)]
  rcases hk with rfl|rfl<;>omega
 ·rw [yc8 h,yc8 h,yc8 h];exact ⟨rfl,rfl⟩
theorem ylv {x y:Nat} (hk:k=1\/k=3) (e:tw k c x=tw k c y):x=y:=by
 rw [←(yg7 (c:=c) (x:=x) hk).1,e,(yg7 hk).1]
theorem y7n (x:Nat) (hk:k=1\/k=3):tw k c (siD x)=siD (tw k c x):=by
 by_cases h:x/4=c
 ·have h1:=yg6 x
  have h2:=ylu k c x
  unfold tw siD
  rw [if_pos (by unfold siD at h1;omega),if_pos h]
  rcases hk with rfl|rfl<;>omega
 ·rw [yc8 h,yc8 (by rw [yg6];exact h)]
theorem y1r (hs:s.getD c 0=1\/s.getD c 0= -1) (x:Nat):ya7 x (exBy s (· ==(c:Int)) ((x:Int)/4))=(tw (if s.getD c 0=1 then 1 else 3) c x:Nat):=by
 by_cases h:x/4=c
 ·have e:((x:Int)/4==(c:Int))=true:=by simp;omega
  have e2:((x:Int)/4).toNat=c:=by omega
  unfold exBy tw
  rw [if_pos e,e2,if_pos h]
  split
  ·unfold ya7;rw [show Int.tmod (-3) 4= -3 by decide];omega
  ·unfold ya7;rw [show Int.tmod (-1) 4= -1 by decide];omega
 ·have e:((x:Int)/4==(c:Int))=false:=by simp;omega
  unfold exBy
  rw [if_neg (fun e'=>by have:=e.symm.trans e';cases this),yc8 h]
  unfold ya7
  rw [show Int.tmod 0 4=0 by decide];omega
theorem ysr {to:Int->Int} {t:Nat->Nat} (ht: ∀x:Nat,to x=t x) (hi: ∀x y,t x=t y->x=y) (hl: ∀x,x<m.length->t x<m.length): ∀k,k<=m.length-> ∀i,i<k->(mvM m to k).getD (t i) 0=to (m.getD i 0)
 |0,_,i,h=>by omega
 |k+1,hk,i,h=>by
  have hlen:=yjd m to k
  simp only [mvM]
  rw [ht k,Int.toNat_natCast]
  by_cases e:i=k
  ·subst e;rw [yar (by rw [hlen];exact hl i (by omega))]
  ·rw [yam (fun e'=>e (hi _ _ e').symm)];exact ysr ht hi hl k (by omega) i (by omega)
theorem yjj {i:Nat} (hi:i<s.length):(swS s c).getD i 0=if i=c then-s.getD i 0 else s.getD i 0:=by
 unfold swS exS sgM
 rw [List.getD_eq_getElem?_getD,List.getElem?_map,List.getElem?_range hi]
 simp only [Option.map_some,Option.getD_some,exSg]
 by_cases e:i=c
 ·subst e;simp
 ·have: ¬((i:Int)==(c:Int))=true:=by simp;omega
  rw [if_neg this,if_neg e];simp
theorem yc0:(swS s c).length=s.length:=by unfold swS exS;rw [yje]
def kT (s:List Int) (c:Nat):Nat:=if s.getD c 0=1 then 1 else 3
theorem yfd:kT s c=1\/kT s c=3:=by unfold kT;split<;>simp
theorem yss (v:ycm s m L) (hc:c<s.length) {i:Nat} (hi:i<4*s.length):(swM s m c).getD (tw (kT s c) c i) 0=(tw (kT s c) c (alD m i):Nat):=by
 have hs:=v.sg c hc
 have hml:=v.len
 unfold swM exM
 rw [ysr (t:=tw (kT s c) c) (fun x=>y1r hs x) (fun x y e=>ylv yfd e) (fun x hx=>by rw [hml] at hx⊢;exact ygq hx) m.length (Nat.le_refl _) i (by omega)]
 have h0:=(v.mt i hi).1
 have e:m.getD i 0=((alD m i:Nat):Int):=by unfold alD;omega
 rw [e]
 exact y1r hs _
theorem yst:(swM s m c).length=m.length:=yjd _ _ _
theorem ym8 (hs:s.getD c 0=1\/s.getD c 0= -1) (hc:c<s.length) {x:Nat} (hx:x<4*s.length):outB (swS s c) (tw (kT s c) c x)=outB s x:=by
 have hd:=ylu (kT s c) c x
 have e1:(((tw (kT s c) c x:Nat):Int)/4).toNat=x/4:=by omega
 have e2:((x:Int)/4).toNat=x/4:=by omega
 unfold outB
 rw [e1,e2,yjj (by omega)]
 by_cases h:x/4=c
 ·rw [if_pos h,h]
  have r:x % 4=0\/x % 4=1\/x % 4=2\/x % 4=3:=by omega
  rcases hs with hs|hs
  ·have hk:kT s c=1:=by unfold kT;rw [if_pos hs]
   rw [hk,hs]
   rcases r with r|r|r|r
   ·rw [show (x:Int)% 4=0 by omega,show ((tw 1 c x:Nat):Int)% 4=1 by unfold tw;rw [if_pos h];omega];decide
   ·rw [show (x:Int)% 4=1 by omega,show ((tw 1 c x:Nat):Int)% 4=2 by unfold tw;rw [if_pos h];omega];decide
   ·rw [show (x:Int)% 4=2 by omega,show ((tw 1 c x:Nat):Int)% 4=3 by unfold tw;rw [if_pos h];omega];decide
   ·rw [show (x:Int)% 4=3 by omega,show ((tw 1 c x:Nat):Int)% 4=0 by unfold tw;rw [if_pos h];omega];decide
  ·have hk:kT s c=3:=by unfold kT;rw [if_neg (by omega)]
   rw [hk,hs]
   rcases r with r|r|r|r
   ·rw [show (x:Int)% 4=0 by omega,show ((tw 3 c x:Nat):Int)% 4=3 by unfold tw;rw [if_pos h];omega];decide
   ·rw [show (x:Int)% 4=1 by omega,show ((tw 3 c x:Nat):Int)% 4=0 by unfold tw;rw [if_pos h];omega];decide
   ·rw [show (x:Int)% 4=2 by omega,show ((tw 3 c x:Nat):Int)% 4=1 by unfold tw;rw [if_pos h];omega];decide
   ·rw [show (x:Int)% 4=3 by omega,show ((tw 3 c x:Nat):Int)% 4=2 by unfold tw;rw [if_pos h];omega];decide
 ·rw [if_neg h,yc8 h]
theorem yf3 (v:ycm s m L) (hc:c<s.length) {i:Nat} (hi:i<4*s.length):alD (swM s m c) i=tw (kT s c) c (alD m (tw (4-kT s c) c i))/\((alD (swM s m c) i:Nat):Int)=(swM s m c).getD i 0:=by
 have h:=yss v hc (i:=tw (4-kT s c) c i) (ygq hi)
 rw [(yg7 yfd).2] at h
 refine ⟨?_,?_⟩
 ·unfold alD;rw [h,Int.toNat_natCast];rfl
 ·unfold alD;rw [h,Int.toNat_natCast]
theorem ypz (hv:ya4 s m L=true) (hc:c<s.length):ya4 (swS s c) (swM s m c) L=true:=by
 have v:=ya8 hv
 obtain ⟨hd,hsp⟩:=yxb hv
 have hs:=v.sg c hc
 have hS:=hd.sph.1 hsp
 have hk:4-kT s c=1\/4-kT s c=3:=by have:=yfd (s:=s) (c:=c);omega
 have hal: ∀x,x<4*s.length->alD m x<4*s.length:=fun x hx=>hd.mat.lt x hx
 have ha': ∀x,x<4*s.length->alD (swM s m c) x<4*s.length:=fun x hx=>by rw [(yf3 v hc hx).1];exact ygq (hal _ (ygq hx))
 have hS':Sph (4*s.length) siD (alD (swM s m c)):=by
  refine hS.embed (io:=tw (4-kT s c) c) (fun x hx=>ygq hx) (fun x y hx hy e=>ylv hk e) (fun x hx=>(yb4 s.length).lt x hx) ha' (fun x hx=>y7n x hk) (fun x hx=>?_)
  rw [(yf3 v hc hx).1,(yg7 yfd).1]
 have hml:(swM s m c).length=4*s.length:=by rw [yst];exact v.len
 have hD:Dia (swM s m c) s.length:=by
  refine ⟨⟨⟨hml,fun i hi=>?_⟩,fun x hx=>?_⟩,fun x hx e=>?_⟩
  ·have h1:=(yf3 v hc hi).2;have h2:=ha' i hi;omega
  ·have h1:=yf3 v hc hx
   have h2:=hS'.mat.inv x hx
   have h3:=yf3 v hc (ha' x hx)
   rw [h2] at h3
   rw [←h1.2,Int.toNat_natCast,←h3.2]
  ·have h1:=yf3 v hc hx
   exact hS'.mat.ne x hx (by omega)
 rw [ykn]
 unfold yim
 rw [yc0,Bool.and_eq_true]
 refine ⟨?_,hD.sph.2 hS'⟩
 unfold ycz
 rw [decide_eq_true_iff,yc0]
 refine ⟨v.s64,hml,v.l0,v.l64,fun i hi=>?_,fun h hh=>?_⟩
 ·rw [yjj hi]
  have:=v.sg i hi
  split<;>omega
 ·have p1:=hD.prd.ok.2 h hh
  refine ⟨p1.1,by rw [yc0];exact p1.2,hD.ne h hh,hD.prd.inv h hh,?_⟩
  have q:=yf3 v hc hh
  obtain ⟨y,hy⟩: ∃y,y=tw (4-kT s c) c h:=⟨_,rfl⟩
  have hyl:y<4*s.length:=by rw [hy];exact ygq hh
  have e:h=tw (kT s c) c y:=by rw [hy,(yg7 yfd).2]
  rw [←hy] at q
  have hne:=(v.mt y hyl).2.2.2.2
  rw [←q.2,q.1,e,ym8 hs hc hyl,ym8 hs hc (hal y hyl)]
  rw [hd.cast hyl];exact hne
end
end Sp
end Go.Proofs.YtfgbnalnbdhimaaGreatDoor
namespace Go.Proofs.YtfgbnalnbdhimaaGreatDoor
namespace Sp
section
variable {s m:List Int} {L:Int} {n c k:Nat}
def tI (k c:Nat) (x:Int):Int:=(tw k c x.toNat:Nat)
theorem yp0 (x:Nat):tI k c x=(tw k c x:Nat):=by unfold tI;rw [Int.toNat_natCast]
def opN (y:Nat):Nat:=y-y % 4+(y % 4+2)% 4
theorem yxc (y:Nat):ya7 y 2=(opN y:Nat):=by unfold ya7 opN;rw [show Int.tmod 2 4=2 by decide];omega
theorem y7o (y:Nat) (hk:k=1\/k=3):opN (tw k c y)=tw k c (opN y):=by
 by_cases h:y/4=c
 ·unfold tw opN
  rw [if_pos h,if_pos (by omega)]
  rcases hk with rfl|rfl<;>omega
 ·rw [yc8 h,yc8 (by unfold opN;omega)]
theorem yjk (v:ycm s m L) {g:Nat} (hg:g<4*s.length):yb0 m g=(opN (alD m g):Nat)/\opN (alD m g)<4*s.length:=by
 have h:=v.mt g hg
 have e:m.getD g 0=((alD m g:Nat):Int):=by unfold alD;omega
 refine ⟨?_,by unfold opN alD;omega⟩
 unfold yb0
 rw [Int.toNat_natCast,e,yxc]
theorem yxd (v:ycm s m L) (hc:c<s.length) {g:Nat} (hg:g<4*s.length):yb0 (swM s m c) (tw (kT s c) c g:Nat)=(tw (kT s c) c (opN (alD m g)):Nat):=by
 unfold yb0
 rw [Int.toNat_natCast,yss v hc hg,yxc,y7o _ yfd]
theorem ysu (v:ycm s m L) (hc:c<s.length) (x:Nat): ∀(f g:Nat),g<4*s.length->orbG (yb0 (swM s m c)) (tw (kT s c) c x:Nat) f (tw (kT s c) c g:Nat)=(orbG (yb0 m) x f g).map (tI (kT s c) c)
 |0,_,_=>rfl
 |f+1,g,hg=>by
  unfold orbG
  by_cases e:g=x
  ·subst e;rw [if_pos rfl,if_pos rfl];rfl
  ·have ne: ¬((tw (kT s c) c g:Nat):Int)=(tw (kT s c) c x:Nat):=fun e'=>e (ylv (c:=c) (yfd (s:=s) (c:=c)) (by omega))
   rw [if_neg ne,if_neg (by omega),yxd v hc hg,(yjk v hg).1,ysu v hc x f _ (yjk v hg).2,List.map_cons,yp0]
theorem y3v (v:ycm s m L) (hc:c<s.length) {x:Nat} (hx:x<4*s.length) (f:Nat):orbF (yb0 (swM s m c)) f (tw (kT s c) c x:Nat)=(orbF (yb0 m) f x).map (tI (kT s c) c):=by
 unfold orbF
 rw [yxd v hc hx,ysu v hc x f _ (yjk v hx).2,(yjk v hx).1,List.map_cons,yp0]
structure RelC (N k c:Nat) (st st':List (List Int)×List Bool):Prop where
 fst:st'.1=st.1.map (List.map (tI k c))
 len:st.2.length=N
 len':st'.2.length=N
 get: ∀y,y<N->st'.2.getD (tw k c y) false=st.2.getD y false
theorem RelC.step {want want':Int->Bool} {orb orb':Int->List Int} {st st':List (List Int)×List Bool} (h:RelC (4*n) k c st st') (hk:k=1\/k=3) {x:Nat} (hx:x<4*n) (hw:want' (tw k c x:Nat)=want x)
  (ho:orb' (tw k c x:Nat)=(orb x).map (tI k c)) (hr: ∀g∈orb x,0<=g/\g<4*n):RelC (4*n) k c (cys1 want orb x st) (cys1 want' orb' (tw k c x) st'):=by
 unfold cys1
 rw [h.get x hx,hw]
 split
 ·exact h
 ·refine ⟨?_,?_,?_,fun y hy=>?_⟩
  ·simp only [h.fst,ho,List.map_append,List.map_cons,List.map_nil]
  ·simp only;rw [yez];exact h.len
  ·simp only;rw [yez];exact h.len'
  ·simp only
   rw [ho,ye0 _ _ _ (fun g hg=>?_),ye0 _ _ _ (fun g hg=>by have:=hr g hg;rw [h.len];omega),h.get y hy]
   ·congr 1
    have:((tw k c y:Nat):Int)∈(orb x).map (tI k c)↔(y:Int)∈orb x:=by
     rw [List.mem_map]
     constructor
     ·rintro ⟨g,hg,e⟩
      have:=hr g hg
      unfold tI at e
      have e2:=ylv (c:=c) (x:=g.toNat) (y:=y) hk (Int.ofNat.inj e)
      rw [←e2,show ((g.toNat:Nat):Int)=g by omega];exact hg
     ·intro hg;exact ⟨_,hg,yp0 y⟩
    exact decide_eq_decide.2 this
   ·obtain ⟨z,hz,rfl⟩:=List.mem_map.1 hg
    have:=hr z hz
    have h2:=ygq (k:=k) (c:=c) (x:=z.toNat) (n:=n) (by omega)
    rw [h.len'];unfold tI;omega
theorem yd3 {want:Int->Bool} {orb:Int->List Int} {st:List (List Int)×List Bool} {x:Nat} (h:want x=false):cys1 want orb x st=st:=by
 unfold cys1;rw [h];simp
theorem yxe (v:ycm s m L) (hc:c<s.length): ∀q,q<=s.length->RelC (4*s.length) (kT s c) c (cysN (4*s.length) (outB s) (orbF (yb0 m) (4*s.length)) (4*q)) (cysN (4*s.length) (outB (swS s c)) (orbF (yb0 (swM s m c)) (4*s.length)) (4*q))
 |0,_=>⟨by simp [cysN],by simp [cysN],by simp [cysN],fun y hy=>by
  have:=ygq (k:=kT s c) (c:=c) hy
  simp only [cysN,Nat.mul_zero]
  rw [List.getD_eq_getElem?_getD,List.getD_eq_getElem?_getD,List.getElem?_replicate,List.getElem?_replicate,if_pos hy,if_pos this]⟩
 |q+1,hq=>by
  have ih:=yxe v hc q (by omega)
  have hs:=v.sg c hc
  have stp: ∀{st st':List (List Int)×List Bool} (x:Nat),x<4*s.length->RelC (4*s.length) (kT s c) c st st'->RelC (4*s.length) (kT s c) c (cys1 (outB s) (orbF (yb0 m) (4*s.length)) x st) (cys1 (outB (swS s c)) (orbF (yb0 (swM s m c)) (4*s.length)) (tw (kT s c) c x) st'):=fun {st st'} x hx h=>
   h.step yfd hx (ym8 hs hc hx) (y3v v hc hx _) (fun g hg=>by
    have hR:InR s.length (x:Int):=by unfold InR;omega
    have:=(yd0 (yhs v.prd) hR).2.1 g hg
    unfold InR at this;omega)
  simp only [show 4*(q+1)=4*q+1+1+1+1 by omega,cysN]
  generalize cysN (4*s.length) (outB s) (orbF (yb0 m) (4*s.length)) (4*q)=st at*
  generalize cysN (4*s.length) (outB (swS s c)) (orbF (yb0 (swM s m c)) (4*s.length)) (4*q)=st' at*
  by_cases e:q=c
  ·subst e
   have d:(4*(q:Int))/4=q/\(4*(q:Int)+1)/4=q/\(4*(q:Int)+2)/4=q/\(4*(q:Int)+3)/4=q:=by omega
   have r:(4*(q:Int))% 4=0/\(4*(q:Int)+1)% 4=1/\(4*(q:Int)+2)% 4=2/\(4*(q:Int)+3)% 4=3:=by omega
   have o0: ∀t:List Int,outB t ((4*q:Nat):Int)=false:=fun t=>by
    unfold outB;rw [show (((4*q:Nat):Int))% 4=0 by omega];simp
   rcases hs with hs|hs
   ·have hk:kT s q=1:=by unfold kT;rw [if_pos hs]
    have o3:outB s ((4*q+1+1+1:Nat):Int)=false:=by
     unfold outB;rw [show (((4*q+1+1+1:Nat):Int))% 4=3 by omega,show ((((4*q+1+1+1:Nat):Int))/4).toNat=q by omega,hs];decide
    have o1:outB (swS s q) ((4*q+1:Nat):Int)=false:=by
     unfold outB;rw [show (((4*q+1:Nat):Int))% 4=1 by omega,show ((((4*q+1:Nat):Int))/4).toNat=q by omega,yjj hc,if_pos (show q=q from rfl),hs];decide
    rw [yd3 o3,yd3 (o0 s),yd3 o1,yd3 (o0 _)]
    have h1:=stp (4*q+1) (by omega) ih
    rw [show tw (kT s q) q (4*q+1)=4*q+1+1 by rw [hk];unfold tw;rw [if_pos (by omega)];omega] at h1
    have h2:=stp (4*q+1+1) (by omega) h1
    rw [show tw (kT s q) q (4*q+1+1)=4*q+1+1+1 by rw [hk];unfold tw;rw [if_pos (by omega)];omega] at h2
    exact h2
   ·have hk:kT s q=3:=by unfold kT;rw [if_neg (by omega)]
    have o1:outB s ((4*q+1:Nat):Int)=false:=by
     unfold outB;rw [show (((4*q+1:Nat):Int))% 4=1 by omega,show ((((4*q+1:Nat):Int))/4).toNat=q by omega,hs];decide
    have o3:outB (swS s q) ((4*q+1+1+1:Nat):Int)=false:=by
     unfold outB;rw [show (((4*q+1+1+1:Nat):Int))% 4=3 by omega,show ((((4*q+1+1+1:Nat):Int))/4).toNat=q by omega,yjj hc,if_pos (show q=q from rfl),hs];decide
    rw [yd3 o3,yd3 (o0 s),yd3 o1,yd3 (o0 _)]
    have h1:=stp (4*q+1+1) (by omega) ih
    rw [show tw (kT s q) q (4*q+1+1)=4*q+1 by rw [hk];unfold tw;rw [if_pos (by omega)];omega] at h1
    have h2:=stp (4*q+1+1+1) (by omega) h1
    rw [show tw (kT s q) q (4*q+1+1+1)=4*q+1+1 by rw [hk];unfold tw;rw [if_pos (by omega)];omega] at h2
    exact h2
  ·have t0: ∀x:Nat,x/4=q->tw (kT s c) c x=x:=fun x hx=>yc8 (by omega)
   have h1:=stp (4*q) (by omega) ih
   rw [t0 _ (by omega)] at h1
   have h2:=stp (4*q+1) (by omega) h1
   rw [t0 _ (by omega)] at h2
   have h3:=stp (4*q+1+1) (by omega) h2
   rw [t0 _ (by omega)] at h3
   have h4:=stp (4*q+1+1+1) (by omega) h3
   rw [t0 _ (by omega)] at h4
   exact h4
theorem yuv (hv:ya4 s m L=true) (hc:c<s.length):yaq (swS s c) (swM s m c)=(yaq s m).map (List.map (tI (kT s c) c)):=by
 have v:=ya8 hv
 unfold yaq
 rw [yst,v.len]
 exact (yxe v hc s.length (Nat.le_refl _)).fst
end
end Sp
end Go.Proofs.YtfgbnalnbdhimaaGreatDoor
namespace Go.Proofs.YtfgbnalnbdhimaaGreatDoor
namespace Sp
end Sp
end Go.Proofs.YtfgbnalnbdhimaaGreatDoor
namespace Go.Proofs.YtfgbnalnbdhimaaGreatDoor
namespace Sp
section
variable {s m:List Int} {L:Int} {n c k:Nat}
theorem yp1: ∀(l r:List Int) (v:List Bool),badS v (l++r)=match badS v l with
  |(some c,v')=>(some c,v')
  |(none,v')=>badS v' r
 |[],r,v=>rfl
 |h::l,r,v=>by
  simp only [List.cons_append,badS]
  by_cases e:v.getD (h/4).toNat false=false/\h % 2=0
  ·rw [if_pos e,if_pos e]
  ·rw [if_neg e,if_neg e];exact yp1 l r _
theorem ylw: ∀(ls:List (List Int)) (v:List Bool),ydr v ls=(badS v ls.flatten).1
 |[],v=>rfl
 |l::ls,v=>by
  simp only [ydr,List.flatten_cons]
  rw [yp1]
  split
  ·rename_i e;first|rw [e]|rfl
  ·rename_i v' e;(try rw [e]);exact ylw ls v'
def bcN (v:List Bool):List Int->Nat
 |[]=>0
 |h::t=>(if v.getD (h/4).toNat false=false/\h % 2=0 then 1 else 0)+bcN (v.set (h/4).toNat true) t
theorem yp2 {v:List Bool} {i j:Nat} (h:v.getD i false=true):(v.set j true).getD i false=true:=by
 by_cases e:j=i
 ·subst e
  have:j<v.length:=Classical.byContradiction fun h'=>by rw [List.getD_eq_getElem?_getD,List.getElem?_eq_none (by omega)] at h;cases h
  exact yar this
 ·rw [yam e];exact h
theorem yxf (x:Int) (h:0<=x):tI k c x/4=x/4:=by
 unfold tI;have:=ylu k c x.toNat;omega
theorem yxg (x:Int) (h:0<=x) (hx:x/4≠c):tI k c x=x:=by
 unfold tI;rw [yc8 (by omega)];omega
theorem y5v (x:Int) (h:0<=x) (hx:x/4=c) (hk:k=1\/k=3):tI k c x % 2≠x % 2:=by
 unfold tI tw;rw [if_pos (by omega)];rcases hk with rfl|rfl<;>omega
theorem yp3: ∀(l:List Int) (v:List Bool),v.getD c false=true->(∀x∈l,0<=x)->bcN v (l.map (tI k c))=bcN v l
 |[],_,_,_=>rfl
 |h::l,v,hv,hl=>by
  have h0:=hl h List.mem_cons_self
  simp only [List.map_cons,bcN]
  rw [yxf h h0,yp3 l _ (yp2 hv) (fun x hx=>hl x (List.mem_cons_of_mem _ hx))]
  by_cases e:h/4=c
  ·rw [e,Int.toNat_natCast,hv,if_neg (fun h=>by cases h.1),if_neg (fun h=>by cases h.1)]
  ·rw [yxg h h0 e]
theorem yn2: ∀(l:List Int) (v:List Bool),v.getD c false=true->(∀x∈l,0<=x)->(badS v l).1≠some (c:Int)
 |[],_,_,_=>by simp [badS]
 |h::l,v,hv,hl=>by
  have h0:=hl h List.mem_cons_self
  simp only [badS]
  split
  ·rename_i e
   intro e'
   have e2:h/4=(c:Int):=Option.some.inj e'
   rw [e2,Int.toNat_natCast,hv] at e
   cases e.1
  ·exact yn2 l _ (yp2 hv) (fun x hx=>hl x (List.mem_cons_of_mem _ hx))
theorem yxh (hk:k=1\/k=3): ∀(l:List Int) (v:List Bool),(∀x∈l,0<=x/\x<4*v.length)->(badS v l).1=some (c:Int)->bcN v (l.map (tI k c))+1=bcN v l
 |[],v,_,h=>by simp [badS] at h
 |h::l,v,hl,hb=>by
  have h0:=hl h List.mem_cons_self
  have hl': ∀x∈l,0<=x/\x<4*(v.set (h/4).toNat true).length:=fun x hx=>by rw [List.length_set];exact hl x (List.mem_cons_of_mem _ hx)
  simp only [badS] at hb
  simp only [List.map_cons,bcN]
  rw [yxf h h0.1]
  have hset:(v.set (h/4).toNat true).getD (h/4).toNat false=true:=yar (by omega)
  split at hb
  ·rename_i e
   have e2:h/4=(c:Int):=Option.some.inj hb
   have hp:=y5v (c:=c) h h0.1 e2 hk
   rw [if_pos e,if_neg (fun e'=>by omega)]
   have h3:(h/4).toNat=c:=by omega
   rw [h3] at hset⊢
   rw [yp3 l _ hset (fun x hx=>(hl' x hx).1)]
   omega
  ·rename_i e
   by_cases e2:h/4=(c:Int)
   ·have h3:(h/4).toNat=c:=by omega
    rw [h3] at hset hb
    exact absurd hb (yn2 l _ hset (fun x hx=>(hl' x hx).1))
   ·rw [yxg h h0.1 e2]
    have:=yxh hk l _ hl' hb
    omega
theorem y0q {v:List Bool} {i:Nat} (h:i<v.length) (hv:v.getD i false=true):v.set i true=v:=by
 apply List.ext_getElem (by simp)
 intro j h1 h2
 rw [List.getElem_set]
 split
 ·rename_i e;subst e
  have:v.getD i false=v[i]:=by rw [List.getD_eq_getElem?_getD,List.getElem?_eq_getElem h];rfl
  rw [←this,hv]
 ·rfl
theorem yxi: ∀(l:List Int) (v:List Bool),(∀x∈l,0<=x/\x<4*v.length)->bcN v l<=unm v
 |[],v,_=>by simp [bcN]
 |h::l,v,hl=>by
  have h0:=hl h List.mem_cons_self
  have ih:=yxi l (v.set (h/4).toNat true) (fun x hx=>by rw [List.length_set];exact hl x (List.mem_cons_of_mem _ hx))
  simp only [bcN]
  cases e:v.getD (h/4).toNat false with
  |false=>have:=yr9 (i:=(h/4).toNat) (by omega) e;split<;>omega
  |true=>rw [y0q (by omega) e] at ih⊢;simp;exact ih
def bc (s m:List Int):Nat:=bcN (List.replicate s.length false) (yaq s m).flatten
theorem yp4 (v:ycm s m L): ∀x∈(yaq s m).flatten,0<=x/\x<4*((List.replicate s.length false).length:Nat):=fun x hx=>by
 obtain ⟨l,h1,h2⟩:=List.mem_flatten.1 hx
 have:=(yf1 v.prd h1).2 x h2
 rw [List.length_replicate];exact this
theorem yjl (v:ycm s m L):bc s m<=s.length:=by
 have:=yxi _ _ (yp4 v)
 unfold bc
 refine Nat.le_trans this ?_
 unfold unm
 refine Nat.le_trans List.countP_le_length ?_
 simp
theorem y1s (hv:ya4 s m L=true) (hc:c<s.length) (hb:badO s m=some (c:Int)):bc (swS s c) (swM s m c)+1=bc s m:=by
 unfold bc
 rw [yc0,yuv hv hc,←List.map_flatten]
 refine yxh yfd _ _ (yp4 (ya8 hv)) ?_
 rw [←ylw];exact hb
theorem yp5 {N:Nat} {want:Int->Bool} {orb:Int->List Int}: ∀h,(cysN N want orb h).1=[]->(cysN N want orb h).2=List.replicate N false/\ ∀x,x<h->x<N->want x=false
 |0,_=>⟨rfl,fun x hx=>by omega⟩
 |h+1,e=>by
  simp only [cysN,cys1] at e⊢
  by_cases hq:((cysN N want orb h).2.getD h false|| !want h)=true
  ·rw [if_pos hq] at e⊢
   obtain ⟨h1,h2⟩:=yp5 h e
   refine ⟨h1,fun x hx hN=>?_⟩
   by_cases hxh:x<h
   ·exact h2 x hxh hN
   ·obtain rfl:x=h:=by omega
    rw [h1,List.getD_eq_getElem?_getD,List.getElem?_replicate,if_pos hN] at hq
    simpa using hq
  ·rw [if_neg hq] at e;simp at e
theorem strands_pos (v:ycm s m L) (h:0<s.length):0<(yaq s m).length:=by
 apply Nat.pos_of_ne_zero
 intro e
 have hn:yaq s m=[]:=List.eq_nil_of_length_eq_zero e
 have h2:=(yp5 _ hn).2 2 (by rw [v.len];omega) (by rw [v.len];omega)
 simp [outB] at h2
theorem ysv {b:Bool}: ∀k,k<=4-> ∀x,smU m b 0 k x=false
 |0,_,_=>rfl
 |k+1,hk,x=>by simp only [smU];rw [if_pos (by omega)];exact ysv k (by omega) x
theorem y3w {b:Bool}:1<=smL m b 0 1:=by
 unfold smL
 simp only [Nat.mul_one]
 rw [ysv 4 (Nat.le_refl _)]
 simp only [Bool.false_eq_true,if_false]
 split<;>omega
end
end Sp
end Go.Proofs.YtfgbnalnbdhimaaGreatDoor
namespace Go.Proofs.YtfgbnalnbdhimaaGreatDoor
namespace Sp
section
variable {s m:List Int} {L:Int} {n c k:Nat}
end
end Sp
end Go.Proofs.YtfgbnalnbdhimaaGreatDoor
namespace Go.Proofs.YtfgbnalnbdhimaaGreatDoor
set_option linter.unusedSimpArgs false
set_option linter.unusedVariables false
namespace Hs
def dN:Nat->Int->Int
 |0,e=>if e=0 then 1 else 0
 |n+1,e=>dN n (e+1)-dN n (e-1)
theorem dN_sup: ∀(n:Nat) (e:Int),dN n e≠0-> -(n:Int)<=e/\e<=n/\(e-n)% 2=0
 |0,e,h=>by
  unfold dN at h
  by_cases h0:e=0
  ·subst h0;decide
  ·rw [if_neg h0] at h;exact absurd rfl h
 |n+1,e,h=>by
  unfold dN at h
  by_cases h1:dN n (e+1)=0
  ·have:=dN_sup n (e-1) (by intro h2;rw [h1,h2] at h;exact h rfl)
   omega
  ·have:=dN_sup n (e+1) h1
   omega
theorem dN_bnd: ∀(n:Nat) (e:Int),-(2^n:Int)<=dN n e/\dN n e<=2^n
 |0,e=>by unfold dN;split<;>decide
 |n+1,e=>by
  unfold dN
  have h1:=dN_bnd n (e+1)
  have h2:=dN_bnd n (e-1)
  rw [Int.pow_succ]
  omega
def Xh (a b:Int) (i j:Int) (k:Nat):Int:=if b=j-(k-1) then dN (k-1) (a-i) else 0
section
variable {s m:List Int} {L:Int}
end
end Hs
end Go.Proofs.YtfgbnalnbdhimaaGreatDoor
namespace Go.Proofs.YtfgbnalnbdhimaaGreatDoor
set_option linter.unusedSimpArgs false
set_option linter.unusedVariables false
namespace Hs
def Dl (g:Int->Int->Int) (a b:Int):Int:=g (a+1) (b+1)-g (a-1) (b+1)
theorem Xh_k (a b i j:Int) {k:Nat} (hk:1<=k):Xh a b i j (k+1)=Xh (a+1) (b+1) i j k-Xh (a-1) (b+1) i j k:=by
 obtain ⟨n,rfl⟩: ∃n,k=n+1:=⟨k-1,by omega⟩
 unfold Xh
 have e1:((n+1:Nat):Int)-1=n:=by omega
 have e2:((n+1+1:Nat):Int)-1=n+1:=by omega
 rw [e1,e2,show n+1-1=n by omega,show n+1+1-1=n+1 by omega]
 by_cases h:b=j-(n+1)
 ·rw [if_pos h,if_pos (by omega),if_pos (by omega)]
  have e3:dN (n+1) (a-i)=dN n (a-i+1)-dN n (a-i-1):=rfl
  rw [e3,show a+1-i=a-i+1 by omega,show a-1-i=a-i-1 by omega]
 ·rw [if_neg h,if_neg (by omega),if_neg (by omega)];rfl
section
variable {s m:List Int} {l:Nat}
end
section
variable {s m:List Int} {l:Nat}
end
end Hs
end Go.Proofs.YtfgbnalnbdhimaaGreatDoor
namespace Go.Proofs.YtfgbnalnbdhimaaGreatDoor
set_option linter.unusedSimpArgs false
set_option linter.unusedVariables false
namespace Hs
section
variable {s m:List Int} {L:Int}
theorem Xh_1 (a b:Int):Xh a b 0 0 1=if a=0/\b=0 then 1 else 0:=by
 unfold Xh
 show (if b=0-(((1:Nat):Int)-1) then (if a-0=0 then 1 else 0) else 0)=_
 by_cases h:a=0/\b=0
 ·rw [if_pos (by omega),if_pos (by omega),if_pos h]
 ·rw [if_neg h]
  by_cases h1:b=0-(((1:Nat):Int)-1)
  ·rw [if_pos h1,if_neg (by omega)]
  ·rw [if_neg h1]
theorem y7p (n:Nat) (a b:Int):Xh a b 0 0 (n+1+1)=Dl (fun a b=>Xh a b 0 0 (n+1)) a b:=Xh_k a b 0 0 (by omega)
end
end Hs
end Go.Proofs.YtfgbnalnbdhimaaGreatDoor
namespace Go.Proofs.YtfgbnalnbdhimaaGreatDoor
set_option linter.unusedSimpArgs false
set_option linter.unusedVariables false
namespace Hs
def XE (k:Nat) (e:Int):Int:=Xh (bvA e) (bvZ e) 0 0 k
theorem XE_sup (k:Nat):SupB (XE k) (k+1):=fun e he=>by
 unfold XE Xh at he
 by_cases hb:bvZ e=0-((k:Int)-1)
 ·rw [if_pos hb] at he
  have:=dN_sup _ _ he
  omega
 ·rw [if_neg hb] at he;exact absurd rfl he
theorem XE_bnd (k:Nat) (e:Int): -(2^k:Int)<=XE k e/\XE k e<=2^k:=by
 unfold XE Xh
 have h1:=dN_bnd (k-1) (bvA e-0)
 have h2:((2^(k-1):Nat):Int)<=((2^k:Nat):Int):=Int.ofNat_le.2 (Nat.pow_le_pow_right (by decide) (Nat.sub_le k 1))
 rw [Int.natCast_pow,Int.natCast_pow] at h2
 have h3:(0:Int)<=2^(k-1):=Int.pow_nonneg (by decide)
 have h4:(0:Int)<=2^k:=Int.le_trans h3 h2
 split
 ·exact ⟨Int.le_trans (Int.neg_le_neg h2) h1.1,Int.le_trans h1.2 h2⟩
 ·exact ⟨Int.neg_nonpos_of_nonneg h4,h4⟩
theorem XE_1:yag [(0,1)] (XE 1):=by
 have b0:bvA 0=0/\bvZ 0=0:=by decide
 refine ⟨⟨by simp,fun t ht=>by simp only [List.mem_singleton] at ht;subst ht;decide⟩,fun e=>?_⟩
 unfold XE
 rw [Xh_1]
 simp only [cfL,Int.add_zero]
 by_cases h:e=0
 ·subst h;rw [if_pos rfl,if_pos b0]
 ·rw [if_neg (fun h'=>h h'.symm),if_neg fun h'=>h ?_]
  have:=yb9 e
  rw [h'.1,h'.2] at this
  rw [←this];decide
theorem yxj {n:Nat} (hn:n<=1000) {e e':Int} (h: -1048576<=bvZ e'/\bvZ e'<=1048576):XE n (e-e')=Xh (bvA e-bvA e') (bvZ e-bvZ e') 0 0 n:=by
 have e1:e-e'=bvE (bvA e-bvA e') (bvZ e-bvZ e'):=by
  have h1:=yb9 e
  have h2:=yb9 e'
  unfold bvE at*
  omega
 unfold XE
 by_cases hz: -8388608<=bvZ e-bvZ e'/\bvZ e-bvZ e'<8388608
 ·rw [e1,yet hz,yc2 hz]
 ·have b1:=ym3 e
  have k:bvZ (e-e')=bvZ e-bvZ e'-16777216\/bvZ (e-e')=bvZ e-bvZ e'+16777216:=by
   unfold bvZ at*
   omega
  unfold Xh
  rw [if_neg (by omega),if_neg (by omega)]
theorem XE_S (n:Nat) (hn:n<=900) (e:Int):XE (n+1+1) e=XE (n+1) (e-bvE (-1) (-1))-XE (n+1) (e-bvE 1 (-1)):=by
 rw [yxj (by omega) (by rw [yc2 (by omega)];omega),yxj (by omega) (by rw [yc2 (by omega)];omega)]
 rw [yet (by omega),yc2 (by omega),yet (by omega),yc2 (by omega)]
 unfold XE
 rw [y7p]
 unfold Dl
 rw [show bvA e- -1=bvA e+1 by omega,show bvZ e- -1=bvZ e+1 by omega]
section
variable {s m:List Int} {l:Nat}
end
end Hs
end Go.Proofs.YtfgbnalnbdhimaaGreatDoor
namespace Go.Proofs.YtfgbnalnbdhimaaGreatDoor
open Sp
set_option linter.unusedSimpArgs false
set_option linter.unusedVariables false
structure ybk (s m:List Int) (l:Nat):Prop where
 val:ya4 s m l=true
 len:3*s.length+l<=36
 n14:s.length<=9
 pos:0<s.length\/0<l
theorem yg8 {motive:List Int->List Int->Nat->Prop} (desc: ∀s m l,ybk s m l->badO s m=none->motive s m l)
  (step: ∀(s m:List Int) (l c l':Nat),ybk s m l->badO s m=some (c:Int)->c<s.length->(s.getD c 0=1\/s.getD c 0= -1)->smLp s m c l=l'->ybk (swS s c) (swM s m c) l->(swS s c).length=s.length->ybk (smS s c) (smM s m c) l'->(smS s c).length+1=s.length->motive (swS s c) (swM s m c) l->motive (smS s c) (smM s m c) l'->motive s m l):
  ∀s m l,ybk s m l->motive s m l:=by
 have key: ∀(f:Nat) (s m:List Int) (l:Nat),ybk s m l->s.length*s.length+bc s m+1<=f->motive s m l:=by
  intro f
  induction f with
  |zero=>intro s m l _ h;omega
  |succ f ih=>
   intro s m l h hf
   have v:=ya8 h.val
   have hbl:=yjl v
   have hn:=h.n14
   have hl:=h.len
   cases hb:badO s m with
   |none=>exact desc s m l h hb
   |some c=>
    have hcr:=ypk v.prd hb
    obtain ⟨c,rfl⟩: ∃d:Nat,c=d:=⟨c.toNat,by omega⟩
    have hc:c<s.length:=by omega
    have hsm:=yfl (m:=m) (b:=(s.getD c 0== -1)) (c:=c) (n:=s.length)
    have hlp:smLp s m c l=l+smL m (s.getD c 0== -1) c s.length:=rfl
    obtain ⟨v2,l2⟩:=yis h.val hc (by omega)
    have v1:=ypz h.val hc
    have hbs:=y1s h.val hc hb
    have hb2:=yjl (ya8 v2)
    obtain ⟨d,hd⟩: ∃d,s.length=d+1:=⟨s.length-1,by omega⟩
    have hsq:s.length*s.length=d*d+2*d+1:=by rw [hd,Nat.add_mul,Nat.mul_add];omega
    obtain ⟨l',hl'⟩: ∃l':Nat,smLp s m c l=l':=⟨(smLp s m c l).toNat,by omega⟩
    have h1:ybk (swS s c) (swM s m c) l:=⟨v1,by rw [yc0];omega,by rw [yc0];omega,by rw [yc0];exact h.pos⟩
    have h2:ybk (smS s c) (smM s m c) l':=⟨by rw [←hl'];exact v2,by rw [l2];omega,by rw [l2];omega,by
     rw [l2]
     by_cases h1:0<s.length-1
     ·exact .inl h1
     ·have hl1:s.length=1:=by omega
      obtain rfl:c=0:=by omega
      have:=y3w (m:=m) (b:=(s.getD 0 0== -1))
      rw [hl1] at hlp
      right;omega⟩
    exact step s m l c l' h hb hc (v.sg c hc) hl' h1 (yc0 ..) h2 (by rw [l2];omega) (ih _ _ _ h1 (by rw [yc0];omega)) (ih _ _ _ h2 (by rw [l2,hd,Nat.add_sub_cancel];rw [l2] at hb2;omega))
 exact fun s m l h=>key _ s m l h (Nat.le_refl _)
end Go.Proofs.YtfgbnalnbdhimaaGreatDoor
namespace Go.Proofs.YtfgbnalnbdhimaaGreatDoor
open Sp
set_option linter.unusedSimpArgs false
set_option linter.unusedVariables false
structure HomV (W M:Nat) (F:List Int->List Int->Nat->Int->Int):Prop where
 sup: ∀{s m:List Int} {l:Nat},ybk s m l->s.length<=W/\3*s.length+l<=M->SupB (F s m l) 140
 bnd: ∀{s m:List Int} {l:Nat},ybk s m l->s.length<=W/\3*s.length+l<=M->BndB (F s m l)
 desc: ∀{s m:List Int} {l:Nat},ybk s m l->s.length<=W/\3*s.length+l<=M->badO s m=none-> ∀e,F s m l e=Hs.XE (l+(yaq s m).length) e
 step: ∀{s m:List Int} {l c l':Nat},ybk s m l->s.length<=W/\3*s.length+l<=M->badO s m=some (c:Int)->c<s.length->smLp s m c l=l'->ybk (swS s c) (swM s m c) l->ybk (smS s c) (smM s m c) l'->
  ∀e,F s m l e=F (swS s c) (swM s m c) l (e-bvE (2*s.getD c 0) 0)+s.getD c 0*F (smS s c) (smM s m c) l' (e-bvE (s.getD c 0) 1)
theorem y5w {W M:Nat} {s m:List Int} {l c l':Nat} (h:ybk s m l) (hM:s.length<=W/\3*s.length+l<=M) (hc:c<s.length) (hl':smLp s m c l=l') (e1:(swS s c).length=s.length) (e2:(smS s c).length+1=s.length):((swS s c).length<=W/\3*(swS s c).length+l<=M)/\(smS s c).length<=W/\3*(smS s c).length+l'<=M:=by
 have hsm:=yfl (m:=m) (b:=(s.getD c 0== -1)) (c:=c) (n:=s.length)
 have hlp:smLp s m c l=l+smL m (s.getD c 0== -1) c s.length:=rfl
 omega
end Go.Proofs.YtfgbnalnbdhimaaGreatDoor
