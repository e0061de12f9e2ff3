/- Plain functions and facts: labels, cycles, spheres, circles, smoothing. -/
import Derived.Test.YtmdjdekgakidhaaDoorTy
set_option linter.unusedSimpArgs false
set_option linter.unusedVariables false
namespace Go.Proofs.YtmdjdekgakidhaaDoor
def lb1 (m:List Int) (c p:Int) (s:Nat) (st:List Int×List Int):List Int×List Int:=
 let to:=m.getD (4*c+s).toNat 0/4
 if st.1.getD to.toNat 0<0 then (st.1.set to.toNat p,st.2++[to]) else st
def lb4 (m:List Int) (c p:Int) (st:List Int×List Int):Nat->List Int×List Int
 |0=>st
 |s+1=>lb1 m c p s (lb4 m c p st s)
def bfs (m:List Int) (p:Int):Nat->List Int->List Int->List Int
 |_,part,[]=>part
 |0,part,_::_=>part
 |n+1,part,c::q=>let st:=lb4 m c p (part,q) 4;bfs m p n st.1 st.2
def lbC (m:List Int) (n c:Nat) (st:List Int×Int):List Int×Int:=
 if 0<=st.1.getD c 0 then st else (bfs m st.2 (2*n+1) (st.1.set c st.2) [(c:Int)],st.2+1)
def lbN (m:List Int) (n:Nat):Nat->List Int×Int
 |0=>(List.replicate n (-1),0)
 |c+1=>lbC m n c (lbN m n c)
def ycn (m:List Int) (n:Nat):List Int×Int:=lbN m n n
theorem ybj {α:Type} {l:List α} {i:Nat} {a d:α} (h:i<l.length):(l.set i a).getD i d=a:=by simp [h]
theorem yaz {α:Type} {l:List α} {i j:Nat} {a d:α} (h:i≠j):(l.set i a).getD j d=l.getD j d:=by simp [h]
theorem yyw {α:Type} (a b:α) (n k:Nat) (h:k<n):(List.replicate k a++List.replicate (n-k) b).set k a=List.replicate (k+1) a++List.replicate (n-(k+1)) b:=by
 rw [List.set_append_right _ _ (by simp),List.length_replicate,Nat.sub_self]
 obtain ⟨d,hd⟩: ∃d,n-k=d+1:=⟨n-k-1,by omega⟩
 rw [hd,List.replicate_succ,List.set_cons_zero,show n-(k+1)=d by omega,List.replicate_succ',List.append_assoc];rfl
def negs (l:List Int):Nat:=l.countP fun x=>decide (x<0)
theorem yo5 {l:List Int} {i:Nat} {p:Int} (hi:i<l.length) (hl:l.getD i 0<0) (hp:0<=p):negs (l.set i p)+1=negs l:=by
 unfold negs
 induction l generalizing i with
 |nil=>simp at hi
 |cons x l ih=>
  cases i with
  |zero=>
   simp at hl
   simp [List.countP_cons,hl,Int.not_lt.2 hp]
  |succ i=>
   simp only [List.set_cons_succ,List.countP_cons]
   have:=ih (i:=i) (by simpa using hi) (by simpa using hl)
   omega
theorem y2f (l:List Int):negs l<=l.length:=List.countP_le_length
def yba (m:List Int) (n:Nat):Prop:=m.length=4*n/\ ∀i,i<4*n->0<=m.getD i 0/\m.getD i 0<4*n
def qOk (n:Nat) (q:List Int):Prop:= ∀x∈q,0<=x/\x<n
def pOk (n:Nat) (p:Int) (l:List Int):Prop:=l.length=n/\ ∀i,i<n-> -1<=l.getD i 0/\l.getD i 0<=p
theorem y4t {m:List Int} {n:Nat} (hm:yba m n) {c p:Int} (hc:0<=c/\c<n) (hp:0<=p) {s:Nat} (hs:s<4) {st:List Int×List Int} (h1:pOk n p st.1) (h2:qOk n st.2):
  pOk n p (lb1 m c p s st).1/\qOk n (lb1 m c p s st).2/\2*negs (lb1 m c p s st).1+(lb1 m c p s st).2.length<=2*negs st.1+st.2.length/\(lb1 m c p s st).2.length<=st.2.length+1:=by
 have hto:=hm.2 (4*c+s).toNat (by omega)
 unfold lb1
 simp only
 have hto':0<=m.getD (4*c+s).toNat 0/4/\m.getD (4*c+s).toNat 0/4<n:=by omega
 generalize m.getD (4*c+s).toNat 0/4=to at*
 split
 ·rename_i hneg
  have hlt:to.toNat<st.1.length:=by rw [h1.1];omega
  have hn:=yo5 hlt hneg hp
  refine ⟨⟨by simp [h1.1],fun i hi=>?_⟩,fun x hx=>?_,?_,by simp⟩
  ·by_cases e:to.toNat=i
   ·subst e;rw [ybj hlt];omega
   ·rw [yaz e];exact h1.2 i hi
  ·rcases List.mem_append.1 hx with hx|hx
   ·exact h2 x hx
   ·rw [List.mem_singleton.1 hx];exact hto'
  ·simp only [List.length_append,List.length_singleton];omega
 ·exact ⟨h1,h2,Nat.le_refl _,by omega⟩
theorem yo6 {m:List Int} {n:Nat} (hm:yba m n) {c p:Int} (hc:0<=c/\c<n) (hp:0<=p) {st:List Int×List Int} (h1:pOk n p st.1) (h2:qOk n st.2): ∀s,s<=4->
  pOk n p (lb4 m c p st s).1/\qOk n (lb4 m c p st s).2/\2*negs (lb4 m c p st s).1+(lb4 m c p st s).2.length<=2*negs st.1+st.2.length/\(lb4 m c p st s).2.length<=st.2.length+s
 |0,_=>⟨h1,h2,Nat.le_refl _,by simp [lb4]⟩
 |s+1,hs=>by
  obtain ⟨g1,g2,g3,g5⟩:=yo6 hm hc hp h1 h2 s (by omega)
  obtain ⟨k1,k2,k3,k5⟩:=y4t hm hc hp (show s<4 by omega) g1 g2
  exact ⟨k1,k2,by simp only [lb4];omega,by simp only [lb4];omega⟩
theorem yo7 {m:List Int} {n:Nat} (hm:yba m n) {p:Int} (hp:0<=p): ∀(f:Nat) (part q:List Int),pOk n p part->qOk n q->pOk n p (bfs m p f part q)
 |_,part,[],h,_=>by unfold bfs;exact h
 |0,part,_::_,h,_=>by simpa [bfs] using h
 |f+1,part,c::q,h,hq=>by
  simp only [bfs]
  obtain ⟨g1,g2,_⟩:=yo6 hm (hq c (by simp)) hp (st:=(part,q)) h (fun x hx=>hq x (by simp [hx])) 4 (Nat.le_refl _)
  exact yo7 hm hp f _ _ g1 g2
theorem ylw {m:List Int} {n:Nat} (hm:yba m n): ∀k,k<=n->pOk n (lbN m n k).2 (lbN m n k).1/\0<=(lbN m n k).2/\(lbN m n k).2<=k
 |0,_=>⟨⟨by simp [lbN],fun i hi=>by simp [lbN,hi]⟩,by simp [lbN],by simp [lbN]⟩
 |k+1,hk=>by
  obtain ⟨h1,h2,h3⟩:=ylw hm k (by omega)
  simp only [lbN,lbC]
  split
  ·exact ⟨h1,h2,by omega⟩
  ·refine ⟨?_,by omega,by omega⟩
   have:pOk n ((lbN m n k).2) (bfs m (lbN m n k).2 (2*n+1) ((lbN m n k).1.set k (lbN m n k).2) [(k:Int)]):=by
    refine yo7 hm h2 _ _ _ ⟨by simp [h1.1],fun i hi=>?_⟩ (fun x hx=>by simp at hx;omega)
    have hkl:k<(lbN m n k).1.length:=by rw [h1.1];omega
    by_cases e:k=i
    ·subst e;rw [ybj hkl];omega
    ·rw [yaz e];exact h1.2 i hi
   exact ⟨this.1,fun i hi=>by have:=this.2 i hi;simp only;omega⟩
end Go.Proofs.YtmdjdekgakidhaaDoor
namespace Go.Proofs.YtmdjdekgakidhaaDoor
def ydg (h b:Int):Int:=h-h % 4+(h % 4+b.tmod 4+4)% 4
theorem yre {h b:Int} {n:Nat} (h0:0<=h) (h1:h<4*n):0<=ydg h b/\ydg h b<4*n:=by
 have: -4<b.tmod 4/\b.tmod 4<4:=⟨Int.lt_tmod_of_pos b (by decide),Int.tmod_lt_of_pos b (by decide)⟩
 unfold ydg;omega
theorem yyx {m:List Int} {c p:Int} {s:Nat} {st:List Int×List Int} {i:Nat} (h:0<=st.1.getD i 0):(lb1 m c p s st).1.getD i 0=st.1.getD i 0:=by
 unfold lb1
 simp only
 split
 ·rename_i hn
  by_cases e:(m.getD (4*c+s).toNat 0/4).toNat=i
  ·subst e;omega
  ·simp only;rw [yaz e]
 ·rfl
theorem yo8 {m:List Int} {c p:Int} {st:List Int×List Int} {i:Nat} (h:0<=st.1.getD i 0): ∀s,(lb4 m c p st s).1.getD i 0=st.1.getD i 0
 |0=>rfl
 |s+1=>by
  have:=yo8 (m:=m) (c:=c) (p:=p) h s
  simp only [lb4];rw [yyx (by omega),this]
theorem yo9 {m:List Int} {p:Int} {i:Nat}: ∀(f:Nat) (part q:List Int),0<=part.getD i 0->(bfs m p f part q).getD i 0=part.getD i 0
 |_,part,[],h=>by unfold bfs;rfl
 |0,part,_::_,h=>by simp [bfs]
 |f+1,part,c::q,h=>by
  simp only [bfs]
  have:=yo8 (m:=m) (c:=c) (p:=p) (st:=(part,q)) h 4
  rw [yo9 f _ _ (by rw [this];exact h),this]
theorem ypa {m:List Int} {n:Nat} (hm:yba m n): ∀k,k<=n-> ∀i,i<n->(lbN m n k).1.getD i 0<(lbN m n k).2/\(i<k->0<=(lbN m n k).1.getD i 0)
 |0,_,i,hi=>by simp [lbN,hi]
 |k+1,hk,i,hi=>by
  obtain ⟨h1,h2⟩:=ypa hm k (by omega) i hi
  obtain ⟨g1,g2,g3⟩:=ylw hm k (by omega)
  simp only [lbN,lbC]
  split
  ·rename_i h0
   refine ⟨h1,fun hik=>?_⟩
   rcases Nat.lt_or_ge i k with g|g
   ·exact h2 g
   ·rwa [show i=k by omega]
  ·rename_i h0
   have hkl:k<(lbN m n k).1.length:=by rw [g1.1];omega
   have hset:pOk n (lbN m n k).2 ((lbN m n k).1.set k (lbN m n k).2):=⟨by simp [g1.1],fun i hi=>by
    by_cases e:k=i
    ·subst e;rw [ybj hkl];omega
    ·rw [yaz e];exact g1.2 i hi⟩
   have hb:=yo7 hm g2 (2*n+1) _ [(k:Int)] hset (fun x hx=>by simp at hx;omega)
   have hbi:=hb.2 i hi
   refine ⟨by simp only;omega,fun hik=>?_⟩
   have hnn:0<=((lbN m n k).1.set k (lbN m n k).2).getD i 0:=by
    by_cases e:k=i
    ·subst e;rw [ybj hkl];exact g2
    ·rw [yaz e];exact h2 (by omega)
   simp only
   rw [yo9 _ _ _ hnn];exact hnn
theorem yvp {m:List Int} {n:Nat} (hm:yba m n):(ycn m n).1.length=n/\0<=(ycn m n).2/\(ycn m n).2<=n/\ ∀i,i<n->0<=(ycn m n).1.getD i 0/\(ycn m n).1.getD i 0<(ycn m n).2:=by
 obtain ⟨g1,g2,g3⟩:=ylw hm n (Nat.le_refl _)
 exact ⟨g1.1,g2,g3,fun i hi=>⟨(ypa hm n (Nat.le_refl _) i hi).2 hi,(ypa hm n (Nat.le_refl _) i hi).1⟩⟩
def decs (part:List Int) (np:Nat):Nat->List Int
 |0=>List.replicate np 0
 |k+1=>let e:=decs part np k;let p:=(part.getD k 0).toNat;e.set p (e.getD p 0-1)
theorem ymo (part:List Int) (np:Nat): ∀k,(decs part np k).length=np/\ ∀i,-(k:Int)<=(decs part np k).getD i 0/\(decs part np k).getD i 0<=0
 |0=>⟨by simp [decs],fun i=>by
   by_cases h:i<np
   ·simp [decs,h]
   ·simp [decs,h]⟩
 |k+1=>by
  obtain ⟨h1,h2⟩:=ymo part np k
  refine ⟨by simp [decs,h1],fun i=>?_⟩
  simp only [decs]
  by_cases e:(part.getD k 0).toNat=i
  ·by_cases hl:i<(decs part np k).length
   ·subst e;rw [ybj hl];have:=h2 (part.getD k 0).toNat;omega
   ·have:=h2 i;rw [List.set_eq_of_length_le (by omega)];omega
  ·rw [yaz e];have:=h2 i;omega
def mark (m:List Int):Nat->List Bool->Int->List Bool
 |0,s,_=>s
 |f+1,s,g=>if s.getD g.toNat false then s else mark m f (s.set g.toNat true) (ydg (m.getD g.toNat 0) (-1))
def sph1 (m part:List Int) (h:Nat) (st:List Int×List Bool):List Int×List Bool:=
 if st.2.getD h false then st else
  let p:=(part.getD (h/4) 0).toNat
  (st.1.set p (st.1.getD p 0+1),mark m (m.length+1) st.2 h)
def sphN (m part:List Int) (np:Nat):Nat->List Int×List Bool
 |0=>(decs part np part.length,List.replicate m.length false)
 |h+1=>sph1 m part h (sphN m part np h)
def sphM (m:List Int) (n:Nat):Bool:=(sphN m (ycn m n).1 (ycn m n).2.toNat m.length).1.all (· ==2)
def unm (s:List Bool):Nat:=s.countP fun x=> !x
theorem y2g {l:List Bool} {i:Nat} (hi:i<l.length) (hl:l.getD i false=false):unm (l.set i true)+1=unm l:=by
 unfold unm
 induction l generalizing i with
 |nil=>simp at hi
 |cons x l ih=>
  cases i with
  |zero=>
   simp at hl
   simp [hl]
  |succ i=>
   simp only [List.set_cons_succ,List.countP_cons]
   have:=ih (i:=i) (by simpa using hi) (by simpa using hl)
   omega
theorem y4u (l:List Bool):unm l<=l.length:=List.countP_le_length
theorem ypb (m:List Int): ∀(f:Nat) (s:List Bool) (g:Int),(mark m f s g).length=s.length
 |0,_,_=>rfl
 |f+1,s,g=>by
  simp only [mark]
  split
  ·rfl
  ·rw [ypb m f];simp
theorem yi6 (m part:List Int) (np:Nat): ∀h,(sphN m part np h).1.length=np/\(sphN m part np h).2.length=m.length/\ ∀i,-(part.length:Int)<=(sphN m part np h).1.getD i 0/\(sphN m part np h).1.getD i 0<=h
 |0=>by
  obtain ⟨h1,h2⟩:=ymo part np part.length
  exact ⟨h1,by simp [sphN],fun i=>by have:=h2 i;simp only [sphN];omega⟩
 |h+1=>by
  obtain ⟨h1,h2,h3⟩:=yi6 m part np h
  simp only [sphN,sph1]
  split
  ·exact ⟨h1,h2,fun i=>by have:=h3 i;omega⟩
  ·refine ⟨by simp [h1],by simp only;rw [ypb];exact h2,fun i=>?_⟩
   simp only
   by_cases e:(part.getD (h/4) 0).toNat=i
   ·by_cases hl:i<(sphN m part np h).1.length
    ·subst e;rw [ybj hl];have:=h3 (part.getD (h/4) 0).toNat;omega
    ·have:=h3 i;rw [List.set_eq_of_length_le (by omega)];omega
   ·rw [yaz e];have:=h3 i;omega
def outB (s:List Int) (h:Int):Bool:=if h % 4=1 then s.getD (h/4).toNat 0==1 else if h % 4=2 then true else if h % 4=3 then s.getD (h/4).toNat 0== -1 else false
def yc7 (s:List Int) (k:Nat):Prop:= ∀i,i<k->s.getD i 0=1\/s.getD i 0= -1
def yc8 (s m:List Int) (k:Nat):Prop:= ∀h:Nat,h<k->0<=m.getD h 0/\m.getD h 0<4*s.length/\m.getD h 0≠h/\m.getD (m.getD h 0).toNat 0=h/\outB s h≠outB s (m.getD h 0)
instance (s:List Int) (k:Nat):Decidable (yc7 s k):=inferInstanceAs (Decidable (∀i,i<k->s.getD i 0=1\/s.getD i 0= -1))
instance (s m:List Int) (k:Nat):Decidable (yc8 s m k):=inferInstanceAs (Decidable (∀h:Nat,h<k->0<=m.getD h 0/\m.getD h 0<4*s.length/\m.getD h 0≠h/\m.getD (m.getD h 0).toNat 0=h/\outB s h≠outB s (m.getD h 0)))
def yi7 (s m:List Int) (L:Int):Bool:=decide (s.length<=64/\m.length=4*s.length/\0<=L/\L<=64/\yc7 s s.length/\yc8 s m (4*s.length))
def ybb (s m:List Int) (L:Int):Bool:=yi7 s m L&&sphM m s.length
theorem vbF {s m:List Int} {L:Int} (h: ¬(s.length<=64/\m.length=4*s.length/\0<=L/\L<=64/\yc7 s s.length/\yc8 s m (4*s.length))):false=ybb s m L:=by
 unfold ybb yi7;rw [decide_eq_false h];rfl
theorem vbT {s m:List Int} {L:Int} (h:s.length<=64/\m.length=4*s.length/\0<=L/\L<=64/\yc7 s s.length/\yc8 s m (4*s.length)):sphM m s.length=ybb s m L:=by
 unfold ybb yi7;rw [decide_eq_true h];rfl
theorem ytz {s m:List Int} {L:Int}:ybb s m L=true↔(s.length<=64/\m.length=4*s.length/\0<=L/\L<=64/\yc7 s s.length/\yc8 s m (4*s.length))/\sphM m s.length=true:=by
 unfold ybb yi7
 rw [Bool.and_eq_true,decide_eq_true_iff]
theorem yim {s:List Int} {k:Nat} (h:yc7 s k) (hx:s.getD k 0=1\/s.getD k 0= -1):yc7 s (k+1):=fun i hi=>by
 rcases Nat.lt_or_ge i k with g|g
 ·exact h i g
 ·rw [show i=k by omega];exact hx
theorem ypc {s m:List Int} {k:Nat} (h:yc8 s m k) (hx:0<=m.getD k 0/\m.getD k 0<4*s.length/\m.getD k 0≠k/\m.getD (m.getD k 0).toNat 0=k/\outB s k≠outB s (m.getD k 0)):yc8 s m (k+1):=fun i hi=>by
 rcases Nat.lt_or_ge i k with g|g
 ·exact h i g
 ·rw [show i=k by omega];exact hx
theorem nbt {b:Bool} (h:b=false): ¬b=true:=by simp [h]
theorem yt0 {l:List Int} {k:Nat} (hk:k<l.length) (h: ¬l.getD k 0=2):l.all (· ==2)=false:=by
 cases ha:l.all (· ==2) with
 |false=>rfl
 |true=>
  have:=List.all_eq_true.1 ha _ (List.getElem_mem hk)
  simp only [beq_iff_eq] at this
  simp [hk,this] at h
theorem yvq {l:List Int} (h: ∀i,i<l.length->l.getD i 0=2):l.all (· ==2)=true:=by
 rw [List.all_eq_true]
 intro x hx
 obtain ⟨i,hi,rfl⟩:=List.mem_iff_getElem.1 hx
 have:=h i hi
 simpa [hi] using this
end Go.Proofs.YtmdjdekgakidhaaDoor
namespace Go.Proofs.YtmdjdekgakidhaaDoor
def it (nx:Int->Int):Nat->Int->Int
 |0,x=>x
 |j+1,x=>nx (it nx j x)
def its (nx:Int->Int) (x:Int) (k:Nat):List Int:=(List.range k).map fun j=>it nx j x
structure Per (nx:Int->Int) (x:Int) (k:Nat):Prop where
 pos:0<k
 back:it nx k x=x
 first: ∀j,0<j->j<k->it nx j x≠x
end Go.Proofs.YtmdjdekgakidhaaDoor
namespace Go.Proofs.YtmdjdekgakidhaaDoor
theorem yvr: ∀(N:Nat) (f:Nat->Nat),(∀i,i<=N->f i<N)-> ∃i j,i<j/\j<=N/\f i=f j
 |0,f,h=>absurd (h 0 (Nat.le_refl _)) (by omega)
 |N+1,f,h=>by
  by_cases hx: ∃i,i<=N/\f i=f (N+1)
  ·obtain ⟨i,hi,e⟩:=hx;exact ⟨i,N+1,by omega,by omega,e⟩
  ·have hne: ∀i,i<=N->f i≠f (N+1):=fun i hi e=>hx ⟨i,hi,e⟩
   have hg: ∀i,i<=N->(if f i=N then f (N+1) else f i)<N:=by
    intro i hi
    have h1:=h i (by omega)
    have h2:=h (N+1) (by omega)
    have h3:=hne i hi
    split<;>omega
   obtain ⟨i,j,hij,hj,e⟩:=yvr N (fun i=>if f i=N then f (N+1) else f i) hg
   refine ⟨i,j,hij,by omega,?_⟩
   have h1:=hne i (by omega)
   have h2:=hne j hj
   split at e<;>split at e<;>omega
theorem yt1 {p:Nat->Prop}: ∀n,p n-> ∃k,k<=n/\p k/\ ∀m,m<k-> ¬p m:=by
 intro n
 induction n using Nat.strongRecOn with
 |_ n ih=>
  intro hn
  by_cases hx: ∃m,m<n/\p m
  ·obtain ⟨m,hm,hp⟩:=hx
   obtain ⟨k,h1,h2,h3⟩:=ih m hm hp
   exact ⟨k,by omega,h2,h3⟩
  ·exact ⟨n,Nat.le_refl _,hn,fun m hm hp=>hx ⟨m,hm,hp⟩⟩
structure Perm (nx:Int->Int) (N:Nat) (S:Int->Prop):Prop where
 rng: ∀x,S x->0<=x/\x<N
 closed: ∀x,S x->S (nx x)
 inj: ∀x y,S x->S y->nx x=nx y->x=y
section
variable {nx:Int->Int} {N:Nat} {S:Int->Prop}
theorem Perm.it (h:Perm nx N S) {x:Int} (hx:S x): ∀j,S (it nx j x)
 |0=>hx
 |j+1=>h.closed _ (h.it hx j)
theorem Perm.cancel (h:Perm nx N S) {x:Int} (hx:S x): ∀i d,Proofs.YtmdjdekgakidhaaDoor.it nx (i+d) x=Proofs.YtmdjdekgakidhaaDoor.it nx i x->Proofs.YtmdjdekgakidhaaDoor.it nx d x=x
 |0,d,e=>by simpa [Proofs.YtmdjdekgakidhaaDoor.it] using e
 |i+1,d,e=>by
  rw [Nat.add_right_comm] at e
  exact h.cancel hx i d (h.inj _ _ (h.it hx _) (h.it hx _) e)
theorem Perm.per (h:Perm nx N S) {x:Int} (hx:S x): ∃k,k<=N/\Per nx x k:=by
 obtain ⟨i,j,hij,hj,e⟩:=yvr N (fun j=>(Proofs.YtmdjdekgakidhaaDoor.it nx j x).toNat) (fun i _=>by have:=h.rng _ (h.it hx i);omega)
 have r1:=h.rng _ (h.it hx i)
 have r2:=h.rng _ (h.it hx j)
 have e':Proofs.YtmdjdekgakidhaaDoor.it nx (i+(j-i)) x=Proofs.YtmdjdekgakidhaaDoor.it nx i x:=by rw [show i+(j-i)=j by omega];omega
 have hd:=h.cancel hx i (j-i) e'
 obtain ⟨k,h1,⟨h2,h3⟩,h4⟩:=yt1 (p:=fun d=>0<d/\Proofs.YtmdjdekgakidhaaDoor.it nx d x=x) (j-i) ⟨by omega,hd⟩
 exact ⟨k,by omega,h2,h3,fun m hm hlt e=>h4 m hlt ⟨hm,e⟩⟩
end
end Go.Proofs.YtmdjdekgakidhaaDoor
namespace Go.Proofs.YtmdjdekgakidhaaDoor
structure y4v (m:List Int) (n:Nat):Prop where
 ok:yba m n
 inv: ∀h:Nat,h<4*n->m.getD (m.getD h 0).toNat 0=h
section
variable {m:List Int} {n:Nat}
end
end Go.Proofs.YtmdjdekgakidhaaDoor
namespace Go.Proofs.YtmdjdekgakidhaaDoor
def InR (n:Nat) (x:Int):Prop:=0<=x/\x<4*n
section
variable {m:List Int} {n:Nat}
end
end Go.Proofs.YtmdjdekgakidhaaDoor
namespace Go.Proofs.YtmdjdekgakidhaaDoor
theorem yfg (h:Int):ydg h 1=h-h % 4+(h % 4+5)% 4:=by
 have:(1:Int).tmod 4=1:=by decide
 unfold ydg;rw [this];omega
theorem ydw (h:Int):ydg h (-1)=h-h % 4+(h % 4+3)% 4:=by
 have:(-1:Int).tmod 4= -1:=by decide
 unfold ydg;rw [this];omega
def jnB (b:Bool) (h:Int):Int:=if decide (h % 2=1)=b then ydg h 1 else ydg h (-1)
theorem yfh (b:Bool) (h:Int):jnB b h/4=h/4:=by
 unfold jnB;rw [yfg,ydw];split<;>omega
theorem yi8 (b:Bool) (h:Int):jnB b (jnB b h)=h:=by
 unfold jnB
 rw [yfg,ydw]
 cases b
 ·by_cases e:h % 2=1
  ·simp only [e,decide_true,Bool.true_eq_false,if_false]
   have: ¬(h-h % 4+(h % 4+3)% 4)% 2=1:=by omega
   simp only [this,decide_false,if_true]
   rw [yfg];omega
  ·simp only [e,decide_false,if_true]
   have:(h-h % 4+(h % 4+5)% 4)% 2=1:=by omega
   simp only [this,decide_true,Bool.true_eq_false,if_false]
   rw [ydw];omega
 ·by_cases e:h % 2=1
  ·simp only [e,decide_true,if_true]
   have: ¬(h-h % 4+(h % 4+5)% 4)% 2=1:=by omega
   simp only [this,decide_false,Bool.false_eq_true,if_false]
   rw [ydw];omega
  ·simp only [e,decide_false,Bool.false_eq_true,if_false]
   have:(h-h % 4+(h % 4+3)% 4)% 2=1:=by omega
   simp only [this,decide_true,if_true]
   rw [yfg];omega
theorem ylx (b:Bool) (h:Int):jnB b h≠h:=by
 unfold jnB;rw [yfg,ydw];split<;>omega
section
variable {m:List Int} {n:Nat} {b:Bool} {c:Nat}
end
end Go.Proofs.YtmdjdekgakidhaaDoor
namespace Go.Proofs.YtmdjdekgakidhaaDoor
structure y4w (s m:List Int) (L:Int):Prop where
 s64:s.length<=64
 len:m.length=4*s.length
 l0:0<=L
 l64:L<=64
 sg:yc7 s s.length
 mt:yc8 s m (4*s.length)
 prd:y4v m s.length
theorem yin {s m:List Int} {L:Int} (h:ybb s m L=true):y4w s m L:=by
 obtain ⟨⟨h1,h2,h3,h4,h5,h6⟩,_⟩:=ytz.1 h
 exact ⟨h1,h2,h3,h4,h5,h6,⟨h2,fun i hi=>⟨(h6 i hi).1,(h6 i hi).2.1⟩⟩,fun i hi=>(h6 i hi).2.2.2.1⟩
end Go.Proofs.YtmdjdekgakidhaaDoor
set_option linter.unusedSimpArgs false
set_option linter.unusedVariables false
namespace Go.Proofs.YtmdjdekgakidhaaDoor
open Go Go.RowKit
set_option maxRecDepth 100000
abbrev roI (l:List Int):AV:= .ro 1 l.length (.ints l)
abbrev roB (l:List Bool):AV:= .ro 1 l.length (.bools l)
abbrev dgA (s m:List Int) (L:Int):AV:= .agg [roI s,roI m,I L]
attribute [go_sem] roI roB dgA
def roF (l:List Int):AV:= .ro 1 l.length (.ints l)
theorem yvs (H:Hp) (l:List Int):s3 H (roF l)=true:=rfl
theorem yt2 (H:Hp) (ls:List (List Int)):ls.all (s3 H∘roF)=true:=by simp [yvs]
theorem y2h (n:Nat):cutV n∘roF=roF:=by funext l;rfl
theorem yyy (H:Hp) (n:Nat):snap H (n+1)∘roF=roF:=by funext l;rfl
attribute [go_sem] yvs yt2 y2h yyy
theorem yrx {a b:Int} (h:0<=a):a.tdiv b=a/b:=Int.tdiv_eq_ediv_of_nonneg h
theorem y2i (h b:Int) (h0:0<=h) (h1:h<=100000):Fn Tryd.prog 50 [I h,I b] (I (h-h % 4+(h % 4+b.tmod 4+4)% 4)):=by
 have e1:h.tmod 4=h % 4:=Int.tmod_eq_emod_of_nonneg h0
 have e2: -4<b.tmod 4/\b.tmod 4<4:=⟨Int.lt_tmod_of_pos b (by decide),Int.tmod_lt_of_pos b (by decide)⟩
 have e3:(h % 4+b.tmod 4+4).tmod 4=(h % 4+b.tmod 4+4)% 4:=Int.tmod_eq_emod_of_nonneg (by omega)
 refine Fn.intro [.tmp 4] Tryd.func50 rfl rfl (by decide) (by simp [Tryd.ntmps50]) ?_;rw [Tryd.ntmps50]
 repeat' (first|omega|(try apply yaa);simp only [go_sem,sevalprocAttr]|apply yae<;>(intro h_;(try simp only [h_]);revert h_)|apply yad|apply yab|apply gspI|apply And.intro|with_reducible intro h_|trivial|simp only [go_sem,la2];omega)
 all_goals try simp only [e1,e3]
 all_goals try omega
theorem ykb (s m:List Int) (L h:Int) (h0:0<=h) (h1:h<4*s.length) (hs:s.length<=1000):Fn Tryd.prog 37 [dgA s m L,I h] (.bool (outB s h)):=by
 have e1:h.tmod 4=h % 4:=Int.tmod_eq_emod_of_nonneg h0
 have e2:h.tdiv 4=h/4:=Int.tdiv_eq_ediv_of_nonneg h0
 refine Fn.intro [.tmp 4] Tryd.func37 rfl rfl (by decide) (by simp [Tryd.ntmps37]) ?_;rw [Tryd.ntmps37]
 repeat' (first|omega|(try apply yaa);simp only [go_sem,sevalprocAttr]|apply yae<;>(intro h_;(try simp only [h_]);revert h_)|apply yad|apply yab|apply gspI|apply And.intro|with_reducible intro h_|trivial|simp only [go_sem,la2];omega)
 all_goals try simp only [e1,e2] at*
 all_goals try omega
 all_goals simp_all [outB]
theorem yyz (s m:List Int) (L:Int) (hs:s.length<=1000) (hm:yba m s.length):Fn Tryd.prog 49 [dgA s m L] (.tup [roI (ycn m s.length).1,I (ycn m s.length).2]):=by
 refine Fn.intro [.tmp 2, .tmp 3] Tryd.func49 rfl rfl (by decide) (by simp [Tryd.ntmps49]) ?_;rw [Tryd.ntmps49]
 repeat' (first|omega|(try apply yaa);simp only [go_sem,sevalprocAttr]|apply yae<;>(intro h_;(try simp only [h_]);revert h_)|apply yad|apply yab|apply gspI|apply And.intro|with_reducible intro h_|trivial|simp only [go_sem,la2];omega)
 refine yak.intro (fun n fr H=> ∃k:Nat,k<=s.length/\n=s.length-k/\fr=[(18,I k),(17,I s.length),(4, .sl 1 1 0 s.length),(1, .ptr 0 0)]/\H=[(1, .cells 3 (.ints (List.replicate k (-1)++List.replicate (s.length-k) 0))),(0, .cells 25 (.lst [roI s,roI m,I L]))]) ?_ ?_
 ·refine ⟨_,_,_,?_,0,by omega,rfl,rfl,rfl⟩
  refine Wk.sub ?_ ?_<;>simp only [go_sem,sevalprocAttr]
  simp
 rintro n fr H ⟨k,hk,rfl,rfl,rfl⟩
 repeat' (first|omega|(try apply yaa);simp only [go_sem,sevalprocAttr]|apply yae<;>(intro h_;(try simp only [h_]);revert h_)|apply yad|apply yab|apply gspI|apply And.intro|with_reducible intro h_|trivial|simp only [go_sem,la2];omega)
 ·refine ⟨_,_,_,?_,?_,⟨k+1,by omega,rfl,rfl,rfl⟩⟩
  ·omega
  ·refine Wk.sub ?_ ?_<;>simp only [go_sem,sevalprocAttr]
   exact yyw _ _ _ _ (by omega)
 obtain rfl:k=s.length:=by omega
 refine yak.intro (fun n fr H=> ∃k:Nat,k<=s.length/\n=s.length-k/\fr=[(27,I k),(26,I s.length),(6,I (lbN m s.length k).2),(4, .sl 1 1 0 s.length),(1, .ptr 0 0)]/\H=[(1, .cells 3 (.ints (lbN m s.length k).1)),(0, .cells 25 (.lst [roI s,roI m,I L]))]) ?_ ?_
 ·refine ⟨_,_,_,?_,0,by omega,rfl,rfl,rfl⟩
  refine Wk.sub ?_ ?_<;>simp only [go_sem,sevalprocAttr]
  ·simp [lbN]
  ·simp [lbN]
 rintro n fr H ⟨k,hk,rfl,rfl,rfl⟩
 obtain ⟨hp1,hp2,hp3⟩:=ylw hm k hk
 have hpl:=hp1.1
 repeat' (first|omega|(try apply yaa);simp only [go_sem,sevalprocAttr]|apply yae<;>(intro h_;(try simp only [h_]);revert h_)|apply yad|apply yab|apply gspI|apply And.intro|with_reducible intro h_|trivial|simp only [go_sem,la2];omega)
 ·refine ⟨_,_,_,?_,?_,⟨k+1,by omega,rfl,rfl,rfl⟩⟩
  ·omega
  ·have e:lbN m s.length (k+1)=lbN m s.length k:=by simp only [lbN,lbC];rw [if_pos (by assumption)]
   refine Wk.sub ?_ ?_<;>(simp only [go_sem,sevalprocAttr];rw [e])
 ·have hneg:(lbN m s.length k).1.getD k 0<0:=by assumption
  have hkn:k<s.length:=by omega
  have eN:lbN m s.length (k+1)=(bfs m (lbN m s.length k).2 (2*s.length+1) ((lbN m s.length k).1.set k (lbN m s.length k).2) [(k:Int)],(lbN m s.length k).2+1):=by simp only [lbN,lbC];rw [if_neg (by omega)]
  have hn0:=yo5 (i:=k) (by omega) hneg hp2
  have hnl:=y2f (lbN m s.length k).1
  have hp0:pOk s.length (lbN m s.length k).2 ((lbN m s.length k).1.set k (lbN m s.length k).2):=⟨by simp [hpl],fun i hi=>by
   by_cases e:k=i
   ·subst e;rw [ybj (by omega)];omega
   ·rw [yaz e];exact hp1.2 i hi⟩
  generalize (lbN m s.length k).1.set k (lbN m s.length k).2=part0 at*
  refine yak.intro (fun f fr H=> ∃(part q cq:List Int) (off:Nat),2*negs part+q.length<=f/\f<=2*s.length+1/\pOk s.length (lbN m s.length k).2 part/\qOk s.length q/\off+q.length=cq.length/\cq.drop off=q/\bfs m (lbN m s.length k).2 f part q=bfs m (lbN m s.length k).2 (2*s.length+1) part0 [(k:Int)]/\
   fr=[(8, .sl 1 2 off q.length),(27,I k),(26,I s.length),(6,I (lbN m s.length k).2),(4, .sl 1 1 0 s.length),(1, .ptr 0 0)]/\H=[(2, .cells 3 (.ints cq)),(1, .cells 3 (.ints part)),(0, .cells 25 (.lst [roI s,roI m,I L]))]) ?_ ?_
  ·refine ⟨_,_,_,?_,part0,[(k:Int)],[(k:Int)],0,?_,Nat.le_refl _,hp0,fun x hx=>by simp at hx;omega,rfl,rfl,rfl,rfl,rfl⟩
   ·refine Wk.sub ?_ ?_<;>simp only [go_sem,sevalprocAttr]
   ·simp only [List.length_singleton];omega
  rintro f fr H ⟨part,q,cq,off,hf,hf2,hpp,hqq,hoc,hdr,hbf,rfl,rfl⟩
  have hppl:=hpp.1
  repeat' (first|omega|(try apply yaa);simp only [go_sem,sevalprocAttr]|apply yae<;>(intro h_;(try simp only [h_]);revert h_)|apply yad|apply yab|apply gspI|apply And.intro|with_reducible intro h_|trivial|simp only [go_sem,la2];omega)
  ·--the four neighbours
   have hq0:0<q.length:=by omega
   obtain ⟨c,q',rfl⟩: ∃c q',q=c::q':=by
    cases q with
    |nil=>simp at hq0
    |cons c q'=>exact ⟨c,q',rfl⟩
   have hcg:cq.getD off 0=c:=by
    have:=congrArg (fun l=>l.getD 0 0) hdr
    simpa using this
   have hdr':cq.drop (off+1)=q':=by
    have:=congrArg List.tail hdr
    simpa using this
   have hcr:=hqq c (by simp)
   have hqq':qOk s.length q':=fun x hx=>hqq x (by simp [hx])
   simp only [List.length_cons] at hf hoc
   rw [hcg]
   refine yak.intro (fun j fr H=> ∃(i:Nat) (cq off':_),j=4-i/\i<=4/\off'+(lb4 m c (lbN m s.length k).2 (part,q') i).2.length=(cq:List Int).length/\cq.drop off'=(lb4 m c (lbN m s.length k).2 (part,q') i).2/\
    fr=[(49,I i),(8, .sl 1 2 off' (lb4 m c (lbN m s.length k).2 (part,q') i).2.length),(9,I c),(27,I k),(26,I s.length),(6,I (lbN m s.length k).2),(4, .sl 1 1 0 s.length),(1, .ptr 0 0)]/\H=[(2, .cells 3 (.ints cq)),(1, .cells 3 (.ints (lb4 m c (lbN m s.length k).2 (part,q') i).1)),(0, .cells 25 (.lst [roI s,roI m,I L]))]) ?_ ?_
   ·refine ⟨_,_,_,?_,0,cq,off+1,rfl,by omega,by simp only [lb4];omega,by simp only [lb4];exact hdr',rfl,rfl⟩
    refine Wk.sub ?_ ?_<;>simp only [go_sem,sevalprocAttr]
    ·simp [lb4]
    ·simp [lb4]
   rintro j fr H ⟨i,cq,off',rfl,hi,hol,hod,rfl,rfl⟩
   obtain ⟨g1,g2,g3,g5⟩:=yo6 hm hcr hp2 (st:=(part,q')) hpp hqq' i hi
   have g1l:=g1.1
   simp only at g3 g5
   by_cases hi4:i<4
   ·have hmr:=hm.2 (4*c+i).toNat (by omega)
    have hml:=hm.1
    have e2:(m.getD (4*c+i).toNat 0).tdiv 4=m.getD (4*c+i).toNat 0/4:=yrx hmr.1
    have hto:0<=m.getD (4*c+i).toNat 0/4/\m.getD (4*c+i).toNat 0/4<s.length:=by omega
    have eL:lb4 m c (lbN m s.length k).2 (part,q') (i+1)=lb1 m c (lbN m s.length k).2 i (lb4 m c (lbN m s.length k).2 (part,q') i):=rfl
    repeat' (first|omega|(try apply yaa);simp only [go_sem,sevalprocAttr,e2]|apply yae<;>(intro h_;(try simp only [h_]);revert h_)|apply yad|apply yab|apply gspI|apply And.intro|with_reducible intro h_|trivial|simp only [go_sem,la2];omega)
    ·have hng:(lb4 m c (lbN m s.length k).2 (part,q') i).1.getD (m.getD (4*c+i).toNat 0/4).toNat 0<0:=by assumption
     have eB:lb4 m c (lbN m s.length k).2 (part,q') (i+1)=((lb4 m c (lbN m s.length k).2 (part,q') i).1.set (m.getD (4*c+i).toNat 0/4).toNat (lbN m s.length k).2,(lb4 m c (lbN m s.length k).2 (part,q') i).2++[m.getD (4*c+i).toNat 0/4]):=by
      rw [eL];unfold lb1;simp only;rw [if_pos hng]
     refine ⟨_,_,_,?_,?_,⟨i+1,cq.drop off'++[m.getD (4*c+i).toNat 0/4],0,rfl,by omega,?_,?_,rfl,rfl⟩⟩
     ·omega
     ·refine Wk.sub ?_ ?_<;>(rw [eB];simp only [go_sem,sevalprocAttr])
     ·rw [eB,hod];simp
     ·rw [eB,hod];simp
    ·have hng:0<=(lb4 m c (lbN m s.length k).2 (part,q') i).1.getD (m.getD (4*c+i).toNat 0/4).toNat 0:=by assumption
     have eB:lb4 m c (lbN m s.length k).2 (part,q') (i+1)=lb4 m c (lbN m s.length k).2 (part,q') i:=by
      rw [eL];unfold lb1;simp only;rw [if_neg (by omega)]
     refine ⟨_,_,_,?_,?_,⟨i+1,cq,off',rfl,by omega,?_,?_,rfl,rfl⟩⟩
     ·omega
     ·refine Wk.sub ?_ ?_<;>(rw [eB];simp only [go_sem,sevalprocAttr])
     ·rw [eB];exact hol
     ·rw [eB];exact hod
   ·obtain rfl:i=4:=by omega
    repeat' (first|omega|(try apply yaa);simp only [go_sem,sevalprocAttr]|apply yae<;>(intro h_;(try simp only [h_]);revert h_)|apply yad|apply yab|apply gspI|apply And.intro|with_reducible intro h_|trivial|simp only [go_sem,la2];omega)
    obtain ⟨f',rfl⟩: ∃f',f=f'+1:=⟨f-1,by omega⟩
    refine ⟨f',_,_,?_,?_,⟨(lb4 m c (lbN m s.length k).2 (part,q') 4).1,(lb4 m c (lbN m s.length k).2 (part,q') 4).2,cq,off',?_,?_,g1,g2,hol,hod,?_,rfl,rfl⟩⟩
    ·omega
    ·refine Wk.sub ?_ ?_<;>simp only [go_sem,sevalprocAttr]
    ·omega
    ·omega
    ·rw [←hbf];rfl
  ·obtain rfl:q=[]:=List.eq_nil_of_length_eq_zero (by omega)
   have eP:bfs m (lbN m s.length k).2 f part []=part:=by unfold bfs;rfl
   rw [eP] at hbf
   refine ⟨_,_,_,?_,?_,⟨k+1,by omega,rfl,rfl,rfl⟩⟩
   ·omega
   ·refine Wk.sub ?_ ?_<;>(rw [eN];simp only [go_sem,sevalprocAttr])
    exact hbf
 ·obtain rfl:k=s.length:=by omega
  exact hpl.symm
 ·obtain rfl:k=s.length:=by omega
  exact List.take_of_length_le (by omega)
 ·obtain rfl:k=s.length:=by omega
  rfl
end Go.Proofs.YtmdjdekgakidhaaDoor
