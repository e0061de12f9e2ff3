/- Plain functions and facts: labels, cycles, spheres, circles, smoothing. -/
import Derived.Test.YtmdjdekgakidhaaGreatDoorAl
set_option linter.unusedSimpArgs false
set_option linter.unusedVariables false
namespace Go.Proofs.YtmdjdekgakidhaaGreatDoor
def j5 (m:List Int) (c p:Int) (s:Nat) (st:List Int×List Int):List Int×List Int:=
 let to:=m.getD (4*c+s).toNat 0/4
 if st.1.getD to.toNat 0<0 then (st.1.set to.toNat p,st.2++[to]) else st
def lb4 (m:List Int) (c p:Int) (st:List Int×List Int):Nat->List Int×List Int
 |0=>st
 |s+1=>j5 m c p s (lb4 m c p st s)
def bfs (m:List Int) (p:Int):Nat->List Int->List Int->List Int
 |_,part,[]=>part
 |0,part,_::_=>part
 |n+1,part,c::q=>let st:=lb4 m c p (part,q) 4;bfs m p n st.1 st.2
def yQ (m:List Int) (n c:Nat) (st:List Int×Int):List Int×Int:=
 if 0<=st.1.getD c 0 then st else (bfs m st.2 (2*n+1) (st.1.set c st.2) [(c:Int)],st.2+1)
def bG (m:List Int) (n:Nat):Nat->List Int×Int
 |0=>(List.replicate n (-1),0)
 |c+1=>yQ m n c (bG m n c)
def eX (m:List Int) (n:Nat):List Int×Int:=bG m n n
theorem mh {α:Type} {l:List α} {i:Nat} {a d:α} (h:i<l.length):(l.set i a).getD i d=a:=by simp [h]
theorem lN {α:Type} {l:List α} {i j:Nat} {a d:α} (h:i≠j):(l.set i a).getD j d=l.getD j d:=by simp [h]
theorem V0 {α:Type} (a b:α) (n k:Nat) (h:k<n):(List.replicate k a++List.replicate (n-k) b).set k a=List.replicate (k+1) a++List.replicate (n-(k+1)) b:=by
 rw [List.set_append_right _ _ (by simp),List.length_replicate,Nat.sub_self];obtain ⟨d,hd⟩: ∃d,n-k=d+1:=⟨n-k-1,by omega⟩;rw [hd,List.replicate_succ,List.set_cons_zero,show n-(k+1)=d by omega,List.replicate_succ',List.append_assoc];rfl
def fU (l:List Int):Nat:=l.countP fun x=>decide (x<0)
theorem Eg {l:List Int} {i:Nat} {p:Int} (hi:i<l.length) (hl:l.getD i 0<0) (hp:0<=p):fU (l.set i p)+1=fU l:=by
 unfold fU
 induction l generalizing i with
 |nil=>simp at hi
 |cons x l ih=>
  cases i with
  |zero=>
   simp at hl;simp [List.countP_cons,hl,Int.not_lt.2 hp]
  |succ i=>
   simp only [List.set_cons_succ,List.countP_cons]
   have:=ih (i:=i) (by simpa using hi) (by simpa using hl)
   omega
theorem GR (l:List Int):fU l<=l.length:=List.countP_le_length
def iN (m:List Int) (n:Nat):Prop:=m.length=4*n/\ ∀i,i<4*n->0<=m.getD i 0/\m.getD i 0<4*n
def vv (n:Nat) (q:List Int):Prop:= ∀x∈q,0<=x/\x<n
def qo (n:Nat) (p:Int) (l:List Int):Prop:=l.length=n/\ ∀i,i<n-> -1<=l.getD i 0/\l.getD i 0<=p
theorem Sk {m:List Int} {n:Nat} (hm:iN m n) {c p:Int} (hc:0<=c/\c<n) (hp:0<=p) {s:Nat} (hs:s<4) {st:List Int×List Int} (h1:qo n p st.1) (h2:vv n st.2):
  qo n p (j5 m c p s st).1/\vv n (j5 m c p s st).2/\2*fU (j5 m c p s st).1+(j5 m c p s st).2.length<=2*fU st.1+st.2.length/\(j5 m c p s st).2.length<=st.2.length+1:=by
 have EZ:=hm.2 (4*c+s).toNat (by omega);unfold j5;simp only;have K7:0<=m.getD (4*c+s).toNat 0/4/\m.getD (4*c+s).toNat 0/4<n:=by omega
 generalize m.getD (4*c+s).toNat 0/4=to at*
 split
 ·rename_i im
  have ax:to.toNat<st.1.length:=by rw [h1.1];omega
  have hn:=Eg ax im hp;refine ⟨⟨by simp [h1.1],fun i hi=>?_⟩,fun x hx=>?_,?_,by simp⟩
  ·by_cases e:to.toNat=i
   ·subst e;rw [mh ax];omega
   ·rw [lN e];exact h1.2 i hi
  ·rcases List.mem_append.1 hx with hx|hx
   ·exact h2 x hx
   ·rw [List.mem_singleton.1 hx];exact K7
  ·simp only [zzF,List.length_singleton];omega
 ·exact ⟨h1,h2,zzA _,by omega⟩
theorem Dr {m:List Int} {n:Nat} (hm:iN m n) {c p:Int} (hc:0<=c/\c<n) (hp:0<=p) {st:List Int×List Int} (h1:qo n p st.1) (h2:vv n st.2): ∀s,s<=4->
  qo n p (lb4 m c p st s).1/\vv n (lb4 m c p st s).2/\2*fU (lb4 m c p st s).1+(lb4 m c p st s).2.length<=2*fU st.1+st.2.length/\(lb4 m c p st s).2.length<=st.2.length+s
 |0,_=>⟨h1,h2,zzA _,by simp [lb4]⟩
 |s+1,hs=>by
  obtain ⟨g1,g2,g3,g5⟩:=Dr hm hc hp h1 h2 s (by omega);obtain ⟨k1,k2,k3,k5⟩:=Sk hm hc hp (show s<4 by omega) g1 g2;exact ⟨k1,k2,by simp only [lb4];omega,by simp only [lb4];omega⟩
theorem F7 {m:List Int} {n:Nat} (hm:iN m n) {p:Int} (hp:0<=p): ∀(f:Nat) (part q:List Int),qo n p part->vv n q->qo n p (bfs m p f part q)
 |_,part,[],h,_=>by unfold bfs;exact h
 |0,part,_::_,h,_=>by simpa [bfs] using h
 |f+1,part,c::q,h,hq=>by
  simp only [bfs];obtain ⟨g1,g2,_⟩:=Dr hm (hq c (by simp)) hp (st:=(part,q)) h (fun x hx=>hq x (by simp [hx])) 4 (zzA _);exact F7 hm hp f _ _ g1 g2
theorem zw {m:List Int} {n:Nat} (hm:iN m n): ∀k,k<=n->qo n (bG m n k).2 (bG m n k).1/\0<=(bG m n k).2/\(bG m n k).2<=k
 |0,_=>⟨⟨by simp [bG],fun i hi=>by simp [bG,hi]⟩,by simp [bG],by simp [bG]⟩
 |k+1,hk=>by
  obtain ⟨h1,h2,h3⟩:=zw hm k (by omega);simp only [bG,yQ]
  split
  ·exact ⟨h1,h2,by omega⟩
  ·refine ⟨?_,by omega,by omega⟩
   have:qo n ((bG m n k).2) (bfs m (bG m n k).2 (2*n+1) ((bG m n k).1.set k (bG m n k).2) [(k:Int)]):=by
    refine F7 hm h2 _ _ _ ⟨by simp [h1.1],fun i hi=>?_⟩ (fun x hx=>by simp at hx;omega);have bM:k<(bG m n k).1.length:=by rw [h1.1];omega
    by_cases e:k=i
    ·subst e;rw [mh bM];omega
    ·rw [lN e];exact h1.2 i hi
   exact ⟨this.1,fun i hi=>by have:=this.2 i hi;simp only;omega⟩
def fC (h b:Int):Int:=h-h % 4+(h % 4+b.tmod 4+4)% 4
theorem EJ {h b:Int} {n:Nat} (h0:0<=h) (h1:h<4*n):0<=fC h b/\fC h b<4*n:=by
 have: -4<b.tmod 4/\b.tmod 4<4:=⟨Int.lt_tmod_of_pos b (by decide),Int.tmod_lt_of_pos b (by decide)⟩
 unfold fC;omega
theorem VZ {m:List Int} {c p:Int} {s:Nat} {st:List Int×List Int} {i:Nat} (h:0<=st.1.getD i 0):(j5 m c p s st).1.getD i 0=st.1.getD i 0:=by
 unfold j5;simp only
 split
 ·rename_i hn
  by_cases e:(m.getD (4*c+s).toNat 0/4).toNat=i
  ·subst e;omega
  ·simp only;rw [lN e]
 ·rfl
theorem Ph {m:List Int} {c p:Int} {st:List Int×List Int} {i:Nat} (h:0<=st.1.getD i 0): ∀s,(lb4 m c p st s).1.getD i 0=st.1.getD i 0
 |0=>rfl
 |s+1=>by
  have:=Ph (m:=m) (c:=c) (p:=p) h s
  simp only [lb4];rw [VZ (by omega),this]
theorem HI {m:List Int} {p:Int} {i:Nat}: ∀(f:Nat) (part q:List Int),0<=part.getD i 0->(bfs m p f part q).getD i 0=part.getD i 0
 |_,part,[],h=>by unfold bfs;rfl
 |0,part,_::_,h=>by simp [bfs]
 |f+1,part,c::q,h=>by
  simp only [bfs]
  have:=Ph (m:=m) (c:=c) (p:=p) (st:=(part,q)) h 4
  rw [HI f _ _ (by rw [this];exact h),this]
theorem zu {m:List Int} {n:Nat} (hm:iN m n): ∀k,k<=n-> ∀i,i<n->(bG m n k).1.getD i 0<(bG m n k).2/\(i<k->0<=(bG m n k).1.getD i 0)
 |0,_,i,hi=>by simp [bG,hi]
 |k+1,hk,i,hi=>by
  obtain ⟨h1,h2⟩:=zu hm k (by omega) i hi;obtain ⟨g1,g2,g3⟩:=zw hm k (by omega);simp only [bG,yQ]
  split
  ·rename_i h0
   refine ⟨h1,fun YO=>?_⟩;rcases Nat.lt_or_ge i k with g|g
   ·exact h2 g
   ·rwa [show i=k by omega]
  ·rename_i h0
   have bM:k<(bG m n k).1.length:=by rw [g1.1];omega
   have hset:qo n (bG m n k).2 ((bG m n k).1.set k (bG m n k).2):=⟨by simp [g1.1],fun i hi=>by
    by_cases e:k=i
    ·subst e;rw [mh bM];omega
    ·rw [lN e];exact g1.2 i hi⟩
   have hb:=F7 hm g2 (2*n+1) _ [(k:Int)] hset (fun x hx=>by simp at hx;omega);have Tl:=hb.2 i hi;refine ⟨by simp only;omega,fun YO=>?_⟩;have yZ:0<=((bG m n k).1.set k (bG m n k).2).getD i 0:=by
    by_cases e:k=i
    ·subst e;rw [mh bM];exact g2
    ·rw [lN e];exact h2 (by omega)
   simp only;rw [HI _ _ _ yZ];exact yZ
theorem HY {m:List Int} {n:Nat} (hm:iN m n):(eX m n).1.length=n/\0<=(eX m n).2/\(eX m n).2<=n/\ ∀i,i<n->0<=(eX m n).1.getD i 0/\(eX m n).1.getD i 0<(eX m n).2:=by
 obtain ⟨g1,g2,g3⟩:=zw hm n (zzA _);exact ⟨g1.1,g2,g3,fun i hi=>⟨(zu hm n (zzA _) i hi).2 hi,(zu hm n (zzA _) i hi).1⟩⟩
def fJ (part:List Int) (np:Nat):Nat->List Int
 |0=>List.replicate np 0
 |k+1=>let e:=fJ part np k;let p:=(part.getD k 0).toNat;e.set p (e.getD p 0-1)
theorem DX (part:List Int) (np:Nat): ∀k,(fJ part np k).length=np/\ ∀i,-(k:Int)<=(fJ part np k).getD i 0/\(fJ part np k).getD i 0<=0
 |0=>⟨by simp [fJ],fun i=>by
   by_cases h:i<np
   ·simp [fJ,h]
   ·simp [fJ,h]⟩
 |k+1=>by
  obtain ⟨h1,h2⟩:=DX part np k;refine ⟨by simp [fJ,h1],fun i=>?_⟩;simp only [fJ];by_cases e:(part.getD k 0).toNat=i
  ·by_cases hl:i<(fJ part np k).length
   ·subst e;rw [mh hl];have:=h2 (part.getD k 0).toNat;omega
   ·have:=h2 i;rw [List.set_eq_of_length_le (by omega)];omega
  ·rw [lN e];have:=h2 i;omega
def mark (m:List Int):Nat->List Bool->Int->List Bool
 |0,s,_=>s
 |f+1,s,g=>if s.getD g.toNat false then s else mark m f (s.set g.toNat true) (fC (m.getD g.toNat 0) (-1))
def qP (m part:List Int) (h:Nat) (st:List Int×List Bool):List Int×List Bool:=
 if st.2.getD h false then st else
  let p:=(part.getD (h/4) 0).toNat
  (st.1.set p (st.1.getD p 0+1),mark m (m.length+1) st.2 h)
def bF (m part:List Int) (np:Nat):Nat->List Int×List Bool
 |0=>(fJ part np part.length,List.replicate m.length false)
 |h+1=>qP m part h (bF m part np h)
def kN (m:List Int) (n:Nat):Bool:=(bF m (eX m n).1 (eX m n).2.toNat m.length).1.all (· ==2)
def AJ (s:List Bool):Nat:=s.countP fun x=> !x
theorem Kp {l:List Bool} {i:Nat} (hi:i<l.length) (hl:l.getD i false=false):AJ (l.set i true)+1=AJ l:=by
 unfold AJ
 induction l generalizing i with
 |nil=>simp at hi
 |cons x l ih=>
  cases i with
  |zero=>
   simp at hl;simp [hl]
  |succ i=>
   simp only [List.set_cons_succ,List.countP_cons]
   have:=ih (i:=i) (by simpa using hi) (by simpa using hl)
   omega
theorem Jz (l:List Bool):AJ l<=l.length:=List.countP_le_length
theorem Pg (m:List Int): ∀(f:Nat) (s:List Bool) (g:Int),(mark m f s g).length=s.length
 |0,_,_=>rfl
 |f+1,s,g=>by
  simp only [mark]
  split
  ·rfl
  ·rw [Pg m f];simp
theorem yi (m part:List Int) (np:Nat): ∀h,(bF m part np h).1.length=np/\(bF m part np h).2.length=m.length/\ ∀i,-(part.length:Int)<=(bF m part np h).1.getD i 0/\(bF m part np h).1.getD i 0<=h
 |0=>by
  obtain ⟨h1,h2⟩:=DX part np part.length;exact ⟨h1,by simp [bF],fun i=>by have:=h2 i;simp only [bF];omega⟩
 |h+1=>by
  obtain ⟨h1,h2,h3⟩:=yi m part np h;simp only [bF,qP]
  split
  ·exact ⟨h1,h2,fun i=>by have:=h3 i;omega⟩
  ·refine ⟨by simp [h1],by simp only;rw [Pg];exact h2,fun i=>?_⟩;simp only;by_cases e:(part.getD (h/4) 0).toNat=i
   ·by_cases hl:i<(bF m part np h).1.length
    ·subst e;rw [mh hl];have:=h3 (part.getD (h/4) 0).toNat;omega
    ·have:=h3 i;rw [List.set_eq_of_length_le (by omega)];omega
   ·rw [lN e];have:=h3 i;omega
def aB (s:List Int) (h:Int):Bool:=if h % 4=1 then s.getD (h/4).toNat 0==1 else if h % 4=2 then true else if h % 4=3 then s.getD (h/4).toNat 0== -1 else false
def oU (s:List Int) (k:Nat):Prop:= ∀i,i<k->s.getD i 0=1\/s.getD i 0= -1
def sH (s m:List Int) (k:Nat):Prop:= ∀h:Nat,h<k->0<=m.getD h 0/\m.getD h 0<4*s.length/\m.getD h 0≠h/\m.getD (m.getD h 0).toNat 0=h/\aB s h≠aB s (m.getD h 0)
instance (s:List Int) (k:Nat):Decidable (oU s k):=inferInstanceAs (Decidable (∀i,i<k->s.getD i 0=1\/s.getD i 0= -1))
instance (s m:List Int) (k:Nat):Decidable (sH s m k):=inferInstanceAs (Decidable (∀h:Nat,h<k->0<=m.getD h 0/\m.getD h 0<4*s.length/\m.getD h 0≠h/\m.getD (m.getD h 0).toNat 0=h/\aB s h≠aB s (m.getD h 0)))
def qg (s m:List Int) (L:Int):Bool:=decide (s.length<=64/\m.length=4*s.length/\0<=L/\L<=64/\oU s s.length/\sH s m (4*s.length))
def cX (s m:List Int) (L:Int):Bool:=qg s m L&&kN m s.length
theorem oj {s m:List Int} {L:Int} (h: ¬(s.length<=64/\m.length=4*s.length/\0<=L/\L<=64/\oU s s.length/\sH s m (4*s.length))):false=cX s m L:=by
 unfold cX qg;rw [decide_eq_false h];rfl
theorem XM {s m:List Int} {L:Int} (h:s.length<=64/\m.length=4*s.length/\0<=L/\L<=64/\oU s s.length/\sH s m (4*s.length)):kN m s.length=cX s m L:=by
 unfold cX qg;rw [decide_eq_true h];rfl
theorem T3 {s m:List Int} {L:Int}:cX s m L=true↔(s.length<=64/\m.length=4*s.length/\0<=L/\L<=64/\oU s s.length/\sH s m (4*s.length))/\kN m s.length=true:=by
 unfold cX qg;rw [Bool.and_eq_true,decide_eq_true_iff]
theorem Ip {s:List Int} {k:Nat} (h:oU s k) (hx:s.getD k 0=1\/s.getD k 0= -1):oU s (k+1):=fun i hi=>by
 rcases Nat.lt_or_ge i k with g|g
 ·exact h i g
 ·rw [show i=k by omega];exact hx
theorem QI {s m:List Int} {k:Nat} (h:sH s m k) (hx:0<=m.getD k 0/\m.getD k 0<4*s.length/\m.getD k 0≠k/\m.getD (m.getD k 0).toNat 0=k/\aB s k≠aB s (m.getD k 0)):sH s m (k+1):=fun i hi=>by
 rcases Nat.lt_or_ge i k with g|g
 ·exact h i g
 ·rw [show i=k by omega];exact hx
theorem kW {b:Bool} (h:b=false): ¬b=true:=by simp [h]
theorem T2 {l:List Int} {k:Nat} (hk:k<l.length) (h: ¬l.getD k 0=2):l.all (· ==2)=false:=by
 cases ha:l.all (· ==2) with
 |false=>rfl
 |true=>
  have:=List.all_eq_true.1 ha _ (List.getElem_mem hk)
  simp only [beq_iff_eq] at this;simp [hk,this] at h
theorem Xk {l:List Int} (h: ∀i,i<l.length->l.getD i 0=2):l.all (· ==2)=true:=by
 rw [List.all_eq_true];intro x hx;obtain ⟨i,hi,rfl⟩:=List.mem_iff_getElem.1 hx
 have:=h i hi
 simpa [hi] using this
def it (nx:Int->Int):Nat->Int->Int
 |0,x=>x
 |j+1,x=>nx (it nx j x)
def its (nx:Int->Int) (x:Int) (k:Nat):List Int:=(List.range k).map fun j=>it nx j x
theorem Pf (nx:Int->Int) (x:Int) (k:Nat):its nx x (k+1)=its nx x k++[it nx k x]:=by simp [its,List.range_succ]
theorem GQ (nx:Int->Int) (x:Int) (k:Nat):(its nx x k).length=k:=by simp [its]
structure qG (nx:Int->Int) (x:Int) (k:Nat):Prop where
 pos:0<k
 back:it nx k x=x
 first: ∀j,0<j->j<k->it nx j x≠x
def iZ (seen:List Bool):List Int->List Bool
 |[]=>seen
 |g::r=>iZ (seen.set g.toNat true) r
theorem HX (l:List Int): ∀seen,(iZ seen l).length=seen.length:=by
 induction l with
 |nil=>intro s;rfl
 |cons g r ih=>intro s;simp [iZ,ih]
theorem Io (a:List Int): ∀(seen:List Bool) (b:List Int),iZ seen (a++b)=iZ (iZ seen a) b:=by
 induction a with
 |nil=>intro s b;rfl
 |cons g r ih=>intro s b;simp [iZ,ih]
theorem EB (l:List Int): ∀(seen:List Bool) (i:Nat),(∀g∈l,0<=g/\g.toNat<seen.length)->(iZ seen l).getD i false=(seen.getD i false||decide ((i:Int)∈l)):=by
 induction l with
 |nil=>intro s i _;simp [iZ]
 |cons g r ih=>
  intro s i h;have hg:=h g (by simp);rw [iZ,ih _ _ (fun x hx=>by simpa using h x (by simp [hx]))];by_cases e:g.toNat=i
  ·subst e;rw [mh hg.2]
   have:((g.toNat:Nat):Int)=g:=by omega
   simp [this]
  ·rw [lN e]
   have:(i:Int)≠g:=by omega
   simp [this]
def kg (want:Int->Bool) (orb:Int->List Int) (h:Nat) (st:List (List Int)×List Bool):List (List Int)×List Bool:=
 if st.2.getD h false|| !want h then st else (st.1++[orb h],iZ st.2 (orb h))
def aQ (N:Nat) (want:Int->Bool) (orb:Int->List Int):Nat->List (List Int)×List Bool
 |0=>([],List.replicate N false)
 |h+1=>kg want orb h (aQ N want orb h)
theorem Ef (N:Nat) (want:Int->Bool) (orb:Int->List Int): ∀h,(aQ N want orb h).2.length=N/\(aQ N want orb h).1.length<=h
 |0=>by simp [aQ]
 |h+1=>by
  obtain ⟨h1,h2⟩:=Ef N want orb h;simp only [aQ,kg]
  split
  ·exact ⟨h1,by omega⟩
  ·exact ⟨by simp only;rw [HX];exact h1,by simp;omega⟩
theorem Sj: ∀(N:Nat) (f:Nat->Nat),(∀i,i<=N->f i<N)-> ∃i j,i<j/\j<=N/\f i=f j
 |0,f,h=>absurd (h 0 (zzA _)) (by omega)
 |N+1,f,h=>by
  by_cases hx: ∃i,i<=N/\f i=f (N+1)
  ·obtain ⟨i,hi,e⟩:=hx;exact ⟨i,N+1,by omega,by omega,e⟩
  ·have av: ∀i,i<=N->f i≠f (N+1):=fun i hi e=>hx ⟨i,hi,e⟩;have hg: ∀i,i<=N->(if f i=N then f (N+1) else f i)<N:=by
    intro i hi;have h1:=h i (by omega);have h2:=h (N+1) (by omega);have h3:=av i hi
    split<;>omega
   obtain ⟨i,j,fG,hj,e⟩:=Sj N (fun i=>if f i=N then f (N+1) else f i) hg;refine ⟨i,j,fG,by omega,?_⟩;have h1:=av i (by omega);have h2:=av j hj
   split at e<;>split at e<;>omega
theorem xM {p:Nat->Prop}: ∀n,p n-> ∃k,k<=n/\p k/\ ∀m,m<k-> ¬p m:=by
 intro n
 induction n using Nat.strongRecOn with
 |_ n ih=>
  intro hn;by_cases hx: ∃m,m<n/\p m
  ·obtain ⟨m,hm,hp⟩:=hx;obtain ⟨k,h1,h2,h3⟩:=ih m hm hp;exact ⟨k,by omega,h2,h3⟩
  ·exact ⟨n,zzA _,hn,fun m hm hp=>hx ⟨m,hm,hp⟩⟩
theorem F6 (nx:Int->Int) (i j:Nat) (x:Int):it nx (i+j) x=it nx i (it nx j x):=by
 induction i with
 |zero=>simp [it]
 |succ i ih=>rw [Nat.add_right_comm];simp [it,ih]
structure Perm (nx:Int->Int) (N:Nat) (S:Int->Prop):Prop where
 cR: ∀x,S x->0<=x/\x<N
 closed: ∀x,S x->S (nx x)
 inj: ∀x y,S x->S y->nx x=nx y->x=y
section
variable {nx:Int->Int} {N:Nat} {S:Int->Prop}
theorem Perm.it (h:Perm nx N S) {x:Int} (hx:S x): ∀j,S (it nx j x)
 |0=>hx
 |j+1=>h.closed _ (h.it hx j)
theorem Perm.cancel (h:Perm nx N S) {x:Int} (hx:S x): ∀i d,Proofs.YtmdjdekgakidhaaGreatDoor.it nx (i+d) x=Proofs.YtmdjdekgakidhaaGreatDoor.it nx i x->Proofs.YtmdjdekgakidhaaGreatDoor.it nx d x=x
 |0,d,e=>by simpa [Proofs.YtmdjdekgakidhaaGreatDoor.it] using e
 |i+1,d,e=>by
  rw [Nat.add_right_comm] at e;exact h.cancel hx i d (h.inj _ _ (h.it hx _) (h.it hx _) e)
theorem Perm.A5 (h:Perm nx N S) {x:Int} (hx:S x): ∃k,k<=N/\qG nx x k:=by
 obtain ⟨i,j,fG,hj,e⟩:=Sj N (fun j=>(Proofs.YtmdjdekgakidhaaGreatDoor.it nx j x).toNat) (fun i _=>by have:=h.cR _ (h.it hx i);omega);have r1:=h.cR _ (h.it hx i);have r2:=h.cR _ (h.it hx j);have e':Proofs.YtmdjdekgakidhaaGreatDoor.it nx (i+(j-i)) x=Proofs.YtmdjdekgakidhaaGreatDoor.it nx i x:=by rw [show i+(j-i)=j by omega];omega
 have hd:=h.cancel hx i (j-i) e';obtain ⟨k,h1,⟨h2,h3⟩,h4⟩:=xM (p:=fun d=>0<d/\Proofs.YtmdjdekgakidhaaGreatDoor.it nx d x=x) (j-i) ⟨by omega,hd⟩;exact ⟨k,by omega,h2,h3,fun m hm ax e=>h4 m ax ⟨hm,e⟩⟩
theorem F5 {x:Int} {k:Nat} (h:qG nx x k): ∀j,it nx j x=it nx (j % k) x:=by
 intro j
 induction j using Nat.strongRecOn with
 |_ j ih=>
  rcases Nat.lt_or_ge j k with g|g
  ·rw [Nat.mod_eq_of_lt g]
  ·have h0:=h.pos
   have:it nx j x=it nx (j-k) x:=by
    conv=>lhs;rw [show j=(j-k)+k by omega]
    rw [F6,h.back]
   rw [this,ih (j-k) (by omega),←Nat.mod_eq_sub_mod g]
theorem DW {x y:Int} {k:Nat}:y∈its nx x k↔ ∃j,j<k/\it nx j x=y:=by simp [its]
theorem Qw {x y:Int} {k:Nat} (h:qG nx x k):y∈its nx x k↔ ∃j,it nx j x=y:=by
 rw [DW];constructor
 ·rintro ⟨j,_,e⟩;exact ⟨j,e⟩
 ·rintro ⟨j,e⟩;exact ⟨j % k,Nat.mod_lt _ h.pos,by rw [←F5 h,e]⟩
theorem T1 {x y:Int} {k:Nat} (h:qG nx x k) (hy: ∃j,it nx j x=y): ∃j,it nx j y=x:=by
 obtain ⟨j,e⟩:=hy;have h0:=h.pos;refine ⟨k-j % k,?_⟩;have ax:=Nat.mod_lt j h0;rw [←e,F5 h j,←F6,show k-j % k+j % k=k by omega,h.back]
theorem Uw {x y z:Int} (h1: ∃j,it nx j x=y) (h2: ∃j,it nx j y=z): ∃j,it nx j x=z:=by
 obtain ⟨i,rfl⟩:=h1;obtain ⟨j,rfl⟩:=h2;exact ⟨j+i,F6 nx j i x⟩
theorem Xj (h:Perm nx N S) {x:Int} {k:Nat} (hx:S x) (hp:qG nx x k):(its nx x k).Nodup:=by
 unfold its;rw [List.nodup_iff_pairwise_ne,List.pairwise_map];refine List.Pairwise.imp_of_mem ?_ (List.pairwise_lt_range);intro a b ha hb ax e;have hb:=List.mem_range.1 hb
 have:=h.cancel hx a (b-a) (by rw [show a+(b-a)=b by omega];exact e.symm)
 exact hp.first (b-a) (by omega) (by omega) this
end
def gN (x:Int) (l:List Int):Bool:=l.all fun y=>decide (x<=y)
theorem vk {x:Int} {l:List Int}:gN x l=true↔ ∀y∈l,x<=y:=by simp [gN]
theorem GP {N:Nat} {want:Int->Bool} {orb:Int->List Int} (hr: ∀x:Nat,x<N->want x=true-> ∀y∈orb x,0<=y/\y<N) (hx: ∀x:Nat,x<N->want x=true->(x:Int)∈orb x)
  (hs: ∀x y:Nat,x<N->y<N->want x=true->(y:Int)∈orb x->want y=true/\(x:Int)∈orb y)
  (ht: ∀x y z:Nat,x<N->y<N->z<N->want x=true->(y:Int)∈orb x->(z:Int)∈orb y->(z:Int)∈orb x): ∀h,h<=N->
  (aQ N want orb h).1=((List.range h).filter fun i:Nat=>want i&&gN i (orb i)).map (fun i:Nat=>orb i)/\
  ∀g,g<N->((aQ N want orb h).2.getD g false=true↔ ∃x:Nat,x<h/\want x=true/\(g:Int)∈orb x)
 |0,_=>⟨by simp [aQ],fun g hg=>by simp [aQ,hg]⟩
 |h+1,hh=>by
  obtain ⟨h1,h2⟩:=GP hr hx hs ht h (by omega);obtain ⟨hl,_⟩:=Ef N want orb h;have h3:=h2 h (by omega);simp only [aQ,kg];by_cases hc:(aQ N want orb h).2.getD h false=true\/want h=false
  ·rw [if_pos (by rcases hc with hc|hc<;>rw [hc]<;>simp)];have hf:(want h&&gN h (orb h))=false:=by
    rcases hc with hc|hc
    ·obtain ⟨x,hxh,X7,hm⟩:=h3.1 hc;cases hw:want h with
     |false=>simp
     |true=>
      have Bp:=(hs x h (by omega) (by omega) X7 hm).2;cases w5:gN h (orb h) with
      |false=>simp
      |true=>have:=vk.1 w5 _ Bp;omega
    ·simp [hc]
   refine ⟨by rw [h1,List.range_succ,List.filter_append];simp [hf],fun g hg=>?_⟩;rw [h2 g hg];constructor
   ·rintro ⟨x,h4,h5⟩;exact ⟨x,by omega,h5⟩
   ·rintro ⟨x,h4,h5,h6⟩;rcases Nat.lt_or_ge x h with q|q
    ·exact ⟨x,q,h5,h6⟩
    ·obtain rfl:x=h:=by omega
     rcases hc with hc|hc
     ·obtain ⟨z,hz,SL,hm⟩:=h3.1 hc;exact ⟨z,hz,SL,ht z x g (by omega) (by omega) hg SL hm h6⟩
     ·simp [hc] at h5
  ·have hw:want h=true:=by cases hw:want h<;>simp_all
   have hn: ¬(aQ N want orb h).2.getD h false=true:=fun e=>hc (.inl e);have w5:gN h (orb h)=true:=vk.2 fun y hy=>by
    have hry:=hr h (by omega) hw y hy;obtain ⟨n,rfl⟩: ∃n:Nat,y=n:=⟨y.toNat,by omega⟩;rcases Nat.lt_or_ge n h with q|q
    ·have:=hs h n (by omega) (by omega) hw hy
     exact absurd (h3.2 ⟨n,q,this.1,this.2⟩) hn
    ·omega
   rw [if_neg (by simp only [Bool.not_eq_true] at hn;rw [hn,hw];simp)];refine ⟨by simp only [h1];rw [List.range_succ,List.filter_append];simp [hw,w5],fun g hg=>?_⟩;simp only;rw [EB _ _ _ (fun y hy=>by have:=hr h (by omega) hw y hy;exact ⟨this.1,by omega⟩),Bool.or_eq_true,h2 g hg,decide_eq_true_iff];constructor
   ·rintro (⟨x,h4,h5⟩|h4)
    ·exact ⟨x,by omega,h5⟩
    ·exact ⟨h,by omega,hw,h4⟩
   ·rintro ⟨x,h4,h5,h6⟩;rcases Nat.lt_or_ge x h with q|q
    ·exact .inl ⟨x,q,h5,h6⟩
    ·obtain rfl:x=h:=by omega
     exact .inr h6
def nb (m:List Int) (a s:Nat):Nat:=(m.getD (4*a+s) 0/4).toNat
inductive bg (m:List Int):Nat->Nat->Prop
 |refl (a:Nat):bg m a a
 |step {a b:Nat} (s:Nat) (hs:s<4) (h:bg m a b):bg m a (nb m b s)
structure fe (m:List Int) (n:Nat):Prop where
 ok:iN m n
 inv: ∀h:Nat,h<4*n->m.getD (m.getD h 0).toNat 0=h
section
variable {m:List Int} {n:Nat}
theorem bg.trans {a b c:Nat} (h1:bg m a b) (h2:bg m b c):bg m a c:=by
 induction h2 with
 |refl=>exact h1
 |step s hs _ ih=>exact .step s hs ih
theorem fe.iF (hp:fe m n) {a s:Nat} (ha:a<n) (hs:s<4):nb m a s<n:=by
 have:=hp.ok.2 (4*a+s) (by omega);unfold nb;omega
theorem fe.back (hp:fe m n) {a s:Nat} (ha:a<n) (hs:s<4): ∃t,t<4/\nb m (nb m a s) t=a:=by
 have h1:=hp.ok.2 (4*a+s) (by omega);have h2:=hp.inv (4*a+s) (by omega);refine ⟨(m.getD (4*a+s) 0 % 4).toNat,by omega,?_⟩;unfold nb;rw [show 4*(m.getD (4*a+s) 0/4).toNat+(m.getD (4*a+s) 0 % 4).toNat=(m.getD (4*a+s) 0).toNat by omega,h2];omega
theorem bg.lt (hp:fe m n) {a b:Nat} (h:bg m a b) (ha:a<n):b<n:=by
 induction h with
 |refl=>exact ha
 |step s hs _ ih=>exact hp.iF ih hs
theorem bg.symm (hp:fe m n) {a b:Nat} (h:bg m a b) (ha:a<n):bg m b a:=by
 induction h with
 |refl=>exact .refl _
 | @step b s hs h ih=>
   obtain ⟨t,ht,e⟩:=hp.back (h.lt hp ha) hs;have h1:=bg.step t ht (bg.refl (m:=m) (nb m b s));rw [e] at h1;exact h1.trans ih
theorem bg.closed (hp:fe m n) {S:Nat->Prop} (hc: ∀a s,a<n->s<4->S a->S (nb m a s)) {a b:Nat} (h:bg m a b) (ha:a<n) (hS:S a):S b:=by
 induction h with
 |refl=>exact hS
 |step s hs h ih=>exact hc _ s (h.lt hp ha) hs ih
structure BJ (m:List Int) (n:Nat) (p:Int) (c:Nat) (part q:List Int) (at':Nat) (s:Nat):Prop where
 pok:qo n p part
 qok:vv n q
 old: ∀a,a<n->0<=part.getD a 0->part.getD a 0≠p-> ∀s,s<4->part.getD (nb m a s) 0=part.getD a 0
 cur: ∀a,a<n->part.getD a 0=p->(a:Int)∉q->a≠at'-> ∀s,s<4->part.getD (nb m a s) 0=p
 con: ∀a,a<n->part.getD a 0=p->bg m c a
 que: ∀x∈q,part.getD x.toNat 0=p
 hd:at'<n->part.getD at' 0=p/\ ∀s',s'<s->part.getD (nb m at' s') 0=p
theorem BJ.one (hp:fe m n) {p:Int} (h0:0<=p) {c a s:Nat} {st:List Int×List Int} (h:BJ m n p c st.1 st.2 a s) (ha:a<n) (hs:s<4):BJ m n p c (j5 m a p s st).1 (j5 m a p s st).2 a (s+1):=by
 have ax:=hp.iF ha hs;have cE:=Sk hp.ok (c:=(a:Int)) (p:=p) ⟨by omega,by omega⟩ h0 hs h.pok h.qok;obtain ⟨y9,xd⟩:=h.hd ha;have e0:m.getD (4*(a:Int)+s).toNat 0/4=(nb m a s:Int):=by
  have:=hp.ok.2 (4*a+s) (by omega)
  unfold nb;rw [show (4*(a:Int)+s).toNat=4*a+s by omega];omega
 have nE:=h.pok.1;by_cases hn:st.1.getD (nb m a s) 0<0
 ·have e:j5 m a p s st=(st.1.set (nb m a s) p,st.2++[(nb m a s:Int)]):=by
   unfold j5;simp only;rw [e0];simp only [zzC];rw [if_pos hn]
  rw [e] at cE⊢;have hg: ∀b,(st.1.set (nb m a s) p).getD b 0=if b=nb m a s then p else st.1.getD b 0:=by
   intro b;by_cases eb:nb m a s=b
   ·subst eb;rw [if_pos rfl,mh (by omega)]
   ·rw [lN eb,if_neg (Ne.symm eb)]
  refine ⟨cE.1,cE.2.1,?_,?_,?_,?_,?_⟩
  ·intro b hb h1 h2 t ht;simp only [hg] at h1 h2⊢;by_cases eb:b=nb m a s
   ·rw [if_pos eb] at h2;omega
   ·rw [if_neg eb] at h1 h2⊢;have h3:=h.old b hb h1 h2 t ht;rw [if_neg ?_,h3];intro e';rw [e'] at h3;omega
  ·intro b hb h1 h2 h3 t ht;simp only [hg] at h1⊢;have eb:b≠nb m a s:=fun e'=>h2 (by simp [e']);rw [if_neg eb] at h1
   have:=h.cur b hb h1 (fun hm=>h2 (by simp [hm])) h3 t ht
   split
   ·rfl
   ·exact this
  ·intro b hb h1;simp only [hg] at h1;by_cases eb:b=nb m a s
   ·subst eb;exact .step s hs (h.con a ha y9)
   ·rw [if_neg eb] at h1;exact h.con b hb h1
  ·intro x hx;rcases List.mem_append.1 hx with hx|hx
   ·have:=h.que x hx
    simp only [hg];split
    ·rfl
    ·exact this
   ·rw [List.mem_singleton.1 hx];simp only [hg,zzC,if_pos]
  ·intro _;simp only [hg];refine ⟨?_,fun s' bo=>?_⟩
   ·split
    ·rfl
    ·exact y9
   ·rcases Nat.lt_or_ge s' s with g|g
    ·split
     ·rfl
     ·exact xd s' g
    ·rw [show s'=s by omega,if_pos rfl]
 ·have e:j5 m a p s st=st:=by
   unfold j5;simp only;rw [e0];simp only [zzC];rw [if_neg hn]
  rw [e];refine ⟨h.pok,h.qok,h.old,h.cur,h.con,h.que,fun _=>⟨y9,fun s' bo=>?_⟩⟩;rcases Nat.lt_or_ge s' s with g|g
  ·exact xd s' g
  ·obtain rfl:s'=s:=by omega
   by_cases ep:st.1.getD (nb m a s') 0=p
   ·exact ep
   ·obtain ⟨t,ht,eb⟩:=hp.back ha hs
    have:=h.old (nb m a s') ax (by omega) ep t ht
    rw [eb] at this;omega
theorem BJ.four (hp:fe m n) {p:Int} (h0:0<=p) {c a:Nat} {st:List Int×List Int} (h:BJ m n p c st.1 st.2 a 0) (ha:a<n): ∀s,s<=4->BJ m n p c (lb4 m a p st s).1 (lb4 m a p st s).2 a s
 |0,_=>h
 |s+1,hs=>(BJ.four hp h0 h ha s (by omega)).one hp h0 ha (by omega)
theorem Si (hp:fe m n) {p:Int} (h0:0<=p) {c:Nat}: ∀(f:Nat) (part q:List Int),BJ m n p c part q n 0->2*fU part+q.length<=f->BJ m n p c (bfs m p f part q) [] n 0
 |f,part,[],h,_=>by unfold bfs;exact h
 |0,part,_::_,_,hf=>by simp at hf
 |f+1,part,x::q,h,hf=>by
  obtain ⟨lU,Bs⟩:=h.qok x (by simp);have SI:=h.que x (by simp);obtain ⟨a,rfl⟩: ∃a:Nat,x=a:=⟨x.toNat,by omega⟩;have ha:a<n:=by omega
  simp only [zzC] at SI;have h1:BJ m n p c (part,q).1 (part,q).2 a 0:=⟨h.pok,fun y hy=>h.qok y (by simp [hy]),h.old,fun b hb LZ LY av s hs=>h.cur b hb LZ (by simp only [List.mem_cons,not_or];exact ⟨by omega,LY⟩) (by omega) s hs,h.con,fun y hy=>h.que y (by simp [hy]),fun _=>⟨SI,fun s' bo=>by omega⟩⟩;have h2:=BJ.four hp h0 h1 ha 4 (zzA _)
  obtain ⟨_,_,h3,_⟩:=Dr hp.ok (c:=(a:Int)) (p:=p) ⟨by omega,by omega⟩ h0 (st:=(part,q)) h1.pok h1.qok 4 (zzA _);simp only [bfs];simp only [zzG] at hf;simp only at h3;refine Si hp h0 f _ _ ⟨h2.pok,h2.qok,h2.old,fun b hb LZ LY _ s hs=>?_,h2.con,h2.que,fun hh=>by omega⟩ (by omega);by_cases e:b=a
  ·subst e;exact (h2.hd ha).2 s hs
  ·exact h2.cur b hb LZ LY e s hs
theorem I7 (m:List Int) (c p:Int) (s:Nat) (st:List Int×List Int) (i:Nat):(j5 m c p s st).1.getD i 0=st.1.getD i 0\/(j5 m c p s st).1.getD i 0=p:=by
 unfold j5;simp only
 split
 ·by_cases e:(m.getD (4*c+s).toNat 0/4).toNat=i
  ·subst e;by_cases hl:(m.getD (4*c+s).toNat 0/4).toNat<st.1.length
   ·right;simp only;rw [mh hl]
   ·left;simp only;rw [List.set_eq_of_length_le (by omega)]
  ·left;simp only;rw [lN e]
 ·exact .inl rfl
theorem Sh (m:List Int) (c p:Int) (st:List Int×List Int) (i:Nat): ∀s,(lb4 m c p st s).1.getD i 0=st.1.getD i 0\/(lb4 m c p st s).1.getD i 0=p
 |0=> .inl rfl
 |s+1=>by
  rcases I7 m c p s (lb4 m c p st s) i with h|h
  ·rcases Sh m c p st i s with g|g
   ·exact .inl (by simp only [lb4];rw [h,g])
   ·exact .inr (by simp only [lb4];rw [h,g])
  ·exact .inr h
theorem Sg (m:List Int) (p:Int) (i:Nat): ∀(f:Nat) (part q:List Int),(bfs m p f part q).getD i 0=part.getD i 0\/(bfs m p f part q).getD i 0=p
 |_,part,[]=>by unfold bfs;exact .inl rfl
 |0,part,_::_=>by simp [bfs]
 |f+1,part,c::q=>by
  simp only [bfs];rcases Sg m p i f (lb4 m c p (part,q) 4).1 (lb4 m c p (part,q) 4).2 with h|h
  ·rcases Sh m c p (part,q) i 4 with g|g
   ·exact .inl (h.trans g)
   ·exact .inr (h.trans g)
  ·exact .inr h
structure LI (m:List Int) (n:Nat) (st:List Int×Int):Prop where
 clo: ∀a,a<n->0<=st.1.getD a 0-> ∀s,s<4->st.1.getD (nb m a s) 0=st.1.getD a 0
 con: ∀a b,a<n->b<n->0<=st.1.getD a 0->st.1.getD a 0=st.1.getD b 0->bg m a b
 att: ∀p:Nat,(p:Int)<st.2-> ∃a,a<n/\st.1.getD a 0=p
theorem F4 (hp:fe m n): ∀k,k<=n->LI m n (bG m n k)
 |0,_=>⟨fun a ha h=>by simp [bG,ha] at h,fun a b ha _ h=>by simp [bG,ha] at h,fun p h=>by simp [bG] at h;omega⟩
 |k+1,hk=>by
  have ih:=F4 hp k (by omega);obtain ⟨g1,g2,g3⟩:=zw hp.ok k (by omega);have TL:=fun i hi=>(zu hp.ok k (by omega) i hi).1;simp only [bG,yQ]
  split
  ·exact ih
  ·rename_i im
   have im:(bG m n k).1.getD k 0<0:=by omega
   generalize bG m n k=st at*;obtain ⟨part,p⟩:=st;simp only at*;have iI:=g1.1;have hset: ∀b,(part.set k p).getD b 0=if b=k then p else part.getD b 0:=by
    intro b;by_cases eb:k=b
    ·subst eb;rw [if_pos rfl,mh (by omega)]
    ·rw [lN eb,if_neg (Ne.symm eb)]
   have oJ:BJ m n p k (part.set k p) [(k:Int)] n 0:=by
    refine ⟨⟨by simp [iI],fun i hi=>by rw [hset];have:=g1.2 i hi;split<;>omega⟩,fun x hx=>by simp at hx;omega,?_,?_,?_,fun x hx=>by simp at hx;subst hx;simp only [zzC];rw [hset,if_pos rfl],fun hh=>by omega⟩
    ·intro a ha h1 h2 s hs;simp only [hset] at h1 h2⊢;by_cases e:a=k
     ·rw [if_pos e] at h2;omega
     ·rw [if_neg e] at h1 h2⊢
      have:part.getD (nb m a s) 0=part.getD a 0:=ih.clo a ha h1 s hs
      rw [if_neg ?_,this];intro e';rw [e'] at this;omega
    ·intro a ha h1 h2 _ s hs;simp only [hset] at h1;by_cases e:a=k
     ·subst e;simp at h2
     ·rw [if_neg e] at h1;have:=TL a ha;omega
    ·intro a ha h1;simp only [hset] at h1;by_cases e:a=k
     ·subst e;exact .refl _
     ·rw [if_neg e] at h1;have:=TL a ha;omega
   have hn1:=Eg (i:=k) (p:=p) (by omega) im g2;have E6:=GR part;have hb:=Si hp g2 (2*n+1) _ _ oJ (by simp only [List.length_singleton];omega);have vO:=fun i=>HI (m:=m) (p:=p) (i:=i) (2*n+1) (part.set k p) [(k:Int)];have gb:(bfs m p (2*n+1) (part.set k p) [(k:Int)]).getD k 0=p:=by
    rw [vO k (by rw [hset,if_pos rfl];exact g2),hset,if_pos rfl]
   have nC:=fun i=>Sg m p i (2*n+1) (part.set k p) [(k:Int)];generalize bfs m p (2*n+1) (part.set k p) [(k:Int)]=res at*;have hold: ∀a,a<n->0<=part.getD a 0->res.getD a 0=part.getD a 0:=by
    intro a ha h1;have e:a≠k:=fun e=>by subst e;omega
    have h2:=vO a;rw [hset,if_neg e] at h2;exact h2 h1
   have hnew: ∀a,a<n->0<=res.getD a 0->res.getD a 0≠p->0<=part.getD a 0:=by
    intro a ha h1 h2;have h3:=nC a;rw [hset] at h3;rcases h3 with h3|h3
    ·split at h3
     ·omega
     ·omega
    ·omega
   have c1: ∀a,a<n->0<=res.getD a 0-> ∀s,s<4->res.getD (nb m a s) 0=res.getD a 0:=fun a ha h1 s hs=>by
    by_cases e:res.getD a 0=p
    ·rw [e];exact hb.cur a ha e (by simp) (by omega) s hs
    ·exact hb.old a ha h1 e s hs
   have c2: ∀a b,a<n->b<n->0<=res.getD a 0->res.getD a 0=res.getD b 0->bg m a b:=fun a b ha Fo h1 h2=>by
    by_cases e:res.getD a 0=p
    ·exact (bg.symm hp (hb.con a ha e) (by omega)).trans (hb.con b Fo (by omega))
    ·have qA:=hnew a ha h1 e;have ky:=hnew b Fo (by omega) (by omega);exact ih.con a b ha Fo qA (by show part.getD a 0=part.getD b 0;rw [←hold a ha qA,←hold b Fo ky];exact h2)
   have c3: ∀q:Nat,(q:Int)<p+1-> ∃a,a<n/\res.getD a 0=q:=fun q hq=>by
    rcases Int.lt_or_le q p with g|g
    ·obtain ⟨a,ha,e⟩:=ih.att q g;have e:part.getD a 0=q:=e;exact ⟨a,ha,by rw [hold a ha (by omega),e]⟩
    ·exact ⟨k,by omega,by rw [gb];omega⟩
   exact ⟨c1,c2,c3⟩
theorem Qm (hp:fe m n) {a b:Nat} (ha:a<n) (hb:b<n):(eX m n).1.getD a 0=(eX m n).1.getD b 0↔bg m a b:=by
 have h:=F4 hp n (zzA _);have h0:=fun i hi=>(zu hp.ok n (zzA _) i hi).2 hi;constructor
 ·exact fun e=>h.con a b ha hb (h0 a ha) e
 ·intro hc;refine (bg.closed hp (S:=fun x=>x<n/\(eX m n).1.getD x 0=(eX m n).1.getD a 0) ?_ hc ha ⟨ha,rfl⟩).2.symm;intro x s hx hs ⟨_,e⟩;exact ⟨hp.iF hx hs,by rw [←e];exact h.clo x hx (h0 x hx) s hs⟩
theorem T0 (hp:fe m n) {p:Nat} (h:(p:Int)<(eX m n).2): ∃a,a<n/\(eX m n).1.getD a 0=p:=(F4 hp n (zzA _)).att p h
def qn (m:List Int) (h:Nat) (l:List Int):List Int:=(l.set (h/4) (min (l.getD (h/4) 0) (l.getD (m.getD h 0/4).toNat 0))).set (m.getD h 0/4).toNat (min (l.getD (h/4) 0) (l.getD (m.getD h 0/4).toNat 0))
def lP (m l:List Int):Nat->List Int
 |0=>l
 |h+1=>qn m h (lP m l h)
def bB (m:List Int) (n:Nat):Nat->List Int
 |0=>(List.range n).map fun (i:Nat)=>(i:Int)
 |k+1=>lP m (bB m n k) (4*n)
def RI (m:List Int) (n:Nat) (l:List Int):Prop:=l.length=n/\ ∀c,c<n->0<=l.getD c 0/\l.getD c 0<=c/\bg m c (l.getD c 0).toNat
theorem Oa (hp:fe m n) {l:List Int} (hl:l.length=n) {h:Nat} (hh:h<4*n) (c:Nat):(qn m h l).getD c 0=if c=h/4\/c=nb m (h/4) (h % 4) then min (l.getD (h/4) 0) (l.getD (nb m (h/4) (h % 4)) 0) else l.getD c 0:=by
 have e:(m.getD h 0/4).toNat=nb m (h/4) (h % 4):=by unfold nb;rw [show 4*(h/4)+h % 4=h by omega]
 have ax:=hp.iF (a:=h/4) (s:=h % 4) (by omega) (by omega);unfold qn;rw [e];by_cases e1:nb m (h/4) (h % 4)=c
 ·subst e1;rw [mh (by simp;omega),if_pos (.inr rfl)]
 ·rw [lN e1];by_cases e2:h/4=c
  ·subst e2;rw [mh (by omega),if_pos (.inl rfl)]
  ·rw [lN e2,if_neg (by omega)]
theorem Ko (l:List Int) (h:Nat):(qn m h l).length=l.length:=by simp [qn]
theorem Sf (hp:fe m n) {l:List Int} (hl:RI m n l) {h:Nat} (hh:h<4*n):RI m n (qn m h l)/\ ∀c,c<n->(qn m h l).getD c 0<=l.getD c 0:=by
 have ax:=hp.iF (a:=h/4) (s:=h % 4) (by omega) (by omega);have h1:=hl.2 (h/4) (by omega);have h2:=hl.2 _ ax;have hc:bg m (h/4) (nb m (h/4) (h % 4)):= .step _ (by omega) (.refl _);have uv:=hc.symm hp (by omega);have key: ∀c,c<n->(0<=(qn m h l).getD c 0/\(qn m h l).getD c 0<=c/\bg m c ((qn m h l).getD c 0).toNat)/\(qn m h l).getD c 0<=l.getD c 0:=by
  intro c LW;rw [Oa hp hl.1 hh];by_cases e:c=h/4\/c=nb m (h/4) (h % 4)
  ·rw [if_pos e];rw [Int.min_def]
   split
   ·rcases e with e|e
    ·subst e;exact ⟨⟨h1.1,h1.2.1,h1.2.2⟩,Int.le_refl _⟩
    ·subst e;exact ⟨⟨h1.1,by omega,uv.trans h1.2.2⟩,by omega⟩
   ·rcases e with e|e
    ·subst e;exact ⟨⟨h2.1,by omega,hc.trans h2.2.2⟩,by omega⟩
    ·subst e;exact ⟨⟨h2.1,h2.2.1,h2.2.2⟩,Int.le_refl _⟩
  ·rw [if_neg e];exact ⟨hl.2 c LW,Int.le_refl _⟩
 exact ⟨⟨by rw [Ko];exact hl.1,fun c hc=>(key c hc).1⟩,fun c hc=>(key c hc).2⟩
theorem Dq (hp:fe m n) {l:List Int} (hl:RI m n l): ∀h,h<=4*n->RI m n (lP m l h)/\ ∀c,c<n->(lP m l h).getD c 0<=l.getD c 0
 |0,_=>⟨hl,fun c _=>Int.le_refl _⟩
 |h+1,hh=>by
  obtain ⟨h1,h2⟩:=Dq hp hl h (by omega);obtain ⟨h3,h4⟩:=Sf hp h1 (h:=h) (by omega);exact ⟨h3,fun c hc=>Int.le_trans (h4 c hc) (h2 c hc)⟩
theorem Se (hp:fe m n) {l:List Int} (hl:RI m n l): ∀h,h<=4*n-> ∀c s,4*c+s<h->s<4->(lP m l h).getD (nb m c s) 0<=l.getD c 0
 |0,_,c,s,dZ,_=>by omega
 |h+1,hh,c,s,dZ,hs=>by
  obtain ⟨h1,h2⟩:=Dq hp hl h (by omega);obtain ⟨h3,h4⟩:=Sf hp h1 (h:=h) (by omega);rcases Nat.lt_or_ge (4*c+s) h with q|q
  ·exact Int.le_trans (h4 _ (hp.iF (by omega) hs)) (Se hp hl h (by omega) c s q hs)
  ·have e1:h/4=c:=by omega
   have e2:h % 4=s:=by omega
   simp only [lP];rw [Oa hp h1.1 (by omega),e1,e2,if_pos (.inr rfl)]
   have:=h2 c (by omega)
   omega
theorem wi (hp:fe m n): ∀k,RI m n (bB m n k)
 |0=>⟨by simp [bB],fun c hc=>by simp [bB,hc];exact .refl _⟩
 |k+1=>(Dq hp (wi hp k) (4*n) (zzA _)).1
theorem UK {p q:Nat->Bool} (l:List Nat) (h: ∀x∈l,p x=true->q x=true):l.countP p<=l.countP q:=by
 induction l with
 |nil=>simp
 |cons x l ih=>
  have:=ih (fun y hy=>h y (by simp [hy]))
  have hx:=h x (by simp);simp only [List.countP_cons];cases BM:p x<;>cases hqx:q x<;>simp_all<;>omega
theorem UJ {p q:Nat->Bool} (l:List Nat) (h: ∀x∈l,p x=true->q x=true) {y:Nat} (hy:y∈l) (h1:p y=false) (h2:q y=true):l.countP p<l.countP q:=by
 induction l with
 |nil=>simp at hy
 |cons x l ih=>
  have h3:=UK l (fun y hy=>h y (by simp [hy]));have hx:=h x (by simp);simp only [List.countP_cons];rcases List.mem_cons.1 hy with e|e
  ·subst e;simp [h1,h2];omega
  ·have:=ih (fun y hy=>h y (by simp [hy])) e
   cases BM:p x<;>cases hqx:q x<;>simp_all<;>omega
theorem Xi (hp:fe m n) {u:Nat} (hu:u<n) (rC: ∀b,bg m u b->u<=b) {b:Nat} (hb:bg m u b):(bB m n n).getD b 0=u:=by
 have w8: ∀k c,bg m u c->(u:Int)<=(bB m n k).getD c 0:=fun k c hc=>by
  have hr:=(wi hp k).2 c (hc.lt hp hu)
  have:=rC _ (hc.trans hr.2.2);omega
 have vI: ∀k,(bB m n k).getD u 0=u:=fun k=>by
  have hr:=(wi hp k).2 u hu
  have:=w8 k u (.refl _);omega
 have gF: ∀k c,c<n->(bB m n (k+1)).getD c 0<=(bB m n k).getD c 0:=fun k c hc=>(Dq hp (wi hp k) (4*n) (zzA _)).2 c hc;have qy: ∀k c s,c<n->s<4->(bB m n (k+1)).getD (nb m c s) 0<=(bB m n k).getD c 0:=fun k c s hc hs=>Se hp (wi hp k) (4*n) (zzA _) c s (by omega) hs;have gQ: ∀k c,c<n->(bB m n k).getD c 0=u->bg m u c:=fun k c hc e=>by
  have hr:=(wi hp k).2 c hc;have h1:=hr.2.2;rw [e] at h1;exact (by simpa using h1:bg m c u).symm hp hc
 have key: ∀k,(∀c,bg m u c->(bB m n k).getD c 0=u)\/k+1<=(List.range n).countP (fun c=>decide ((bB m n k).getD c 0=u)):=by
  intro k
  induction k with
  |zero=>
   right;exact List.countP_pos_iff.2 ⟨u,List.mem_range.2 hu,by simp only [vI 0,decide_true]⟩
  |succ k ih=>
   rcases ih with ih|ih
   ·left;intro c hc;have h1:=gF k c (hc.lt hp hu);have h2:=w8 (k+1) c hc;rw [ih c hc] at h1;omega
   ·by_cases b5: ∀c s,c<n->s<4->(bB m n k).getD c 0=u->(bB m n k).getD (nb m c s) 0=u
    ·left;intro c hc;have h0:=(bg.closed hp (S:=fun c=>c<n/\(bB m n k).getD c 0=u) (fun a s ha hs h=>⟨hp.iF ha hs,b5 a s ha hs h.2⟩) hc hu ⟨hu,vI k⟩).2;have h1:=gF k c (hc.lt hp hu);have h2:=w8 (k+1) c hc;rw [h0] at h1;omega
    ·right;have hex: ∃c s,c<n/\s<4/\(bB m n k).getD c 0=u/\(bB m n k).getD (nb m c s) 0≠u:=by
      apply Classical.byContradiction;intro av;exact b5 fun c s hc hs e=>Classical.byContradiction fun e'=>av ⟨c,s,hc,hs,e,e'⟩
     obtain ⟨c,s,hc,hs,e1,e2⟩:=hex;have YV:=gQ k c hc e1;have ax:=hp.iF hc hs;have h3:(bB m n (k+1)).getD (nb m c s) 0=u:=by
      have h1:=qy k c s hc hs;have h2:=w8 (k+1) (nb m c s) (.step s hs YV);omega
     have:=UJ (p:=fun c=>decide ((bB m n k).getD c 0=u)) (q:=fun c=>decide ((bB m n (k+1)).getD c 0=u)) (List.range n) (fun x hx BM=>by
      have hx:=List.mem_range.1 hx;have e:=of_decide_eq_true BM;have h1:=gF k x hx;have h2:=w8 (k+1) x (gQ k x hx e);exact decide_eq_true (by omega)) (List.mem_range.2 ax) (decide_eq_false e2) (decide_eq_true h3)
     omega
 rcases key n with h|h
 ·exact h b hb
 ·have:=List.countP_le_length (p:=fun c=>decide ((bB m n n).getD c 0=u)) (l:=List.range n)
  rw [zzJ] at this;omega
theorem GO (hp:fe m n) {a:Nat} (ha:a<n): ∃u,u<n/\bg m u a/\(∀b,b<n->((bB m n n).getD b 0=u↔bg m a b)):=by
 obtain ⟨u,h1,h2,h3⟩:=xM (p:=fun b=>bg m a b) a (.refl _);have hu:u<n:=by omega
 have rC: ∀b,bg m u b->u<=b:=fun b hb=>Nat.le_of_not_lt fun ax=>h3 b ax (h2.trans hb);have EY:=h2.symm hp ha;refine ⟨u,hu,EY,fun b hb=>⟨fun e=>?_,fun fy=>Xi hp hu rC (EY.trans fy)⟩⟩;have hr:=(wi hp n).2 b hb;have h4:=hr.2.2;rw [e] at h4;exact h2.trans ((by simpa using h4:bg m b u).symm hp hb)
end
def eZ (nx:Int->Int) (x:Int):Nat->Int->List Int
 |0,_=>[]
 |f+1,g=>if g=x then [] else g::eZ nx x f (nx g)
def ak (nx:Int->Int) (N:Nat) (x:Int):List Int:=x::eZ nx x N (nx x)
theorem N9 {nx:Int->Int} {x:Int} {k:Nat} (h:qG nx x k): ∀f j,0<j->j<=k->k<=f+j->eZ nx x f (it nx j x)=(List.range (k-j)).map fun i=>it nx (j+i) x
 |0,j,h0,h1,h2=>by obtain rfl:j=k:=by omega
                   simp [eZ]
 |f+1,j,h0,h1,h2=>by
  unfold eZ;by_cases e:j=k
  ·subst e;rw [if_pos h.back];simp
  ·rw [if_neg (h.first j h0 (by omega)),show k-j=(k-(j+1))+1 by omega,List.range_succ_eq_map];rw [show nx (it nx j x)=it nx (j+1) x from rfl,N9 h f (j+1) (by omega) (by omega) (by omega)];simp only [List.map_cons,Nat.add_zero,List.map_map,List.cons.injEq,true_and];refine List.map_congr_left fun i _=>?_;simp only [Function.comp];rw [show j+i.succ=j+1+i by omega]
theorem N8 {nx:Int->Int} {x:Int} {k N:Nat} (h:qG nx x k) (hk:k<=N+1):ak nx N x=its nx x k:=by
 have h0:=h.pos;unfold ak its;rw [show nx x=it nx 1 x from rfl,N9 h N 1 (by omega) (by omega) (by omega)]
 conv=>rhs;rw [show k=(k-1)+1 by omega,List.range_succ_eq_map]
 simp only [List.map_cons,List.map_map];refine congrArg (List.cons x) (List.map_congr_left fun i _=>?_);simp only [Function.comp];rw [show i.succ=1+i by omega]
def bJ (m:List Int) (g:Int):Int:=fC (m.getD g.toNat 0) (-1)
def aw (n:Nat) (x:Int):Prop:=0<=x/\x<4*n
theorem Xv {n:Nat} {x y b:Int} (hx:aw n x) (hy:aw n y) (e:fC x b=fC y b):x=y:=by
 have: -4<b.tmod 4/\b.tmod 4<4:=⟨Int.lt_tmod_of_pos b (by decide),Int.tmod_lt_of_pos b (by decide)⟩
 unfold fC aw at*;omega
section
variable {m:List Int} {n:Nat}
theorem fe.inj (hp:fe m n) {x y:Int} (hx:aw n x) (hy:aw n y) (e:m.getD x.toNat 0=m.getD y.toNat 0):x=y:=by
 unfold aw at*;have h1:=hp.inv x.toNat (by omega);have h2:=hp.inv y.toNat (by omega);rw [e,h2] at h1;omega
theorem fe.cR (hp:fe m n) {x:Int} (hx:aw n x):aw n (m.getD x.toNat 0):=by
 unfold aw at*;have:=hp.ok.2 x.toNat (by omega);omega
theorem PV (hp:fe m n) (b:Int):Perm (fun g=>fC (m.getD g.toNat 0) b) (4*n) (aw n):=
 ⟨fun x hx=>by unfold aw at hx;omega,fun x hx=>by have:=hp.cR hx;unfold aw at*;exact EJ this.1 this.2,
  fun x y hx hy e=>hp.inj hx hy (Xv (hp.cR hx) (hp.cR hy) e)⟩
theorem EA (hp:fe m n):Perm (bJ m) (4*n) (aw n):=PV hp (-1)
theorem wE {nx:Int->Int} {N:Nat} {S:Int->Prop} (h:Perm nx N S) {x:Int} (hx:S x):
  (∀y,y∈ak nx N x↔ ∃j,it nx j x=y)/\(∀y∈ak nx N x,S y)/\(∀y∈ak nx N x,x∈ak nx N y)/\(∀y∈ak nx N x,∀z∈ak nx N y,z∈ak nx N x)/\x∈ak nx N x/\(ak nx N x).length<=N/\(ak nx N x).Nodup/\ ∃k,k<=N/\qG nx x k/\ak nx N x=its nx x k:=by
 obtain ⟨k,hk,hp⟩:=h.A5 hx;have e:=N8 hp (N:=N) (by omega);have hm: ∀y,y∈ak nx N x↔ ∃j,it nx j x=y:=fun y=>by rw [e];exact Qw hp
 have hS: ∀y∈ak nx N x,S y:=fun y hy=>by obtain ⟨j,rfl⟩:=(hm y).1 hy;exact h.it hx j
 have E8: ∀y,S y-> ∀z,z∈ak nx N y↔ ∃j,it nx j y=z:=fun y hy z=>by
  obtain ⟨l,hl,hq⟩:=h.A5 hy;rw [N8 hq (N:=N) (by omega)];exact Qw hq
 refine ⟨hm,hS,fun y hy=>?_,fun y hy z hz=>?_,by simp [ak],by rw [e,GQ];exact hk,by rw [e];exact Xj h hx hp,k,hk,hp,e⟩
 ·exact (E8 y (hS y hy) x).2 (T1 hp ((hm y).1 hy))
 ·exact (hm z).2 (Uw ((hm y).1 hy) ((E8 y (hS y hy) z).1 hz))
theorem Kn (hp:fe m n) (hn:m.length=4*n) {seen:List Bool} (hl:seen.length=4*n) {x:Int} (hx:aw n x) {k:Nat} (hk:qG (bJ m) x k) (hu: ∀j,j<k->seen.getD (it (bJ m) j x).toNat false=false):
  ∀d j f,d=k-j->j<=k->d<f->mark m f (iZ seen (its (bJ m) x j)) (it (bJ m) j x)=iZ seen (its (bJ m) x k):=by
 have j9:=EA hp;have hR: ∀j,aw n (it (bJ m) j x):=fun j=>j9.it hx j;have E4: ∀j,∀g∈its (bJ m) x j,0<=g/\g.toNat<seen.length:=fun j g hg=>by
  obtain ⟨i,_,rfl⟩:=DW.1 hg
  have:=hR i;unfold aw at this;omega
 have ld:=hk.pos;intro d
 induction d with
 |zero=>
  intro j f hd hj hf;obtain rfl:j=k:=by omega
  obtain ⟨f',rfl⟩: ∃f',f=f'+1:=⟨f-1,by omega⟩;simp only [mark];rw [hk.back,if_pos];rw [EB _ _ _ (E4 j),Bool.or_eq_true,decide_eq_true_iff];right;have ik:=hx;unfold aw at ik;rw [show ((x.toNat:Nat):Int)=x by omega];exact DW.2 ⟨0,ld,rfl⟩
 |succ d ih=>
  intro j f hd hj hf;obtain ⟨f',rfl⟩: ∃f',f=f'+1:=⟨f-1,by omega⟩;have Y7:=hR j;unfold aw at Y7;simp only [mark];rw [if_neg]
  ·have e1:(iZ seen (its (bJ m) x j)).set (it (bJ m) j x).toNat true=iZ seen (its (bJ m) x (j+1)):=by
    rw [Pf,Io];rfl
   rw [e1];exact ih (j+1) f' (by omega) (by omega) (by omega)
  ·rw [EB _ _ _ (E4 j),hu j (by omega),Bool.false_or,decide_eq_true_iff];rw [show (((it (bJ m) j x).toNat:Nat):Int)=it (bJ m) j x by omega];intro hm;obtain ⟨i,hi,e⟩:=DW.1 hm
   have:=j9.cancel hx i (j-i) (by rw [show i+(j-i)=j by omega];exact e.symm)
   exact hk.first (j-i) (by omega) (by omega) this
def fl (m:List Int) (h:Nat):Bool:=gN h (ak (bJ m) m.length h)
def cH (l:List Int) (n:Nat) (p:Int):Nat:=(List.range n).countP fun c=>l.getD c 0==p
def eG (m l:List Int) (h:Nat) (p:Int):Nat:=(List.range h).countP fun i=>fl m i&&l.getD (i/4) 0==p
theorem PU (l:List Int) (n:Nat) (p:Int):cH l (n+1) p=cH l n p+if l.getD n 0=p then 1 else 0:=by
 unfold cH;rw [List.range_succ,List.countP_append];simp [List.countP_cons]
theorem PT (m l:List Int) (h:Nat) (p:Int):eG m l (h+1) p=eG m l h p+if fl m h=true/\l.getD (h/4) 0=p then 1 else 0:=by
 unfold eG;rw [List.range_succ,List.countP_append];simp [List.countP_cons]
theorem N7 {part:List Int} {np:Nat} (lW: ∀c,c<part.length->0<=part.getD c 0/\part.getD c 0<np) {p:Nat} (h:p<np): ∀k,k<=part.length->(fJ part np k).getD p 0= -(cH part k p:Int)
 |0,_=>by simp [fJ,cH,h]
 |k+1,hk=>by
  have ih:=N7 lW h k (by omega);have hl:=(DX part np k).1;have hr:=lW k (by omega);simp only [fJ];rw [PU];by_cases e:(part.getD k 0).toNat=p
  ·rw [e,mh (by omega),if_pos (by omega),ih];omega
  ·rw [lN e,if_neg (by omega),ih];omega
theorem N6 (hp:fe m n) (hm:m.length=4*n) {part:List Int} {np:Nat} (iI:part.length=n) (lW: ∀c,c<n->0<=part.getD c 0/\part.getD c 0<np): ∀h,h<=4*n->
  (∀p:Nat,p<np->(bF m part np h).1.getD p 0=(eG m part h p:Int)-cH part n p)/\
  ∀g:Nat,g<4*n->((bF m part np h).2.getD g false=true↔ ∃x:Nat,x<h/\(g:Int)∈ak (bJ m) m.length x)
 |0,_=>by
  refine ⟨fun p ax=>?_,fun g hg=>by simp [bF,hm,hg]⟩;simp only [bF];rw [N7 (fun c hc=>lW c (by omega)) ax _ (zzA _),iI];simp [eG]
 |h+1,hh=>by
  obtain ⟨h1,h2⟩:=N6 hp hm iI lW h (by omega);obtain ⟨l1,l2,_⟩:=yi m part np h;have hR: ∀x:Nat,x<4*n->aw n (x:Int):=fun x hx=>by unfold aw;omega
  have gD:=fun (x:Nat) (hx:x<4*n)=>by
   have:=wE (EA hp) (hR x hx)
   rw [←hm] at this;exact this
  have wS:=h2 h (by omega);simp only [bF,qP];by_cases hs:(bF m part np h).2.getD h false=true
  ·rw [if_pos hs];obtain ⟨x,hx,wJ⟩:=wS.1 hs;have nG:fl m h=false:=by
    cases hf:fl m h with
    |false=>rfl
    |true=>
     have:=vk.1 hf x ((gD x (by omega)).2.2.1 h wJ);omega
   refine ⟨fun p ax=>by rw [PT,if_neg (by simp [nG]),h1 p ax];omega,fun g hg=>?_⟩;rw [h2 g hg];constructor
   ·rintro ⟨y,hy,h3⟩;exact ⟨y,by omega,h3⟩
   ·rintro ⟨y,hy,h3⟩;rcases Nat.lt_or_ge y h with q|q
    ·exact ⟨y,q,h3⟩
    ·obtain rfl:y=h:=by omega
     exact ⟨x,hx,(gD x (by omega)).2.2.2.1 y wJ g h3⟩
  ·rw [if_neg hs];obtain ⟨o1,o2,o3,o4,o5,o6,o7,k,hk,ka,cE⟩:=gD h (by omega);have nG:fl m h=true:=vk.2 fun y hy=>by
    have hr:=o2 y hy;unfold aw at hr;obtain ⟨z,rfl⟩: ∃z:Nat,y=z:=⟨y.toNat,by omega⟩;rcases Nat.lt_or_ge z h with q|q
    ·exact absurd (wS.2 ⟨z,q,o3 z hy⟩) hs
    ·omega
   have uc:mark m (m.length+1) (bF m part np h).2 h=iZ (bF m part np h).2 (ak (bJ m) m.length h):=by
    rw [cE];refine Kn hp hm (by omega) (hR h (by omega)) ka (fun j hj=>?_) k 0 (m.length+1) (by omega) (by omega) (by omega);have rF:it (bJ m) j h∈ak (bJ m) m.length h:=(o1 _).2 ⟨j,rfl⟩;have YL:=o2 _ rF;unfold aw at YL;cases Ca:(bF m part np h).2.getD (it (bJ m) j h).toNat false with
    |false=>rfl
    |true=>
     obtain ⟨y,hy,h3⟩:=(h2 _ (by omega)).1 Ca;rw [show (((it (bJ m) j h).toNat:Nat):Int)=it (bJ m) j h by omega] at h3;exact absurd (wS.2 ⟨y,hy,(gD y (by omega)).2.2.2.1 _ h3 _ (o3 _ rF)⟩) hs
   have tX:=lW (h/4) (by omega);refine ⟨fun p ax=>?_,fun g hg=>?_⟩
   ·rw [PT];simp only;by_cases e:(part.getD (h/4) 0).toNat=p
    ·rw [e,mh (by omega),if_pos ⟨nG,by omega⟩,h1 p ax];omega
    ·rw [lN e,if_neg (by omega),h1 p ax];omega
   ·simp only;rw [uc,EB _ _ _ (fun y hy=>by have:=o2 y hy;unfold aw at this;omega),Bool.or_eq_true,h2 g hg,decide_eq_true_iff];constructor
    ·rintro (⟨x,h4,h5⟩|h4)
     ·exact ⟨x,by omega,h5⟩
     ·exact ⟨h,by omega,h4⟩
    ·rintro ⟨x,h4,h6⟩;rcases Nat.lt_or_ge x h with q|q
     ·exact .inl ⟨x,q,h6⟩
     ·obtain rfl:x=h:=by omega
      exact .inr h6
theorem VY (hp:fe m n):kN m n=true↔ ∀p:Nat,(p:Int)<(eX m n).2->eG m (eX m n).1 (4*n) p=cH (eX m n).1 n p+2:=by
 obtain ⟨p1,p2,p3,p4⟩:=HY hp.ok;have hm:=hp.ok.1;have h1:=(N6 hp hm p1 (np:=(eX m n).2.toNat) (fun c hc=>by have:=p4 c hc;omega) (4*n) (zzA _)).1;have hlen:=(yi m (eX m n).1 (eX m n).2.toNat (4*n)).1;unfold kN;rw [hm,List.all_eq_true];constructor
 ·intro h p ax;have h2:=h1 p (by omega);have iu:(bF m (eX m n).1 (eX m n).2.toNat (4*n)).1.getD p 0∈(bF m (eX m n).1 (eX m n).2.toNat (4*n)).1:=by
   rw [zzB,zzI (by omega)];exact List.getElem_mem _
  have:=h _ iu
  simp only [beq_iff_eq] at this;omega
 ·intro h x hx;obtain ⟨i,hi,rfl⟩:=List.mem_iff_getElem.1 hx;have h2:=h1 i (by omega);have h3:=h i (by omega);rw [zzB,zzI hi] at h2;simp only [Option.getD_some] at h2;simp only [beq_iff_eq];omega
def nU (m:List Int) (n:Nat):Bool:=(List.range n).all fun c=> !((bB m n n).getD c 0==(c:Int))||eG m (bB m n n) (4*n) c==cH (bB m n n) n c+2
theorem Ee:nU m n=true↔ ∀c,c<n->(bB m n n).getD c 0=c->eG m (bB m n n) (4*n) c=cH (bB m n n) n c+2:=by
 unfold nU;rw [List.all_eq_true];constructor
 ·intro h c hc e
  have:=h c (List.mem_range.2 hc)
  rw [e] at this;simpa using this
 ·intro h c hc;by_cases e:(bB m n n).getD c 0=(c:Int)
  ·rw [h c (List.mem_range.1 hc) e];simp
  ·have:((bB m n n).getD c 0==(c:Int))=false:=by simpa using e
   rw [this];rfl
theorem Xu {l l':List Int} {p p':Int} (h: ∀b,b<n->(l.getD b 0=p↔l'.getD b 0=p')):cH l n p=cH l' n p'/\eG m l (4*n) p=eG m l' (4*n) p':=by
 constructor
 ·unfold cH;refine List.countP_congr fun b hb=>?_;simp only [beq_iff_eq];exact h b (List.mem_range.1 hb)
 ·unfold eG;refine List.countP_congr fun b hb=>?_
  have:=List.mem_range.1 hb
  simp only [Bool.and_eq_true,beq_iff_eq];rw [h (b/4) (by omega)]
theorem I6 (hp:fe m n):kN m n=nU m n:=by
 obtain ⟨p1,p2,p3,p4⟩:=HY hp.ok;have key: ∀a,a<n-> ∃u,u<n/\(bB m n n).getD u 0=u/\cH (eX m n).1 n ((eX m n).1.getD a 0)=cH (bB m n n) n u/\eG m (eX m n).1 (4*n) ((eX m n).1.getD a 0)=eG m (bB m n n) (4*n) u/\(bB m n n).getD a 0=u:=by
  intro a ha;obtain ⟨u,hu,EY,jw⟩:=GO hp ha;have Fk:=Xu (m:=m) (n:=n) (l:=(eX m n).1) (l':=bB m n n) (p:=(eX m n).1.getD a 0) (p':=u) (fun b hb=>by
   rw [jw b hb];constructor
   ·intro e;exact (Qm hp ha hb).1 e.symm
   ·intro e;exact ((Qm hp ha hb).2 e).symm)
  exact ⟨u,hu,(jw u hu).2 (EY.symm hp hu),Fk.1,Fk.2,(jw a ha).2 (.refl _)⟩
 rw [Bool.eq_iff_iff,VY hp,Ee];constructor
 ·intro h c hc e;obtain ⟨u,hu,_,h1,h2,h3⟩:=key c hc
  have:u=c:=by omega
  subst this;have h4:=p4 u hc;have h5:=h ((eX m n).1.getD u 0).toNat (by omega);rw [show (((eX m n).1.getD u 0).toNat:Int)=(eX m n).1.getD u 0 by omega,h1,h2] at h5;exact h5
 ·intro h p ax;obtain ⟨a,ha,e⟩:=T0 hp ax;obtain ⟨u,hu,h0,h1,h2,_⟩:=key a ha;have h5:=h u hu h0;rw [e] at h1 h2;omega
end
theorem Xt {s m:List Int} {L:Int} (h:qg s m L=true):fe m s.length:=by
 unfold qg at h;obtain ⟨_,h2,_,_,_,h6⟩:=of_decide_eq_true h;exact ⟨⟨h2,fun i hi=>⟨(h6 i hi).1,(h6 i hi).2.1⟩⟩,fun i hi=>(h6 i hi).2.2.2.1⟩
def zt (s m:List Int) (L:Int):Bool:=qg s m L&&nU m s.length
theorem HH (s m:List Int) (L:Int):cX s m L=zt s m L:=by
 unfold cX zt;cases h:qg s m L with
 |false=>rfl
 |true=>rw [I6 (Xt h)]
theorem qJ (h:Int):fC h 1=h-h % 4+(h % 4+5)% 4:=by
 have:(1:Int).tmod 4=1:=by decide
 unfold fC;rw [this];omega
theorem qd (h:Int):fC h (-1)=h-h % 4+(h % 4+3)% 4:=by
 have:(-1:Int).tmod 4= -1:=by decide
 unfold fC;rw [this];omega
def bO (b:Bool) (h:Int):Int:=if decide (h % 2=1)=b then fC h 1 else fC h (-1)
theorem wx (b:Bool) (h:Int):bO b h/4=h/4:=by
 unfold bO;rw [qJ,qd];split<;>omega
theorem DV (b:Bool) (h:Int):bO b (bO b h)=h:=by
 unfold bO;rw [qJ,qd];cases b
 ·by_cases e:h % 2=1
  ·simp only [e,decide_true,Bool.true_eq_false,if_false]
   have: ¬(h-h % 4+(h % 4+3)% 4)% 2=1:=by omega
   simp only [this,decide_false,if_true];rw [qJ];omega
  ·simp only [e,decide_false,if_true]
   have:(h-h % 4+(h % 4+5)% 4)% 2=1:=by omega
   simp only [this,decide_true,Bool.true_eq_false,if_false];rw [qd];omega
 ·by_cases e:h % 2=1
  ·simp only [e,decide_true,if_true]
   have: ¬(h-h % 4+(h % 4+5)% 4)% 2=1:=by omega
   simp only [this,decide_false,Bool.false_eq_true,if_false];rw [qd];omega
  ·simp only [e,decide_false,Bool.false_eq_true,if_false]
   have:(h-h % 4+(h % 4+3)% 4)% 2=1:=by omega
   simp only [this,decide_true,if_true];rw [qJ];omega
theorem you (b:Bool) (h:Int):bO b h≠h:=by
 unfold bO;rw [qJ,qd];split<;>omega
section
variable {m:List Int} {n:Nat} {b:Bool} {c:Nat}
end
def a8 (m:List Int) (g:Int):Int:=fC (m.getD g.toNat 0) 2
def ff (s m:List Int):List (List Int):=(aQ m.length (aB s) (ak (a8 m) m.length) m.length).1
structure x8 (s m:List Int) (L:Int):Prop where
 s64:s.length<=64
 len:m.length=4*s.length
 l0:0<=L
 EU:L<=64
 sg:oU s s.length
 mt:sH s m (4*s.length)
 prd:fe m s.length
theorem jb {s m:List Int} {L:Int} (h:cX s m L=true):x8 s m L:=by
 obtain ⟨⟨h1,h2,h3,h4,h5,h6⟩,_⟩:=T3.1 h;exact ⟨h1,h2,h3,h4,h5,h6,⟨h2,fun i hi=>⟨(h6 i hi).1,(h6 i hi).2.1⟩⟩,fun i hi=>(h6 i hi).2.2.2.1⟩
theorem tE {m:List Int} {n:Nat} (hp:fe m n):Perm (a8 m) (4*n) (aw n):=PV hp 2
theorem EL (s m:List Int):(ff s m).length<=m.length:=(Ef _ _ _ _).2
theorem HG {N:Nat} {want:Int->Bool} {orb:Int->List Int}: ∀h,∀l∈(aQ N want orb h).1,∃x:Nat,x<h/\want x=true/\l=orb x
 |0,l,hl=>by simp [aQ] at hl
 |h+1,l,hl=>by
  simp only [aQ,kg] at hl
  split at hl
  ·obtain ⟨x,h1,h2⟩:=HG h l hl;exact ⟨x,by omega,h2⟩
  ·rename_i hc
   rcases List.mem_append.1 hl with hl|hl
   ·obtain ⟨x,h1,h2⟩:=HG h l hl;exact ⟨x,by omega,h2⟩
   ·refine ⟨h,by omega,?_,List.mem_singleton.1 hl⟩;cases hw:want h with
    |true=>rfl
    |false=>rw [hw] at hc;simp at hc
theorem UI {s m:List Int} {n:Nat} (hp:fe m n) {l:List Int} (hl:l∈ff s m):l.length<=4*n/\ ∀x∈l,0<=x/\x<4*n:=by
 obtain ⟨x,hx,_,rfl⟩:=HG _ l hl;have hm:=hp.ok.1;have hR:aw n (x:Int):=by unfold aw;omega
 have gD:=wE (tE hp) hR;rw [←hm] at gD;exact ⟨by have:=gD.2.2.2.2.2.1;omega,fun y hy=>by have:=gD.2.1 y hy;unfold aw at this;omega⟩
end Go.Proofs.YtmdjdekgakidhaaGreatDoor
