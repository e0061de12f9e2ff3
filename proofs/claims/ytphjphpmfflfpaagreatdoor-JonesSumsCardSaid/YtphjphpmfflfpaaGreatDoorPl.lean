/- Plain functions and facts: labels, cycles, spheres, circles, smoothing. -/
set_option linter.unusedSimpArgs false
set_option linter.unusedVariables false
namespace Go.Proofs.YtphjphpmfflfpaaGreatDoor
def lE (m:List Int) (c p:Int) (s:Nat) (st:List Int×List Int):List Int×List Int:=
 let to:=m.getD (4*c+s).toNat 0/4
 if st.1.getD to.toNat 0<0 then (st.1.set to.toNat p,st.2++[to]) else st
def lb4 (m:List Int) (c p:Int) (st:List Int×List Int):Nat->List Int×List Int
 |0=>st
 |s+1=>lE m c p s (lb4 m c p st s)
def bfs (m:List Int) (p:Int):Nat->List Int->List Int->List Int
 |_,part,[]=>part
 |0,part,_::_=>part
 |n+1,part,c::q=>let st:=lb4 m c p (part,q) 4;bfs m p n st.1 st.2
def Cf (m:List Int) (n c:Nat) (st:List Int×Int):List Int×Int:=
 if 0<=st.1.getD c 0 then st else (bfs m st.2 (2*n+1) (st.1.set c st.2) [(c:Int)],st.2+1)
def cj (m:List Int) (n:Nat):Nat->List Int×Int
 |0=>(List.replicate n (-1),0)
 |c+1=>Cf m n c (cj m n c)
def fF (m:List Int) (n:Nat):List Int×Int:=cj m n n
theorem nL {α:Type} {l:List α} {i:Nat} {a d:α} (h:i<l.length):(l.set i a).getD i d=a:=by simp [h]
theorem ma {α:Type} {l:List α} {i j:Nat} {a d:α} (h:i≠j):(l.set i a).getD j d=l.getD j d:=by simp [h]
theorem ZG {α:Type} (a b:α) (n k:Nat) (h:k<n):(List.replicate k a++List.replicate (n-k) b).set k a=List.replicate (k+1) a++List.replicate (n-(k+1)) b:=by
 rw [List.set_append_right _ _ (by simp),List.length_replicate,Nat.sub_self];obtain ⟨d,hd⟩: ∃d,n-k=d+1:=⟨n-k-1,by omega⟩;rw [hd,List.replicate_succ,List.set_cons_zero,show n-(k+1)=d by omega,List.replicate_succ',List.append_assoc];rfl
def lD (l:List Int):Nat:=l.countP fun x=>decide (x<0)
theorem Lc {l:List Int} {i:Nat} {p:Int} (hi:i<l.length) (hl:l.getD i 0<0) (hp:0<=p):lD (l.set i p)+1=lD l:=by
 unfold lD
 induction l generalizing i with
 |nil=>simp at hi
 |cons x l ih=>
  cases i with
  |zero=>
   simp at hl;simp [List.countP_cons,hl,Int.not_lt.2 hp]
  |succ i=>
   simp only [List.set_cons_succ,List.countP_cons]
   have:=ih (i:=i) (by simpa using hi) (by simpa using hl)
   omega
theorem Rk (l:List Int):lD l<=l.length:=List.countP_le_length
def kh (m:List Int) (n:Nat):Prop:=m.length=4*n/\ ∀i,i<4*n->0<=m.getD i 0/\m.getD i 0<4*n
def xS (n:Nat) (q:List Int):Prop:= ∀x∈q,0<=x/\x<n
def sF (n:Nat) (p:Int) (l:List Int):Prop:=l.length=n/\ ∀i,i<n-> -1<=l.getD i 0/\l.getD i 0<=p
theorem VN {m:List Int} {n:Nat} (hm:kh m n) {c p:Int} (hc:0<=c/\c<n) (hp:0<=p) {s:Nat} (hs:s<4) {st:List Int×List Int} (h1:sF n p st.1) (h2:xS n st.2):
  sF n p (lE m c p s st).1/\xS n (lE m c p s st).2/\2*lD (lE m c p s st).1+(lE m c p s st).2.length<=2*lD st.1+st.2.length/\(lE m c p s st).2.length<=st.2.length+1:=by
 have zN:=hm.2 (4*c+s).toNat (by omega);unfold lE;simp only;have Pl:0<=m.getD (4*c+s).toNat 0/4/\m.getD (4*c+s).toNat 0/4<n:=by omega
 generalize m.getD (4*c+s).toNat 0/4=to at*
 split
 ·rename_i pY
  have aG:to.toNat<st.1.length:=by rw [h1.1];omega
  have hn:=Lc aG pY hp;refine ⟨⟨by simp [h1.1],fun i hi=>?_⟩,fun x hx=>?_,?_,by simp⟩
  ·by_cases e:to.toNat=i
   ·subst e;rw [nL aG];omega
   ·rw [ma e];exact h1.2 i hi
  ·rcases List.mem_append.1 hx with hx|hx
   ·exact h2 x hx
   ·rw [List.mem_singleton.1 hx];exact Pl
  ·simp only [List.length_append,List.length_singleton];omega
 ·exact ⟨h1,h2,Nat.le_refl _,by omega⟩
theorem Gp {m:List Int} {n:Nat} (hm:kh m n) {c p:Int} (hc:0<=c/\c<n) (hp:0<=p) {st:List Int×List Int} (h1:sF n p st.1) (h2:xS n st.2): ∀s,s<=4->
  sF n p (lb4 m c p st s).1/\xS n (lb4 m c p st s).2/\2*lD (lb4 m c p st s).1+(lb4 m c p st s).2.length<=2*lD st.1+st.2.length/\(lb4 m c p st s).2.length<=st.2.length+s
 |0,_=>⟨h1,h2,Nat.le_refl _,by simp [lb4]⟩
 |s+1,hs=>by
  obtain ⟨g1,g2,g3,g5⟩:=Gp hm hc hp h1 h2 s (by omega);obtain ⟨k1,k2,k3,k5⟩:=VN hm hc hp (show s<4 by omega) g1 g2;exact ⟨k1,k2,by simp only [lb4];omega,by simp only [lb4];omega⟩
theorem JA {m:List Int} {n:Nat} (hm:kh m n) {p:Int} (hp:0<=p): ∀(f:Nat) (part q:List Int),sF n p part->xS n q->sF n p (bfs m p f part q)
 |_,part,[],h,_=>by unfold bfs;exact h
 |0,part,_::_,h,_=>by simpa [bfs] using h
 |f+1,part,c::q,h,hq=>by
  simp only [bfs];obtain ⟨g1,g2,_⟩:=Gp hm (hq c (by simp)) hp (st:=(part,q)) h (fun x hx=>hq x (by simp [hx])) 4 (Nat.le_refl _);exact JA hm hp f _ _ g1 g2
theorem CS {m:List Int} {n:Nat} (hm:kh m n): ∀k,k<=n->sF n (cj m n k).2 (cj m n k).1/\0<=(cj m n k).2/\(cj m n k).2<=k
 |0,_=>⟨⟨by simp [cj],fun i hi=>by simp [cj,hi]⟩,by simp [cj],by simp [cj]⟩
 |k+1,hk=>by
  obtain ⟨h1,h2,h3⟩:=CS hm k (by omega);simp only [cj,Cf]
  split
  ·exact ⟨h1,h2,by omega⟩
  ·refine ⟨?_,by omega,by omega⟩
   have:sF n ((cj m n k).2) (bfs m (cj m n k).2 (2*n+1) ((cj m n k).1.set k (cj m n k).2) [(k:Int)]):=by
    refine JA hm h2 _ _ _ ⟨by simp [h1.1],fun i hi=>?_⟩ (fun x hx=>by simp at hx;omega);have bN:k<(cj m n k).1.length:=by rw [h1.1];omega
    by_cases e:k=i
    ·subst e;rw [nL bN];omega
    ·rw [ma e];exact h1.2 i hi
   exact ⟨this.1,fun i hi=>by have:=this.2 i hi;simp only;omega⟩
def dB (h b:Int):Int:=h-h % 4+(h % 4+b.tmod 4+4)% 4
theorem LH {h b:Int} {n:Nat} (h0:0<=h) (h1:h<4*n):0<=dB h b/\dB h b<4*n:=by
 have: -4<b.tmod 4/\b.tmod 4<4:=⟨Int.lt_tmod_of_pos b (by decide),Int.tmod_lt_of_pos b (by decide)⟩
 unfold dB;omega
theorem ZF {m:List Int} {c p:Int} {s:Nat} {st:List Int×List Int} {i:Nat} (h:0<=st.1.getD i 0):(lE m c p s st).1.getD i 0=st.1.getD i 0:=by
 unfold lE;simp only
 split
 ·rename_i hn
  by_cases e:(m.getD (4*c+s).toNat 0/4).toNat=i
  ·subst e;omega
  ·simp only;rw [ma e]
 ·rfl
theorem SD {m:List Int} {c p:Int} {st:List Int×List Int} {i:Nat} (h:0<=st.1.getD i 0): ∀s,(lb4 m c p st s).1.getD i 0=st.1.getD i 0
 |0=>rfl
 |s+1=>by
  have:=SD (m:=m) (c:=c) (p:=p) h s
  simp only [lb4];rw [ZF (by omega),this]
theorem Lb {m:List Int} {p:Int} {i:Nat}: ∀(f:Nat) (part q:List Int),0<=part.getD i 0->(bfs m p f part q).getD i 0=part.getD i 0
 |_,part,[],h=>by unfold bfs;rfl
 |0,part,_::_,h=>by simp [bfs]
 |f+1,part,c::q,h=>by
  simp only [bfs]
  have:=SD (m:=m) (c:=c) (p:=p) (st:=(part,q)) h 4
  rw [Lb f _ _ (by rw [this];exact h),this]
theorem CR {m:List Int} {n:Nat} (hm:kh m n): ∀k,k<=n-> ∀i,i<n->(cj m n k).1.getD i 0<(cj m n k).2/\(i<k->0<=(cj m n k).1.getD i 0)
 |0,_,i,hi=>by simp [cj,hi]
 |k+1,hk,i,hi=>by
  obtain ⟨h1,h2⟩:=CR hm k (by omega) i hi;obtain ⟨g1,g2,g3⟩:=CS hm k (by omega);simp only [cj,Cf]
  split
  ·rename_i h0
   refine ⟨h1,fun Cy=>?_⟩;rcases Nat.lt_or_ge i k with g|g
   ·exact h2 g
   ·rwa [show i=k by omega]
  ·rename_i h0
   have bN:k<(cj m n k).1.length:=by rw [g1.1];omega
   have hset:sF n (cj m n k).2 ((cj m n k).1.set k (cj m n k).2):=⟨by simp [g1.1],fun i hi=>by
    by_cases e:k=i
    ·subst e;rw [nL bN];omega
    ·rw [ma e];exact g1.2 i hi⟩
   have hb:=JA hm g2 (2*n+1) _ [(k:Int)] hset (fun x hx=>by simp at hx;omega);have XH:=hb.2 i hi;refine ⟨by simp only;omega,fun Cy=>?_⟩;have Cq:0<=((cj m n k).1.set k (cj m n k).2).getD i 0:=by
    by_cases e:k=i
    ·subst e;rw [nL bN];exact g2
    ·rw [ma e];exact h2 (by omega)
   simp only;rw [Lb _ _ _ Cq];exact Cq
theorem Lp {m:List Int} {n:Nat} (hm:kh m n):(fF m n).1.length=n/\0<=(fF m n).2/\(fF m n).2<=n/\ ∀i,i<n->0<=(fF m n).1.getD i 0/\(fF m n).1.getD i 0<(fF m n).2:=by
 obtain ⟨g1,g2,g3⟩:=CS hm n (Nat.le_refl _);exact ⟨g1.1,g2,g3,fun i hi=>⟨(CR hm n (Nat.le_refl _) i hi).2 hi,(CR hm n (Nat.le_refl _) i hi).1⟩⟩
def gD (part:List Int) (np:Nat):Nat->List Int
 |0=>List.replicate np 0
 |k+1=>let e:=gD part np k;let p:=(part.getD k 0).toNat;e.set p (e.getD p 0-1)
theorem GW (part:List Int) (np:Nat): ∀k,(gD part np k).length=np/\ ∀i,-(k:Int)<=(gD part np k).getD i 0/\(gD part np k).getD i 0<=0
 |0=>⟨by simp [gD],fun i=>by
   by_cases h:i<np
   ·simp [gD,h]
   ·simp [gD,h]⟩
 |k+1=>by
  obtain ⟨h1,h2⟩:=GW part np k;refine ⟨by simp [gD,h1],fun i=>?_⟩;simp only [gD];by_cases e:(part.getD k 0).toNat=i
  ·by_cases hl:i<(gD part np k).length
   ·subst e;rw [nL hl];have:=h2 (part.getD k 0).toNat;omega
   ·have:=h2 i;rw [List.set_eq_of_length_le (by omega)];omega
  ·rw [ma e];have:=h2 i;omega
def mark (m:List Int):Nat->List Bool->Int->List Bool
 |0,s,_=>s
 |f+1,s,g=>if s.getD g.toNat false then s else mark m f (s.set g.toNat true) (dB (m.getD g.toNat 0) (-1))
def tj (m part:List Int) (h:Nat) (st:List Int×List Bool):List Int×List Bool:=
 if st.2.getD h false then st else
  let p:=(part.getD (h/4) 0).toNat
  (st.1.set p (st.1.getD p 0+1),mark m (m.length+1) st.2 h)
def b6 (m part:List Int) (np:Nat):Nat->List Int×List Bool
 |0=>(gD part np part.length,List.replicate m.length false)
 |h+1=>tj m part h (b6 m part np h)
def mQ (m:List Int) (n:Nat):Bool:=(b6 m (fF m n).1 (fF m n).2.toNat m.length).1.all (· ==2)
def DH (s:List Bool):Nat:=s.countP fun x=> !x
theorem Og {l:List Bool} {i:Nat} (hi:i<l.length) (hl:l.getD i false=false):DH (l.set i true)+1=DH l:=by
 unfold DH
 induction l generalizing i with
 |nil=>simp at hi
 |cons x l ih=>
  cases i with
  |zero=>
   simp at hl;simp [hl]
  |succ i=>
   simp only [List.set_cons_succ,List.countP_cons]
   have:=ih (i:=i) (by simpa using hi) (by simpa using hl)
   omega
theorem MK (l:List Bool):DH l<=l.length:=List.countP_le_length
theorem SB (m:List Int): ∀(f:Nat) (s:List Bool) (g:Int),(mark m f s g).length=s.length
 |0,_,_=>rfl
 |f+1,s,g=>by
  simp only [mark]
  split
  ·rfl
  ·rw [SB m f];simp
theorem BF (m part:List Int) (np:Nat): ∀h,(b6 m part np h).1.length=np/\(b6 m part np h).2.length=m.length/\ ∀i,-(part.length:Int)<=(b6 m part np h).1.getD i 0/\(b6 m part np h).1.getD i 0<=h
 |0=>by
  obtain ⟨h1,h2⟩:=GW part np part.length;exact ⟨h1,by simp [b6],fun i=>by have:=h2 i;simp only [b6];omega⟩
 |h+1=>by
  obtain ⟨h1,h2,h3⟩:=BF m part np h;simp only [b6,tj]
  split
  ·exact ⟨h1,h2,fun i=>by have:=h3 i;omega⟩
  ·refine ⟨by simp [h1],by simp only;rw [SB];exact h2,fun i=>?_⟩;simp only;by_cases e:(part.getD (h/4) 0).toNat=i
   ·by_cases hl:i<(b6 m part np h).1.length
    ·subst e;rw [nL hl];have:=h3 (part.getD (h/4) 0).toNat;omega
    ·have:=h3 i;rw [List.set_eq_of_length_le (by omega)];omega
   ·rw [ma e];have:=h3 i;omega
def aw (s:List Int) (h:Int):Bool:=if h % 4=1 then s.getD (h/4).toNat 0==1 else if h % 4=2 then true else if h % 4=3 then s.getD (h/4).toNat 0== -1 else false
def ru (s:List Int) (k:Nat):Prop:= ∀i,i<k->s.getD i 0=1\/s.getD i 0= -1
def vQ (s m:List Int) (k:Nat):Prop:= ∀h:Nat,h<k->0<=m.getD h 0/\m.getD h 0<4*s.length/\m.getD h 0≠h/\m.getD (m.getD h 0).toNat 0=h/\aw s h≠aw s (m.getD h 0)
instance (s:List Int) (k:Nat):Decidable (ru s k):=inferInstanceAs (Decidable (∀i,i<k->s.getD i 0=1\/s.getD i 0= -1))
instance (s m:List Int) (k:Nat):Decidable (vQ s m k):=inferInstanceAs (Decidable (∀h:Nat,h<k->0<=m.getD h 0/\m.getD h 0<4*s.length/\m.getD h 0≠h/\m.getD (m.getD h 0).toNat 0=h/\aw s h≠aw s (m.getD h 0)))
def ta (s m:List Int) (L:Int):Bool:=decide (s.length<=64/\m.length=4*s.length/\0<=L/\L<=64/\ru s s.length/\vQ s m (4*s.length))
def bF (s m:List Int) (L:Int):Bool:=ta s m L&&mQ m s.length
theorem vd {s m:List Int} {L:Int} (h: ¬(s.length<=64/\m.length=4*s.length/\0<=L/\L<=64/\ru s s.length/\vQ s m (4*s.length))):false=bF s m L:=by
 unfold bF ta;rw [decide_eq_false h];rfl
theorem vbT {s m:List Int} {L:Int} (h:s.length<=64/\m.length=4*s.length/\0<=L/\L<=64/\ru s s.length/\vQ s m (4*s.length)):mQ m s.length=bF s m L:=by
 unfold bF ta;rw [decide_eq_true h];rfl
theorem y12 {s m:List Int} {L:Int}:bF s m L=true↔(s.length<=64/\m.length=4*s.length/\0<=L/\L<=64/\ru s s.length/\vQ s m (4*s.length))/\mQ m s.length=true:=by
 unfold bF ta;rw [Bool.and_eq_true,decide_eq_true_iff]
theorem Ug {s:List Int} {k:Nat} (h:ru s k) (hx:s.getD k 0=1\/s.getD k 0= -1):ru s (k+1):=fun i hi=>by
 rcases Nat.lt_or_ge i k with g|g
 ·exact h i g
 ·rw [show i=k by omega];exact hx
theorem YK {s m:List Int} {k:Nat} (h:vQ s m k) (hx:0<=m.getD k 0/\m.getD k 0<4*s.length/\m.getD k 0≠k/\m.getD (m.getD k 0).toNat 0=k/\aw s k≠aw s (m.getD k 0)):vQ s m (k+1):=fun i hi=>by
 rcases Nat.lt_or_ge i k with g|g
 ·exact h i g
 ·rw [show i=k by omega];exact hx
theorem mV {b:Bool} (h:b=false): ¬b=true:=by simp [h]
theorem y13 {l:List Int} {k:Nat} (hk:k<l.length) (h: ¬l.getD k 0=2):l.all (· ==2)=false:=by
 cases ha:l.all (· ==2) with
 |false=>rfl
 |true=>
  have:=List.all_eq_true.1 ha _ (List.getElem_mem hk)
  simp only [beq_iff_eq] at this;simp [hk,this] at h
theorem y37 {l:List Int} (h: ∀i,i<l.length->l.getD i 0=2):l.all (· ==2)=true:=by
 rw [List.all_eq_true];intro x hx;obtain ⟨i,hi,rfl⟩:=List.mem_iff_getElem.1 hx
 have:=h i hi
 simpa [hi] using this
def it (nx:Int->Int):Nat->Int->Int
 |0,x=>x
 |j+1,x=>nx (it nx j x)
def its (nx:Int->Int) (x:Int) (k:Nat):List Int:=(List.range k).map fun j=>it nx j x
theorem SA (nx:Int->Int) (x:Int) (k:Nat):its nx x (k+1)=its nx x k++[it nx k x]:=by simp [its,List.range_succ]
theorem Kl (nx:Int->Int) (x:Int) (k:Nat):(its nx x k).length=k:=by simp [its]
structure sb (nx:Int->Int) (x:Int) (k:Nat):Prop where
 pos:0<k
 back:it nx k x=x
 first: ∀j,0<j->j<k->it nx j x≠x
def j5 (seen:List Bool):List Int->List Bool
 |[]=>seen
 |g::r=>j5 (seen.set g.toNat true) r
theorem Lo (l:List Int): ∀seen,(j5 seen l).length=seen.length:=by
 induction l with
 |nil=>intro s;rfl
 |cons g r ih=>intro s;simp [j5,ih]
theorem LL (a:List Int): ∀(seen:List Bool) (b:List Int),j5 seen (a++b)=j5 (j5 seen a) b:=by
 induction a with
 |nil=>intro s b;rfl
 |cons g r ih=>intro s b;simp [j5,ih]
theorem HD (l:List Int): ∀(seen:List Bool) (i:Nat),(∀g∈l,0<=g/\g.toNat<seen.length)->(j5 seen l).getD i false=(seen.getD i false||decide ((i:Int)∈l)):=by
 induction l with
 |nil=>intro s i _;simp [j5]
 |cons g r ih=>
  intro s i h;have hg:=h g (by simp);rw [j5,ih _ _ (fun x hx=>by simpa using h x (by simp [hx]))];by_cases e:g.toNat=i
  ·subst e;rw [nL hg.2]
   have:((g.toNat:Nat):Int)=g:=by omega
   simp [this]
  ·rw [ma e]
   have:(i:Int)≠g:=by omega
   simp [this]
def kX (want:Int->Bool) (orb:Int->List Int) (h:Nat) (st:List (List Int)×List Bool):List (List Int)×List Bool:=
 if st.2.getD h false|| !want h then st else (st.1++[orb h],j5 st.2 (orb h))
def a7 (N:Nat) (want:Int->Bool) (orb:Int->List Int):Nat->List (List Int)×List Bool
 |0=>([],List.replicate N false)
 |h+1=>kX want orb h (a7 N want orb h)
theorem Hq (N:Nat) (want:Int->Bool) (orb:Int->List Int): ∀h,(a7 N want orb h).2.length=N/\(a7 N want orb h).1.length<=h
 |0=>by simp [a7]
 |h+1=>by
  obtain ⟨h1,h2⟩:=Hq N want orb h;simp only [a7,kX]
  split
  ·exact ⟨h1,by omega⟩
  ·exact ⟨by simp only;rw [Lo];exact h1,by simp;omega⟩
theorem VM: ∀(N:Nat) (f:Nat->Nat),(∀i,i<=N->f i<N)-> ∃i j,i<j/\j<=N/\f i=f j
 |0,f,h=>absurd (h 0 (Nat.le_refl _)) (by omega)
 |N+1,f,h=>by
  by_cases hx: ∃i,i<=N/\f i=f (N+1)
  ·obtain ⟨i,hi,e⟩:=hx;exact ⟨i,N+1,by omega,by omega,e⟩
  ·have az: ∀i,i<=N->f i≠f (N+1):=fun i hi e=>hx ⟨i,hi,e⟩;have hg: ∀i,i<=N->(if f i=N then f (N+1) else f i)<N:=by
    intro i hi;have h1:=h i (by omega);have h2:=h (N+1) (by omega);have h3:=az i hi
    split<;>omega
   obtain ⟨i,j,eK,hj,e⟩:=VM N (fun i=>if f i=N then f (N+1) else f i) hg;refine ⟨i,j,eK,by omega,?_⟩;have h1:=az i (by omega);have h2:=az j hj
   split at e<;>split at e<;>omega
theorem AW {p:Nat->Prop}: ∀n,p n-> ∃k,k<=n/\p k/\ ∀m,m<k-> ¬p m:=by
 intro n
 induction n using Nat.strongRecOn with
 |_ n ih=>
  intro hn;by_cases hx: ∃m,m<n/\p m
  ·obtain ⟨m,hm,hp⟩:=hx;obtain ⟨k,h1,h2,h3⟩:=ih m hm hp;exact ⟨k,by omega,h2,h3⟩
  ·exact ⟨n,Nat.le_refl _,hn,fun m hm hp=>hx ⟨m,hm,hp⟩⟩
theorem Jz (nx:Int->Int) (i j:Nat) (x:Int):it nx (i+j) x=it nx i (it nx j x):=by
 induction i with
 |zero=>simp [it]
 |succ i ih=>rw [Nat.add_right_comm];simp [it,ih]
structure Perm (nx:Int->Int) (N:Nat) (S:Int->Prop):Prop where
 cn: ∀x,S x->0<=x/\x<N
 closed: ∀x,S x->S (nx x)
 inj: ∀x y,S x->S y->nx x=nx y->x=y
section
variable {nx:Int->Int} {N:Nat} {S:Int->Prop}
theorem Perm.it (h:Perm nx N S) {x:Int} (hx:S x): ∀j,S (it nx j x)
 |0=>hx
 |j+1=>h.closed _ (h.it hx j)
theorem Perm.cancel (h:Perm nx N S) {x:Int} (hx:S x): ∀i d,Proofs.YtphjphpmfflfpaaGreatDoor.it nx (i+d) x=Proofs.YtphjphpmfflfpaaGreatDoor.it nx i x->Proofs.YtphjphpmfflfpaaGreatDoor.it nx d x=x
 |0,d,e=>by simpa [Proofs.YtphjphpmfflfpaaGreatDoor.it] using e
 |i+1,d,e=>by
  rw [Nat.add_right_comm] at e;exact h.cancel hx i d (h.inj _ _ (h.it hx _) (h.it hx _) e)
theorem Perm.Cc (h:Perm nx N S) {x:Int} (hx:S x): ∃k,k<=N/\sb nx x k:=by
 obtain ⟨i,j,eK,hj,e⟩:=VM N (fun j=>(Proofs.YtphjphpmfflfpaaGreatDoor.it nx j x).toNat) (fun i _=>by have:=h.cn _ (h.it hx i);omega);have r1:=h.cn _ (h.it hx i);have r2:=h.cn _ (h.it hx j);have e':Proofs.YtphjphpmfflfpaaGreatDoor.it nx (i+(j-i)) x=Proofs.YtphjphpmfflfpaaGreatDoor.it nx i x:=by rw [show i+(j-i)=j by omega];omega
 have hd:=h.cancel hx i (j-i) e';obtain ⟨k,h1,⟨h2,h3⟩,h4⟩:=AW (p:=fun d=>0<d/\Proofs.YtphjphpmfflfpaaGreatDoor.it nx d x=x) (j-i) ⟨by omega,hd⟩;exact ⟨k,by omega,h2,h3,fun m hm aG e=>h4 m aG ⟨hm,e⟩⟩
theorem Jy {x:Int} {k:Nat} (h:sb nx x k): ∀j,it nx j x=it nx (j % k) x:=by
 intro j
 induction j using Nat.strongRecOn with
 |_ j ih=>
  rcases Nat.lt_or_ge j k with g|g
  ·rw [Nat.mod_eq_of_lt g]
  ·have h0:=h.pos
   have:it nx j x=it nx (j-k) x:=by
    conv=>lhs;rw [show j=(j-k)+k by omega]
    rw [Jz,h.back]
   rw [this,ih (j-k) (by omega),←Nat.mod_eq_sub_mod g]
theorem GV {x y:Int} {k:Nat}:y∈its nx x k↔ ∃j,j<k/\it nx j x=y:=by simp [its]
theorem T2 {x y:Int} {k:Nat} (h:sb nx x k):y∈its nx x k↔ ∃j,it nx j x=y:=by
 rw [GV];constructor
 ·rintro ⟨j,_,e⟩;exact ⟨j,e⟩
 ·rintro ⟨j,e⟩;exact ⟨j % k,Nat.mod_lt _ h.pos,by rw [←Jy h,e]⟩
theorem y14 {x y:Int} {k:Nat} (h:sb nx x k) (hy: ∃j,it nx j x=y): ∃j,it nx j y=x:=by
 obtain ⟨j,e⟩:=hy;have h0:=h.pos;refine ⟨k-j % k,?_⟩;have aG:=Nat.mod_lt j h0;rw [←e,Jy h j,←Jz,show k-j % k+j % k=k by omega,h.back]
theorem Yq {x y z:Int} (h1: ∃j,it nx j x=y) (h2: ∃j,it nx j y=z): ∃j,it nx j x=z:=by
 obtain ⟨i,rfl⟩:=h1;obtain ⟨j,rfl⟩:=h2;exact ⟨j+i,Jz nx j i x⟩
theorem y39 (h:Perm nx N S) {x:Int} {k:Nat} (hx:S x) (hp:sb nx x k):(its nx x k).Nodup:=by
 unfold its;rw [List.nodup_iff_pairwise_ne,List.pairwise_map];refine List.Pairwise.imp_of_mem ?_ (List.pairwise_lt_range);intro a b ha hb aG e;have hb:=List.mem_range.1 hb
 have:=h.cancel hx a (b-a) (by rw [show a+(b-a)=b by omega];exact e.symm)
 exact hp.first (b-a) (by omega) (by omega) this
end
def vK (x:Int) (l:List Int):Bool:=l.all fun y=>decide (x<=y)
theorem sC {x:Int} {l:List Int}:vK x l=true↔ ∀y∈l,x<=y:=by simp [vK]
theorem Kk {N:Nat} {want:Int->Bool} {orb:Int->List Int} (hr: ∀x:Nat,x<N->want x=true-> ∀y∈orb x,0<=y/\y<N) (hx: ∀x:Nat,x<N->want x=true->(x:Int)∈orb x)
  (hs: ∀x y:Nat,x<N->y<N->want x=true->(y:Int)∈orb x->want y=true/\(x:Int)∈orb y)
  (ht: ∀x y z:Nat,x<N->y<N->z<N->want x=true->(y:Int)∈orb x->(z:Int)∈orb y->(z:Int)∈orb x): ∀h,h<=N->
  (a7 N want orb h).1=((List.range h).filter fun i:Nat=>want i&&vK i (orb i)).map (fun i:Nat=>orb i)/\
  ∀g,g<N->((a7 N want orb h).2.getD g false=true↔ ∃x:Nat,x<h/\want x=true/\(g:Int)∈orb x)
 |0,_=>⟨by simp [a7],fun g hg=>by simp [a7,hg]⟩
 |h+1,hh=>by
  obtain ⟨h1,h2⟩:=Kk hr hx hs ht h (by omega);obtain ⟨hl,_⟩:=Hq N want orb h;have h3:=h2 h (by omega);simp only [a7,kX];by_cases hc:(a7 N want orb h).2.getD h false=true\/want h=false
  ·rw [if_pos (by rcases hc with hc|hc<;>rw [hc]<;>simp)];have hf:(want h&&vK h (orb h))=false:=by
    rcases hc with hc|hc
    ·obtain ⟨x,WT,hwx,hm⟩:=h3.1 hc;cases hw:want h with
     |false=>simp
     |true=>
      have Er:=(hs x h (by omega) (by omega) hwx hm).2;cases Ag:vK h (orb h) with
      |false=>simp
      |true=>have:=sC.1 Ag _ Er;omega
    ·simp [hc]
   refine ⟨by rw [h1,List.range_succ,List.filter_append];simp [hf],fun g hg=>?_⟩;rw [h2 g hg];constructor
   ·rintro ⟨x,h4,h5⟩;exact ⟨x,by omega,h5⟩
   ·rintro ⟨x,h4,h5,h6⟩;rcases Nat.lt_or_ge x h with q|q
    ·exact ⟨x,q,h5,h6⟩
    ·obtain rfl:x=h:=by omega
     rcases hc with hc|hc
     ·obtain ⟨z,hz,WW,hm⟩:=h3.1 hc;exact ⟨z,hz,WW,ht z x g (by omega) (by omega) hg WW hm h6⟩
     ·simp [hc] at h5
  ·have hw:want h=true:=by cases hw:want h<;>simp_all
   have hn: ¬(a7 N want orb h).2.getD h false=true:=fun e=>hc (.inl e);have Ag:vK h (orb h)=true:=sC.2 fun y hy=>by
    have hry:=hr h (by omega) hw y hy;obtain ⟨n,rfl⟩: ∃n:Nat,y=n:=⟨y.toNat,by omega⟩;rcases Nat.lt_or_ge n h with q|q
    ·have:=hs h n (by omega) (by omega) hw hy
     exact absurd (h3.2 ⟨n,q,this.1,this.2⟩) hn
    ·omega
   rw [if_neg (by simp only [Bool.not_eq_true] at hn;rw [hn,hw];simp)];refine ⟨by simp only [h1];rw [List.range_succ,List.filter_append];simp [hw,Ag],fun g hg=>?_⟩;simp only;rw [HD _ _ _ (fun y hy=>by have:=hr h (by omega) hw y hy;exact ⟨this.1,by omega⟩),Bool.or_eq_true,h2 g hg,decide_eq_true_iff];constructor
   ·rintro (⟨x,h4,h5⟩|h4)
    ·exact ⟨x,by omega,h5⟩
    ·exact ⟨h,by omega,hw,h4⟩
   ·rintro ⟨x,h4,h5,h6⟩;rcases Nat.lt_or_ge x h with q|q
    ·exact .inl ⟨x,q,h5,h6⟩
    ·obtain rfl:x=h:=by omega
     exact .inr h6
def nb (m:List Int) (a s:Nat):Nat:=(m.getD (4*a+s) 0/4).toNat
inductive bQ (m:List Int):Nat->Nat->Prop
 |refl (a:Nat):bQ m a a
 |step {a b:Nat} (s:Nat) (hs:s<4) (h:bQ m a b):bQ m a (nb m b s)
structure fQ (m:List Int) (n:Nat):Prop where
 ok:kh m n
 inv: ∀h:Nat,h<4*n->m.getD (m.getD h 0).toNat 0=h
section
variable {m:List Int} {n:Nat}
theorem bQ.trans {a b c:Nat} (h1:bQ m a b) (h2:bQ m b c):bQ m a c:=by
 induction h2 with
 |refl=>exact h1
 |step s hs _ ih=>exact .step s hs ih
theorem fQ.jE (hp:fQ m n) {a s:Nat} (ha:a<n) (hs:s<4):nb m a s<n:=by
 have:=hp.ok.2 (4*a+s) (by omega);unfold nb;omega
theorem fQ.back (hp:fQ m n) {a s:Nat} (ha:a<n) (hs:s<4): ∃t,t<4/\nb m (nb m a s) t=a:=by
 have h1:=hp.ok.2 (4*a+s) (by omega);have h2:=hp.inv (4*a+s) (by omega);refine ⟨(m.getD (4*a+s) 0 % 4).toNat,by omega,?_⟩;unfold nb;rw [show 4*(m.getD (4*a+s) 0/4).toNat+(m.getD (4*a+s) 0 % 4).toNat=(m.getD (4*a+s) 0).toNat by omega,h2];omega
theorem bQ.lt (hp:fQ m n) {a b:Nat} (h:bQ m a b) (ha:a<n):b<n:=by
 induction h with
 |refl=>exact ha
 |step s hs _ ih=>exact hp.jE ih hs
theorem bQ.symm (hp:fQ m n) {a b:Nat} (h:bQ m a b) (ha:a<n):bQ m b a:=by
 induction h with
 |refl=>exact .refl _
 | @step b s hs h ih=>
   obtain ⟨t,ht,e⟩:=hp.back (h.lt hp ha) hs;have h1:=bQ.step t ht (bQ.refl (m:=m) (nb m b s));rw [e] at h1;exact h1.trans ih
theorem bQ.closed (hp:fQ m n) {S:Nat->Prop} (hc: ∀a s,a<n->s<4->S a->S (nb m a s)) {a b:Nat} (h:bQ m a b) (ha:a<n) (hS:S a):S b:=by
 induction h with
 |refl=>exact hS
 |step s hs h ih=>exact hc _ s (h.lt hp ha) hs ih
structure BJ (m:List Int) (n:Nat) (p:Int) (c:Nat) (part q:List Int) (at':Nat) (s:Nat):Prop where
 pok:sF n p part
 qok:xS n q
 vf: ∀a,a<n->0<=part.getD a 0->part.getD a 0≠p-> ∀s,s<4->part.getD (nb m a s) 0=part.getD a 0
 cur: ∀a,a<n->part.getD a 0=p->(a:Int)∉q->a≠at'-> ∀s,s<4->part.getD (nb m a s) 0=p
 con: ∀a,a<n->part.getD a 0=p->bQ m c a
 que: ∀x∈q,part.getD x.toNat 0=p
 hd:at'<n->part.getD at' 0=p/\ ∀s',s'<s->part.getD (nb m at' s') 0=p
theorem BJ.one (hp:fQ m n) {p:Int} (h0:0<=p) {c a s:Nat} {st:List Int×List Int} (h:BJ m n p c st.1 st.2 a s) (ha:a<n) (hs:s<4):BJ m n p c (lE m a p s st).1 (lE m a p s st).2 a (s+1):=by
 have aG:=hp.jE ha hs;have cZ:=VN hp.ok (c:=(a:Int)) (p:=p) ⟨by omega,by omega⟩ h0 hs h.pok h.qok;obtain ⟨CA,Ap⟩:=h.hd ha;have e0:m.getD (4*(a:Int)+s).toNat 0/4=(nb m a s:Int):=by
  have:=hp.ok.2 (4*a+s) (by omega)
  unfold nb;rw [show (4*(a:Int)+s).toNat=4*a+s by omega];omega
 have pg:=h.pok.1;by_cases hn:st.1.getD (nb m a s) 0<0
 ·have e:lE m a p s st=(st.1.set (nb m a s) p,st.2++[(nb m a s:Int)]):=by
   unfold lE;simp only;rw [e0];simp only [Int.toNat_natCast];rw [if_pos hn]
  rw [e] at cZ⊢;have hg: ∀b,(st.1.set (nb m a s) p).getD b 0=if b=nb m a s then p else st.1.getD b 0:=by
   intro b;by_cases eb:nb m a s=b
   ·subst eb;rw [if_pos rfl,nL (by omega)]
   ·rw [ma eb,if_neg (Ne.symm eb)]
  refine ⟨cZ.1,cZ.2.1,?_,?_,?_,?_,?_⟩
  ·intro b hb h1 h2 t ht;simp only [hg] at h1 h2⊢;by_cases eb:b=nb m a s
   ·rw [if_pos eb] at h2;omega
   ·rw [if_neg eb] at h1 h2⊢;have h3:=h.vf b hb h1 h2 t ht;rw [if_neg ?_,h3];intro e';rw [e'] at h3;omega
  ·intro b hb h1 h2 h3 t ht;simp only [hg] at h1⊢;have eb:b≠nb m a s:=fun e'=>h2 (by simp [e']);rw [if_neg eb] at h1
   have:=h.cur b hb h1 (fun hm=>h2 (by simp [hm])) h3 t ht
   split
   ·rfl
   ·exact this
  ·intro b hb h1;simp only [hg] at h1;by_cases eb:b=nb m a s
   ·subst eb;exact .step s hs (h.con a ha CA)
   ·rw [if_neg eb] at h1;exact h.con b hb h1
  ·intro x hx;rcases List.mem_append.1 hx with hx|hx
   ·have:=h.que x hx
    simp only [hg];split
    ·rfl
    ·exact this
   ·rw [List.mem_singleton.1 hx];simp only [hg,Int.toNat_natCast,if_pos]
  ·intro _;simp only [hg];refine ⟨?_,fun s' aZ=>?_⟩
   ·split
    ·rfl
    ·exact CA
   ·rcases Nat.lt_or_ge s' s with g|g
    ·split
     ·rfl
     ·exact Ap s' g
    ·rw [show s'=s by omega,if_pos rfl]
 ·have e:lE m a p s st=st:=by
   unfold lE;simp only;rw [e0];simp only [Int.toNat_natCast];rw [if_neg hn]
  rw [e];refine ⟨h.pok,h.qok,h.vf,h.cur,h.con,h.que,fun _=>⟨CA,fun s' aZ=>?_⟩⟩;rcases Nat.lt_or_ge s' s with g|g
  ·exact Ap s' g
  ·obtain rfl:s'=s:=by omega
   by_cases ep:st.1.getD (nb m a s') 0=p
   ·exact ep
   ·obtain ⟨t,ht,eb⟩:=hp.back ha hs
    have:=h.vf (nb m a s') aG (by omega) ep t ht
    rw [eb] at this;omega
theorem BJ.four (hp:fQ m n) {p:Int} (h0:0<=p) {c a:Nat} {st:List Int×List Int} (h:BJ m n p c st.1 st.2 a 0) (ha:a<n): ∀s,s<=4->BJ m n p c (lb4 m a p st s).1 (lb4 m a p st s).2 a s
 |0,_=>h
 |s+1,hs=>(BJ.four hp h0 h ha s (by omega)).one hp h0 ha (by omega)
theorem VE (hp:fQ m n) {p:Int} (h0:0<=p) {c:Nat}: ∀(f:Nat) (part q:List Int),BJ m n p c part q n 0->2*lD part+q.length<=f->BJ m n p c (bfs m p f part q) [] n 0
 |f,part,[],h,_=>by unfold bfs;exact h
 |0,part,_::_,_,hf=>by simp at hf
 |f+1,part,x::q,h,hf=>by
  obtain ⟨nT,Ev⟩:=h.qok x (by simp);have zK:=h.que x (by simp);obtain ⟨a,rfl⟩: ∃a:Nat,x=a:=⟨x.toNat,by omega⟩;have ha:a<n:=by omega
  simp only [Int.toNat_natCast] at zK;have h1:BJ m n p c (part,q).1 (part,q).2 a 0:=⟨h.pok,fun y hy=>h.qok y (by simp [hy]),h.vf,fun b hb Qg Qf az s hs=>h.cur b hb Qg (by simp only [List.mem_cons,not_or];exact ⟨by omega,Qf⟩) (by omega) s hs,h.con,fun y hy=>h.que y (by simp [hy]),fun _=>⟨zK,fun s' aZ=>by omega⟩⟩;have h2:=BJ.four hp h0 h1 ha 4 (Nat.le_refl _)
  obtain ⟨_,_,h3,_⟩:=Gp hp.ok (c:=(a:Int)) (p:=p) ⟨by omega,by omega⟩ h0 (st:=(part,q)) h1.pok h1.qok 4 (Nat.le_refl _);simp only [bfs];simp only [List.length_cons] at hf;simp only at h3;refine VE hp h0 f _ _ ⟨h2.pok,h2.qok,h2.vf,fun b hb Qg Qf _ s hs=>?_,h2.con,h2.que,fun hh=>by omega⟩ (by omega);by_cases e:b=a
  ·subst e;exact (h2.hd ha).2 s hs
  ·exact h2.cur b hb Qg Qf e s hs
theorem MJ (m:List Int) (c p:Int) (s:Nat) (st:List Int×List Int) (i:Nat):(lE m c p s st).1.getD i 0=st.1.getD i 0\/(lE m c p s st).1.getD i 0=p:=by
 unfold lE;simp only
 split
 ·by_cases e:(m.getD (4*c+s).toNat 0/4).toNat=i
  ·subst e;by_cases hl:(m.getD (4*c+s).toNat 0/4).toNat<st.1.length
   ·right;simp only;rw [nL hl]
   ·left;simp only;rw [List.set_eq_of_length_le (by omega)]
  ·left;simp only;rw [ma e]
 ·exact .inl rfl
theorem VD (m:List Int) (c p:Int) (st:List Int×List Int) (i:Nat): ∀s,(lb4 m c p st s).1.getD i 0=st.1.getD i 0\/(lb4 m c p st s).1.getD i 0=p
 |0=> .inl rfl
 |s+1=>by
  rcases MJ m c p s (lb4 m c p st s) i with h|h
  ·rcases VD m c p st i s with g|g
   ·exact .inl (by simp only [lb4];rw [h,g])
   ·exact .inr (by simp only [lb4];rw [h,g])
  ·exact .inr h
theorem VC (m:List Int) (p:Int) (i:Nat): ∀(f:Nat) (part q:List Int),(bfs m p f part q).getD i 0=part.getD i 0\/(bfs m p f part q).getD i 0=p
 |_,part,[]=>by unfold bfs;exact .inl rfl
 |0,part,_::_=>by simp [bfs]
 |f+1,part,c::q=>by
  simp only [bfs];rcases VC m p i f (lb4 m c p (part,q) 4).1 (lb4 m c p (part,q) 4).2 with h|h
  ·rcases VD m c p (part,q) i 4 with g|g
   ·exact .inl (h.trans g)
   ·exact .inr (h.trans g)
  ·exact .inr h
structure LI (m:List Int) (n:Nat) (st:List Int×Int):Prop where
 clo: ∀a,a<n->0<=st.1.getD a 0-> ∀s,s<4->st.1.getD (nb m a s) 0=st.1.getD a 0
 con: ∀a b,a<n->b<n->0<=st.1.getD a 0->st.1.getD a 0=st.1.getD b 0->bQ m a b
 att: ∀p:Nat,(p:Int)<st.2-> ∃a,a<n/\st.1.getD a 0=p
theorem Jx (hp:fQ m n): ∀k,k<=n->LI m n (cj m n k)
 |0,_=>⟨fun a ha h=>by simp [cj,ha] at h,fun a b ha _ h=>by simp [cj,ha] at h,fun p h=>by simp [cj] at h;omega⟩
 |k+1,hk=>by
  have ih:=Jx hp k (by omega);obtain ⟨g1,g2,g3⟩:=CS hp.ok k (by omega);have X6:=fun i hi=>(CR hp.ok k (by omega) i hi).1;simp only [cj,Cf]
  split
  ·exact ih
  ·rename_i pY
   have pY:(cj m n k).1.getD k 0<0:=by omega
   generalize cj m n k=st at*;obtain ⟨part,p⟩:=st;simp only at*;have lI:=g1.1;have hset: ∀b,(part.set k p).getD b 0=if b=k then p else part.getD b 0:=by
    intro b;by_cases eb:k=b
    ·subst eb;rw [if_pos rfl,nL (by omega)]
    ·rw [ma eb,if_neg (Ne.symm eb)]
   have qQ:BJ m n p k (part.set k p) [(k:Int)] n 0:=by
    refine ⟨⟨by simp [lI],fun i hi=>by rw [hset];have:=g1.2 i hi;split<;>omega⟩,fun x hx=>by simp at hx;omega,?_,?_,?_,fun x hx=>by simp at hx;subst hx;simp only [Int.toNat_natCast];rw [hset,if_pos rfl],fun hh=>by omega⟩
    ·intro a ha h1 h2 s hs;simp only [hset] at h1 h2⊢;by_cases e:a=k
     ·rw [if_pos e] at h2;omega
     ·rw [if_neg e] at h1 h2⊢
      have:part.getD (nb m a s) 0=part.getD a 0:=ih.clo a ha h1 s hs
      rw [if_neg ?_,this];intro e';rw [e'] at this;omega
    ·intro a ha h1 h2 _ s hs;simp only [hset] at h1;by_cases e:a=k
     ·subst e;simp at h2
     ·rw [if_neg e] at h1;have:=X6 a ha;omega
    ·intro a ha h1;simp only [hset] at h1;by_cases e:a=k
     ·subst e;exact .refl _
     ·rw [if_neg e] at h1;have:=X6 a ha;omega
   have Xk:=Lc (i:=k) (p:=p) (by omega) pY g2;have Cr:=Rk part;have hb:=VE hp g2 (2*n+1) _ _ qQ (by simp only [List.length_singleton];omega);have yr:=fun i=>Lb (m:=m) (p:=p) (i:=i) (2*n+1) (part.set k p) [(k:Int)];have ji:(bfs m p (2*n+1) (part.set k p) [(k:Int)]).getD k 0=p:=by
    rw [yr k (by rw [hset,if_pos rfl];exact g2),hset,if_pos rfl]
   have jh:=fun i=>VC m p i (2*n+1) (part.set k p) [(k:Int)];generalize bfs m p (2*n+1) (part.set k p) [(k:Int)]=res at*;have hold: ∀a,a<n->0<=part.getD a 0->res.getD a 0=part.getD a 0:=by
    intro a ha h1;have e:a≠k:=fun e=>by subst e;omega
    have h2:=yr a;rw [hset,if_neg e] at h2;exact h2 h1
   have hnew: ∀a,a<n->0<=res.getD a 0->res.getD a 0≠p->0<=part.getD a 0:=by
    intro a ha h1 h2;have h3:=jh a;rw [hset] at h3;rcases h3 with h3|h3
    ·split at h3
     ·omega
     ·omega
    ·omega
   have c1: ∀a,a<n->0<=res.getD a 0-> ∀s,s<4->res.getD (nb m a s) 0=res.getD a 0:=fun a ha h1 s hs=>by
    by_cases e:res.getD a 0=p
    ·rw [e];exact hb.cur a ha e (by simp) (by omega) s hs
    ·exact hb.vf a ha h1 e s hs
   have c2: ∀a b,a<n->b<n->0<=res.getD a 0->res.getD a 0=res.getD b 0->bQ m a b:=fun a b ha IJ h1 h2=>by
    by_cases e:res.getD a 0=p
    ·exact (bQ.symm hp (hb.con a ha e) (by omega)).trans (hb.con b IJ (by omega))
    ·have eH:=hnew a ha h1 e;have my:=hnew b IJ (by omega) (by omega);exact ih.con a b ha IJ eH (by show part.getD a 0=part.getD b 0;rw [←hold a ha eH,←hold b IJ my];exact h2)
   have c3: ∀q:Nat,(q:Int)<p+1-> ∃a,a<n/\res.getD a 0=q:=fun q hq=>by
    rcases Int.lt_or_le q p with g|g
    ·obtain ⟨a,ha,e⟩:=ih.att q g;have e:part.getD a 0=q:=e;exact ⟨a,ha,by rw [hold a ha (by omega),e]⟩
    ·exact ⟨k,by omega,by rw [ji];omega⟩
   exact ⟨c1,c2,c3⟩
theorem TL (hp:fQ m n) {a b:Nat} (ha:a<n) (hb:b<n):(fF m n).1.getD a 0=(fF m n).1.getD b 0↔bQ m a b:=by
 have h:=Jx hp n (Nat.le_refl _);have h0:=fun i hi=>(CR hp.ok n (Nat.le_refl _) i hi).2 hi;constructor
 ·exact fun e=>h.con a b ha hb (h0 a ha) e
 ·intro hc;refine (bQ.closed hp (S:=fun x=>x<n/\(fF m n).1.getD x 0=(fF m n).1.getD a 0) ?_ hc ha ⟨ha,rfl⟩).2.symm;intro x s hx hs ⟨_,e⟩;exact ⟨hp.jE hx hs,by rw [←e];exact h.clo x hx (h0 x hx) s hs⟩
theorem y15 (hp:fQ m n) {p:Nat} (h:(p:Int)<(fF m n).2): ∃a,a<n/\(fF m n).1.getD a 0=p:=(Jx hp n (Nat.le_refl _)).att p h
def tn (m:List Int) (h:Nat) (l:List Int):List Int:=(l.set (h/4) (min (l.getD (h/4) 0) (l.getD (m.getD h 0/4).toNat 0))).set (m.getD h 0/4).toNat (min (l.getD (h/4) 0) (l.getD (m.getD h 0/4).toNat 0))
def Cb (m l:List Int):Nat->List Int
 |0=>l
 |h+1=>tn m h (Cb m l h)
def dz (m:List Int) (n:Nat):Nat->List Int
 |0=>(List.range n).map fun (i:Nat)=>(i:Int)
 |k+1=>Cb m (dz m n k) (4*n)
def RI (m:List Int) (n:Nat) (l:List Int):Prop:=l.length=n/\ ∀c,c<n->0<=l.getD c 0/\l.getD c 0<=c/\bQ m c (l.getD c 0).toNat
theorem Rj (hp:fQ m n) {l:List Int} (hl:l.length=n) {h:Nat} (hh:h<4*n) (c:Nat):(tn m h l).getD c 0=if c=h/4\/c=nb m (h/4) (h % 4) then min (l.getD (h/4) 0) (l.getD (nb m (h/4) (h % 4)) 0) else l.getD c 0:=by
 have e:(m.getD h 0/4).toNat=nb m (h/4) (h % 4):=by unfold nb;rw [show 4*(h/4)+h % 4=h by omega]
 have aG:=hp.jE (a:=h/4) (s:=h % 4) (by omega) (by omega);unfold tn;rw [e];by_cases e1:nb m (h/4) (h % 4)=c
 ·subst e1;rw [nL (by simp;omega),if_pos (.inr rfl)]
 ·rw [ma e1];by_cases e2:h/4=c
  ·subst e2;rw [nL (by omega),if_pos (.inl rfl)]
  ·rw [ma e2,if_neg (by omega)]
theorem Of (l:List Int) (h:Nat):(tn m h l).length=l.length:=by simp [tn]
theorem VB (hp:fQ m n) {l:List Int} (hl:RI m n l) {h:Nat} (hh:h<4*n):RI m n (tn m h l)/\ ∀c,c<n->(tn m h l).getD c 0<=l.getD c 0:=by
 have aG:=hp.jE (a:=h/4) (s:=h % 4) (by omega) (by omega);have h1:=hl.2 (h/4) (by omega);have h2:=hl.2 _ aG;have hc:bQ m (h/4) (nb m (h/4) (h % 4)):= .step _ (by omega) (.refl _);have wT:=hc.symm hp (by omega);have key: ∀c,c<n->(0<=(tn m h l).getD c 0/\(tn m h l).getD c 0<=c/\bQ m c ((tn m h l).getD c 0).toNat)/\(tn m h l).getD c 0<=l.getD c 0:=by
  intro c XF;rw [Rj hp hl.1 hh];by_cases e:c=h/4\/c=nb m (h/4) (h % 4)
  ·rw [if_pos e];rw [Int.min_def]
   split
   ·rcases e with e|e
    ·subst e;exact ⟨⟨h1.1,h1.2.1,h1.2.2⟩,Int.le_refl _⟩
    ·subst e;exact ⟨⟨h1.1,by omega,wT.trans h1.2.2⟩,by omega⟩
   ·rcases e with e|e
    ·subst e;exact ⟨⟨h2.1,by omega,hc.trans h2.2.2⟩,by omega⟩
    ·subst e;exact ⟨⟨h2.1,h2.2.1,h2.2.2⟩,Int.le_refl _⟩
  ·rw [if_neg e];exact ⟨hl.2 c XF,Int.le_refl _⟩
 exact ⟨⟨by rw [Of];exact hl.1,fun c hc=>(key c hc).1⟩,fun c hc=>(key c hc).2⟩
theorem Gn (hp:fQ m n) {l:List Int} (hl:RI m n l): ∀h,h<=4*n->RI m n (Cb m l h)/\ ∀c,c<n->(Cb m l h).getD c 0<=l.getD c 0
 |0,_=>⟨hl,fun c _=>Int.le_refl _⟩
 |h+1,hh=>by
  obtain ⟨h1,h2⟩:=Gn hp hl h (by omega);obtain ⟨h3,h4⟩:=VB hp h1 (h:=h) (by omega);exact ⟨h3,fun c hc=>Int.le_trans (h4 c hc) (h2 c hc)⟩
theorem VA (hp:fQ m n) {l:List Int} (hl:RI m n l): ∀h,h<=4*n-> ∀c s,4*c+s<h->s<4->(Cb m l h).getD (nb m c s) 0<=l.getD c 0
 |0,_,c,s,fA,_=>by omega
 |h+1,hh,c,s,fA,hs=>by
  obtain ⟨h1,h2⟩:=Gn hp hl h (by omega);obtain ⟨h3,h4⟩:=VB hp h1 (h:=h) (by omega);rcases Nat.lt_or_ge (4*c+s) h with q|q
  ·exact Int.le_trans (h4 _ (hp.jE (by omega) hs)) (VA hp hl h (by omega) c s q hs)
  ·have e1:h/4=c:=by omega
   have e2:h % 4=s:=by omega
   simp only [Cb];rw [Rj hp h1.1 (by omega),e1,e2,if_pos (.inr rfl)]
   have:=h2 c (by omega)
   omega
theorem y3 (hp:fQ m n): ∀k,RI m n (dz m n k)
 |0=>⟨by simp [dz],fun c hc=>by simp [dz,hc];exact .refl _⟩
 |k+1=>(Gn hp (y3 hp k) (4*n) (Nat.le_refl _)).1
theorem YJ {p q:Nat->Bool} (l:List Nat) (h: ∀x∈l,p x=true->q x=true):l.countP p<=l.countP q:=by
 induction l with
 |nil=>simp
 |cons x l ih=>
  have:=ih (fun y hy=>h y (by simp [hy]))
  have hx:=h x (by simp);simp only [List.countP_cons];cases EK:p x<;>cases hqx:q x<;>simp_all<;>omega
theorem YI {p q:Nat->Bool} (l:List Nat) (h: ∀x∈l,p x=true->q x=true) {y:Nat} (hy:y∈l) (h1:p y=false) (h2:q y=true):l.countP p<l.countP q:=by
 induction l with
 |nil=>simp at hy
 |cons x l ih=>
  have h3:=YJ l (fun y hy=>h y (by simp [hy]));have hx:=h x (by simp);simp only [List.countP_cons];rcases List.mem_cons.1 hy with e|e
  ·subst e;simp [h1,h2];omega
  ·have:=ih (fun y hy=>h y (by simp [hy])) e
   cases EK:p x<;>cases hqx:q x<;>simp_all<;>omega
theorem y4f (hp:fQ m n) {u:Nat} (hu:u<n) (tL: ∀b,bQ m u b->u<=b) {b:Nat} (hb:bQ m u b):(dz m n n).getD b 0=u:=by
 have E7: ∀k c,bQ m u c->(u:Int)<=(dz m n k).getD c 0:=fun k c hc=>by
  have hr:=(y3 hp k).2 c (hc.lt hp hu)
  have:=tL _ (hc.trans hr.2.2);omega
 have yk: ∀k,(dz m n k).getD u 0=u:=fun k=>by
  have hr:=(y3 hp k).2 u hu
  have:=E7 k u (.refl _);omega
 have iO: ∀k c,c<n->(dz m n (k+1)).getD c 0<=(dz m n k).getD c 0:=fun k c hc=>(Gn hp (y3 hp k) (4*n) (Nat.le_refl _)).2 c hc;have sQ: ∀k c s,c<n->s<4->(dz m n (k+1)).getD (nb m c s) 0<=(dz m n k).getD c 0:=fun k c s hc hs=>VA hp (y3 hp k) (4*n) (Nat.le_refl _) c s (by omega) hs;have oL: ∀k c,c<n->(dz m n k).getD c 0=u->bQ m u c:=fun k c hc e=>by
  have hr:=(y3 hp k).2 c hc;have h1:=hr.2.2;rw [e] at h1;exact (by simpa using h1:bQ m c u).symm hp hc
 have key: ∀k,(∀c,bQ m u c->(dz m n k).getD c 0=u)\/k+1<=(List.range n).countP (fun c=>decide ((dz m n k).getD c 0=u)):=by
  intro k
  induction k with
  |zero=>
   right;exact List.countP_pos_iff.2 ⟨u,List.mem_range.2 hu,by simp only [yk 0,decide_true]⟩
  |succ k ih=>
   rcases ih with ih|ih
   ·left;intro c hc;have h1:=iO k c (hc.lt hp hu);have h2:=E7 (k+1) c hc;rw [ih c hc] at h1;omega
   ·by_cases bO: ∀c s,c<n->s<4->(dz m n k).getD c 0=u->(dz m n k).getD (nb m c s) 0=u
    ·left;intro c hc;have h0:=(bQ.closed hp (S:=fun c=>c<n/\(dz m n k).getD c 0=u) (fun a s ha hs h=>⟨hp.jE ha hs,bO a s ha hs h.2⟩) hc hu ⟨hu,yk k⟩).2;have h1:=iO k c (hc.lt hp hu);have h2:=E7 (k+1) c hc;rw [h0] at h1;omega
    ·right;have hex: ∃c s,c<n/\s<4/\(dz m n k).getD c 0=u/\(dz m n k).getD (nb m c s) 0≠u:=by
      apply Classical.byContradiction;intro az;exact bO fun c s hc hs e=>Classical.byContradiction fun e'=>az ⟨c,s,hc,hs,e,e'⟩
     obtain ⟨c,s,hc,hs,e1,e2⟩:=hex;have hcu:=oL k c hc e1;have aG:=hp.jE hc hs;have h3:(dz m n (k+1)).getD (nb m c s) 0=u:=by
      have h1:=sQ k c s hc hs;have h2:=E7 (k+1) (nb m c s) (.step s hs hcu);omega
     have:=YI (p:=fun c=>decide ((dz m n k).getD c 0=u)) (q:=fun c=>decide ((dz m n (k+1)).getD c 0=u)) (List.range n) (fun x hx EK=>by
      have hx:=List.mem_range.1 hx;have e:=of_decide_eq_true EK;have h1:=iO k x hx;have h2:=E7 (k+1) x (oL k x hx e);exact decide_eq_true (by omega)) (List.mem_range.2 aG) (decide_eq_false e2) (decide_eq_true h3)
     omega
 rcases key n with h|h
 ·exact h b hb
 ·have:=List.countP_le_length (p:=fun c=>decide ((dz m n n).getD c 0=u)) (l:=List.range n)
  rw [List.length_range] at this;omega
theorem Kj (hp:fQ m n) {a:Nat} (ha:a<n): ∃u,u<n/\bQ m u a/\(∀b,b<n->((dz m n n).getD b 0=u↔bQ m a b)):=by
 obtain ⟨u,h1,h2,h3⟩:=AW (p:=fun b=>bQ m a b) a (.refl _);have hu:u<n:=by omega
 have tL: ∀b,bQ m u b->u<=b:=fun b hb=>Nat.le_of_not_lt fun aG=>h3 b aG (h2.trans hb);have Ii:=h2.symm hp ha;refine ⟨u,hu,Ii,fun b hb=>⟨fun e=>?_,fun fC=>y4f hp hu tL (Ii.trans fC)⟩⟩;have hr:=(y3 hp n).2 b hb;have h4:=hr.2.2;rw [e] at h4;exact h2.trans ((by simpa using h4:bQ m b u).symm hp hb)
end
def tu (nx:Int->Int) (x:Int):Nat->Int->List Int
 |0,_=>[]
 |f+1,g=>if g=x then [] else g::tu nx x f (nx g)
def aY (nx:Int->Int) (N:Nat) (x:Int):List Int:=x::tu nx x N (nx x)
theorem Ri {nx:Int->Int} {x:Int} {k:Nat} (h:sb nx x k): ∀f j,0<j->j<=k->k<=f+j->tu nx x f (it nx j x)=(List.range (k-j)).map fun i=>it nx (j+i) x
 |0,j,h0,h1,h2=>by obtain rfl:j=k:=by omega
                   simp [tu]
 |f+1,j,h0,h1,h2=>by
  unfold tu;by_cases e:j=k
  ·subst e;rw [if_pos h.back];simp
  ·rw [if_neg (h.first j h0 (by omega)),show k-j=(k-(j+1))+1 by omega,List.range_succ_eq_map];rw [show nx (it nx j x)=it nx (j+1) x from rfl,Ri h f (j+1) (by omega) (by omega) (by omega)];simp only [List.map_cons,Nat.add_zero,List.map_map,List.cons.injEq,true_and];refine List.map_congr_left fun i _=>?_;simp only [Function.comp];rw [show j+i.succ=j+1+i by omega]
theorem Rh {nx:Int->Int} {x:Int} {k N:Nat} (h:sb nx x k) (hk:k<=N+1):aY nx N x=its nx x k:=by
 have h0:=h.pos;unfold aY its;rw [show nx x=it nx 1 x from rfl,Ri h N 1 (by omega) (by omega) (by omega)]
 conv=>rhs;rw [show k=(k-1)+1 by omega,List.range_succ_eq_map]
 simp only [List.map_cons,List.map_map];refine congrArg (List.cons x) (List.map_congr_left fun i _=>?_);simp only [Function.comp];rw [show i.succ=1+i by omega]
def jV (m:List Int) (g:Int):Int:=dB (m.getD g.toNat 0) (-1)
def au (n:Nat) (x:Int):Prop:=0<=x/\x<4*n
theorem y4g {n:Nat} {x y b:Int} (hx:au n x) (hy:au n y) (e:dB x b=dB y b):x=y:=by
 have: -4<b.tmod 4/\b.tmod 4<4:=⟨Int.lt_tmod_of_pos b (by decide),Int.tmod_lt_of_pos b (by decide)⟩
 unfold dB au at*;omega
section
variable {m:List Int} {n:Nat}
theorem fQ.inj (hp:fQ m n) {x y:Int} (hx:au n x) (hy:au n y) (e:m.getD x.toNat 0=m.getD y.toNat 0):x=y:=by
 unfold au at*;have h1:=hp.inv x.toNat (by omega);have h2:=hp.inv y.toNat (by omega);rw [e,h2] at h1;omega
theorem fQ.cn (hp:fQ m n) {x:Int} (hx:au n x):au n (m.getD x.toNat 0):=by
 unfold au at*;have:=hp.ok.2 x.toNat (by omega);omega
theorem Tl (hp:fQ m n) (b:Int):Perm (fun g=>dB (m.getD g.toNat 0) b) (4*n) (au n):=
 ⟨fun x hx=>by unfold au at hx;omega,fun x hx=>by have:=hp.cn hx;unfold au at*;exact LH this.1 this.2,
  fun x y hx hy e=>hp.inj hx hy (y4g (hp.cn hx) (hp.cn hy) e)⟩
theorem HB (hp:fQ m n):Perm (jV m) (4*n) (au n):=Tl hp (-1)
theorem zt {nx:Int->Int} {N:Nat} {S:Int->Prop} (h:Perm nx N S) {x:Int} (hx:S x):
  (∀y,y∈aY nx N x↔ ∃j,it nx j x=y)/\(∀y∈aY nx N x,S y)/\(∀y∈aY nx N x,x∈aY nx N y)/\(∀y∈aY nx N x,∀z∈aY nx N y,z∈aY nx N x)/\x∈aY nx N x/\(aY nx N x).length<=N/\(aY nx N x).Nodup/\ ∃k,k<=N/\sb nx x k/\aY nx N x=its nx x k:=by
 obtain ⟨k,hk,hp⟩:=h.Cc hx;have e:=Rh hp (N:=N) (by omega);have hm: ∀y,y∈aY nx N x↔ ∃j,it nx j x=y:=fun y=>by rw [e];exact T2 hp
 have hS: ∀y∈aY nx N x,S y:=fun y hy=>by obtain ⟨j,rfl⟩:=(hm y).1 hy;exact h.it hx j
 have Ac: ∀y,S y-> ∀z,z∈aY nx N y↔ ∃j,it nx j y=z:=fun y hy z=>by
  obtain ⟨l,hl,hq⟩:=h.Cc hy;rw [Rh hq (N:=N) (by omega)];exact T2 hq
 refine ⟨hm,hS,fun y hy=>?_,fun y hy z hz=>?_,by simp [aY],by rw [e,Kl];exact hk,by rw [e];exact y39 h hx hp,k,hk,hp,e⟩
 ·exact (Ac y (hS y hy) x).2 (y14 hp ((hm y).1 hy))
 ·exact (hm z).2 (Yq ((hm y).1 hy) ((Ac y (hS y hy) z).1 hz))
theorem Oe (hp:fQ m n) (hn:m.length=4*n) {seen:List Bool} (hl:seen.length=4*n) {x:Int} (hx:au n x) {k:Nat} (hk:sb (jV m) x k) (hu: ∀j,j<k->seen.getD (it (jV m) j x).toNat false=false):
  ∀d j f,d=k-j->j<=k->d<f->mark m f (j5 seen (its (jV m) x j)) (it (jV m) j x)=j5 seen (its (jV m) x k):=by
 have gn:=HB hp;have hR: ∀j,au n (it (jV m) j x):=fun j=>gn.it hx j;have Ip: ∀j,∀g∈its (jV m) x j,0<=g/\g.toNat<seen.length:=fun j g hg=>by
  obtain ⟨i,_,rfl⟩:=GV.1 hg
  have:=hR i;unfold au at this;omega
 have nU:=hk.pos;intro d
 induction d with
 |zero=>
  intro j f hd hj hf;obtain rfl:j=k:=by omega
  obtain ⟨f',rfl⟩: ∃f',f=f'+1:=⟨f-1,by omega⟩;simp only [mark];rw [hk.back,if_pos];rw [HD _ _ _ (Ip j),Bool.or_eq_true,decide_eq_true_iff];right;have gw:=hx;unfold au at gw;rw [show ((x.toNat:Nat):Int)=x by omega];exact GV.2 ⟨0,nU,rfl⟩
 |succ d ih=>
  intro j f hd hj hf;obtain ⟨f',rfl⟩: ∃f',f=f'+1:=⟨f-1,by omega⟩;have hRj:=hR j;unfold au at hRj;simp only [mark];rw [if_neg]
  ·have e1:(j5 seen (its (jV m) x j)).set (it (jV m) j x).toNat true=j5 seen (its (jV m) x (j+1)):=by
    rw [SA,LL];rfl
   rw [e1];exact ih (j+1) f' (by omega) (by omega) (by omega)
  ·rw [HD _ _ _ (Ip j),hu j (by omega),Bool.false_or,decide_eq_true_iff];rw [show (((it (jV m) j x).toNat:Nat):Int)=it (jV m) j x by omega];intro hm;obtain ⟨i,hi,e⟩:=GV.1 hm
   have:=gn.cancel hx i (j-i) (by rw [show i+(j-i)=j by omega];exact e.symm)
   exact hk.first (j-i) (by omega) (by omega) this
def fl (m:List Int) (h:Nat):Bool:=vK h (aY (jV m) m.length h)
def fZ (l:List Int) (n:Nat) (p:Int):Nat:=(List.range n).countP fun c=>l.getD c 0==p
def iQ (m l:List Int) (h:Nat) (p:Int):Nat:=(List.range h).countP fun i=>fl m i&&l.getD (i/4) 0==p
theorem y4h (l:List Int) (n:Nat) (p:Int):fZ l (n+1) p=fZ l n p+if l.getD n 0=p then 1 else 0:=by
 unfold fZ;rw [List.range_succ,List.countP_append];simp [List.countP_cons]
theorem Tk (m l:List Int) (h:Nat) (p:Int):iQ m l (h+1) p=iQ m l h p+if fl m h=true/\l.getD (h/4) 0=p then 1 else 0:=by
 unfold iQ;rw [List.range_succ,List.countP_append];simp [List.countP_cons]
theorem Rg {part:List Int} {np:Nat} (wE: ∀c,c<part.length->0<=part.getD c 0/\part.getD c 0<np) {p:Nat} (h:p<np): ∀k,k<=part.length->(gD part np k).getD p 0= -(fZ part k p:Int)
 |0,_=>by simp [gD,fZ,h]
 |k+1,hk=>by
  have ih:=Rg wE h k (by omega);have hl:=(GW part np k).1;have hr:=wE k (by omega);simp only [gD];rw [y4h];by_cases e:(part.getD k 0).toNat=p
  ·rw [e,nL (by omega),if_pos (by omega),ih];omega
  ·rw [ma e,if_neg (by omega),ih];omega
theorem Rf (hp:fQ m n) (hm:m.length=4*n) {part:List Int} {np:Nat} (lI:part.length=n) (wE: ∀c,c<n->0<=part.getD c 0/\part.getD c 0<np): ∀h,h<=4*n->
  (∀p:Nat,p<np->(b6 m part np h).1.getD p 0=(iQ m part h p:Int)-fZ part n p)/\
  ∀g:Nat,g<4*n->((b6 m part np h).2.getD g false=true↔ ∃x:Nat,x<h/\(g:Int)∈aY (jV m) m.length x)
 |0,_=>by
  refine ⟨fun p aG=>?_,fun g hg=>by simp [b6,hm,hg]⟩;simp only [b6];rw [Rg (fun c hc=>wE c (by omega)) aG _ (Nat.le_refl _),lI];simp [iQ]
 |h+1,hh=>by
  obtain ⟨h1,h2⟩:=Rf hp hm lI wE h (by omega);obtain ⟨l1,l2,_⟩:=BF m part np h;have hR: ∀x:Nat,x<4*n->au n (x:Int):=fun x hx=>by unfold au;omega
  have kv:=fun (x:Nat) (hx:x<4*n)=>by
   have:=zt (HB hp) (hR x hx)
   rw [←hm] at this;exact this
  have zP:=h2 h (by omega);simp only [b6,tj];by_cases hs:(b6 m part np h).2.getD h false=true
  ·rw [if_pos hs];obtain ⟨x,hx,wz⟩:=zP.1 hs;have qc:fl m h=false:=by
    cases hf:fl m h with
    |false=>rfl
    |true=>
     have:=sC.1 hf x ((kv x (by omega)).2.2.1 h wz);omega
   refine ⟨fun p aG=>by rw [Tk,if_neg (by simp [qc]),h1 p aG];omega,fun g hg=>?_⟩;rw [h2 g hg];constructor
   ·rintro ⟨y,hy,h3⟩;exact ⟨y,by omega,h3⟩
   ·rintro ⟨y,hy,h3⟩;rcases Nat.lt_or_ge y h with q|q
    ·exact ⟨y,q,h3⟩
    ·obtain rfl:y=h:=by omega
     exact ⟨x,hx,(kv x (by omega)).2.2.2.1 y wz g h3⟩
  ·rw [if_neg hs];obtain ⟨o1,o2,o3,o4,o5,o6,o7,k,hk,lJ,cZ⟩:=kv h (by omega);have qc:fl m h=true:=sC.2 fun y hy=>by
    have hr:=o2 y hy;unfold au at hr;obtain ⟨z,rfl⟩: ∃z:Nat,y=z:=⟨y.toNat,by omega⟩;rcases Nat.lt_or_ge z h with q|q
    ·exact absurd (zP.2 ⟨z,q,o3 z hy⟩) hs
    ·omega
   have Ct:mark m (m.length+1) (b6 m part np h).2 h=j5 (b6 m part np h).2 (aY (jV m) m.length h):=by
    rw [cZ];refine Oe hp hm (by omega) (hR h (by omega)) lJ (fun j hj=>?_) k 0 (m.length+1) (by omega) (by omega) (by omega);have tO:it (jV m) j h∈aY (jV m) m.length h:=(o1 _).2 ⟨j,rfl⟩;have hjr:=o2 _ tO;unfold au at hjr;cases E4:(b6 m part np h).2.getD (it (jV m) j h).toNat false with
    |false=>rfl
    |true=>
     obtain ⟨y,hy,h3⟩:=(h2 _ (by omega)).1 E4;rw [show (((it (jV m) j h).toNat:Nat):Int)=it (jV m) j h by omega] at h3;exact absurd (zP.2 ⟨y,hy,(kv y (by omega)).2.2.2.1 _ h3 _ (o3 _ tO)⟩) hs
   have wF:=wE (h/4) (by omega);refine ⟨fun p aG=>?_,fun g hg=>?_⟩
   ·rw [Tk];simp only;by_cases e:(part.getD (h/4) 0).toNat=p
    ·rw [e,nL (by omega),if_pos ⟨qc,by omega⟩,h1 p aG];omega
    ·rw [ma e,if_neg (by omega),h1 p aG];omega
   ·simp only;rw [Ct,HD _ _ _ (fun y hy=>by have:=o2 y hy;unfold au at this;omega),Bool.or_eq_true,h2 g hg,decide_eq_true_iff];constructor
    ·rintro (⟨x,h4,h5⟩|h4)
     ·exact ⟨x,by omega,h5⟩
     ·exact ⟨h,by omega,h4⟩
    ·rintro ⟨x,h4,h6⟩;rcases Nat.lt_or_ge x h with q|q
     ·exact .inl ⟨x,q,h6⟩
     ·obtain rfl:x=h:=by omega
      exact .inr h6
theorem ZE (hp:fQ m n):mQ m n=true↔ ∀p:Nat,(p:Int)<(fF m n).2->iQ m (fF m n).1 (4*n) p=fZ (fF m n).1 n p+2:=by
 obtain ⟨p1,p2,p3,p4⟩:=Lp hp.ok;have hm:=hp.ok.1;have h1:=(Rf hp hm p1 (np:=(fF m n).2.toNat) (fun c hc=>by have:=p4 c hc;omega) (4*n) (Nat.le_refl _)).1;have hlen:=(BF m (fF m n).1 (fF m n).2.toNat (4*n)).1;unfold mQ;rw [hm,List.all_eq_true];constructor
 ·intro h p aG;have h2:=h1 p (by omega);have gT:(b6 m (fF m n).1 (fF m n).2.toNat (4*n)).1.getD p 0∈(b6 m (fF m n).1 (fF m n).2.toNat (4*n)).1:=by
   rw [List.getD_eq_getElem?_getD,List.getElem?_eq_getElem (by omega)];exact List.getElem_mem _
  have:=h _ gT
  simp only [beq_iff_eq] at this;omega
 ·intro h x hx;obtain ⟨i,hi,rfl⟩:=List.mem_iff_getElem.1 hx;have h2:=h1 i (by omega);have h3:=h i (by omega);rw [List.getD_eq_getElem?_getD,List.getElem?_eq_getElem hi] at h2;simp only [Option.getD_some] at h2;simp only [beq_iff_eq];omega
def rD (m:List Int) (n:Nat):Bool:=(List.range n).all fun c=> !((dz m n n).getD c 0==(c:Int))||iQ m (dz m n n) (4*n) c==fZ (dz m n n) n c+2
theorem Sz:rD m n=true↔ ∀c,c<n->(dz m n n).getD c 0=c->iQ m (dz m n n) (4*n) c=fZ (dz m n n) n c+2:=by
 unfold rD;rw [List.all_eq_true];constructor
 ·intro h c hc e
  have:=h c (List.mem_range.2 hc)
  rw [e] at this;simpa using this
 ·intro h c hc;by_cases e:(dz m n n).getD c 0=(c:Int)
  ·rw [h c (List.mem_range.1 hc) e];simp
  ·have:((dz m n n).getD c 0==(c:Int))=false:=by simpa using e
   rw [this];rfl
theorem y4i {l l':List Int} {p p':Int} (h: ∀b,b<n->(l.getD b 0=p↔l'.getD b 0=p')):fZ l n p=fZ l' n p'/\iQ m l (4*n) p=iQ m l' (4*n) p':=by
 constructor
 ·unfold fZ;refine List.countP_congr fun b hb=>?_;simp only [beq_iff_eq];exact h b (List.mem_range.1 hb)
 ·unfold iQ;refine List.countP_congr fun b hb=>?_
  have:=List.mem_range.1 hb
  simp only [Bool.and_eq_true,beq_iff_eq];rw [h (b/4) (by omega)]
theorem MI (hp:fQ m n):mQ m n=rD m n:=by
 obtain ⟨p1,p2,p3,p4⟩:=Lp hp.ok;have key: ∀a,a<n-> ∃u,u<n/\(dz m n n).getD u 0=u/\fZ (fF m n).1 n ((fF m n).1.getD a 0)=fZ (dz m n n) n u/\iQ m (fF m n).1 (4*n) ((fF m n).1.getD a 0)=iQ m (dz m n n) (4*n) u/\(dz m n n).getD a 0=u:=by
  intro a ha;obtain ⟨u,hu,Ii,kD⟩:=Kj hp ha;have IG:=y4i (m:=m) (n:=n) (l:=(fF m n).1) (l':=dz m n n) (p:=(fF m n).1.getD a 0) (p':=u) (fun b hb=>by
   rw [kD b hb];constructor
   ·intro e;exact (TL hp ha hb).1 e.symm
   ·intro e;exact ((TL hp ha hb).2 e).symm)
  exact ⟨u,hu,(kD u hu).2 (Ii.symm hp hu),IG.1,IG.2,(kD a ha).2 (.refl _)⟩
 rw [Bool.eq_iff_iff,ZE hp,Sz];constructor
 ·intro h c hc e;obtain ⟨u,hu,_,h1,h2,h3⟩:=key c hc
  have:u=c:=by omega
  subst this;have h4:=p4 u hc;have h5:=h ((fF m n).1.getD u 0).toNat (by omega);rw [show (((fF m n).1.getD u 0).toNat:Int)=(fF m n).1.getD u 0 by omega,h1,h2] at h5;exact h5
 ·intro h p aG;obtain ⟨a,ha,e⟩:=y15 hp aG;obtain ⟨u,hu,h0,h1,h2,_⟩:=key a ha;have h5:=h u hu h0;rw [e] at h1 h2;omega
end
theorem y4j {s m:List Int} {L:Int} (h:ta s m L=true):fQ m s.length:=by
 unfold ta at h;obtain ⟨_,h2,_,_,_,h6⟩:=of_decide_eq_true h;exact ⟨⟨h2,fun i hi=>⟨(h6 i hi).1,(h6 i hi).2.1⟩⟩,fun i hi=>(h6 i hi).2.2.2.1⟩
def Bo (s m:List Int) (L:Int):Bool:=ta s m L&&rD m s.length
theorem Ho (s m:List Int) (L:Int):bF s m L=Bo s m L:=by
 unfold bF Bo;cases h:ta s m L with
 |false=>rfl
 |true=>rw [MI (y4j h)]
theorem qo (h:Int):dB h 1=h-h % 4+(h % 4+5)% 4:=by
 have:(1:Int).tmod 4=1:=by decide
 unfold dB;rw [this];omega
theorem pD (h:Int):dB h (-1)=h-h % 4+(h % 4+3)% 4:=by
 have:(-1:Int).tmod 4= -1:=by decide
 unfold dB;rw [this];omega
def bd (b:Bool) (h:Int):Int:=if decide (h % 2=1)=b then dB h 1 else dB h (-1)
theorem xl (b:Bool) (h:Int):bd b h/4=h/4:=by
 unfold bd;rw [qo,pD];split<;>omega
theorem GU (b:Bool) (h:Int):bd b (bd b h)=h:=by
 unfold bd;rw [qo,pD];cases b
 ·by_cases e:h % 2=1
  ·simp only [e,decide_true,Bool.true_eq_false,if_false]
   have: ¬(h-h % 4+(h % 4+3)% 4)% 2=1:=by omega
   simp only [this,decide_false,if_true];rw [qo];omega
  ·simp only [e,decide_false,if_true]
   have:(h-h % 4+(h % 4+5)% 4)% 2=1:=by omega
   simp only [this,decide_true,Bool.true_eq_false,if_false];rw [pD];omega
 ·by_cases e:h % 2=1
  ·simp only [e,decide_true,if_true]
   have: ¬(h-h % 4+(h % 4+5)% 4)% 2=1:=by omega
   simp only [this,decide_false,Bool.false_eq_true,if_false];rw [pD];omega
  ·simp only [e,decide_false,Bool.false_eq_true,if_false]
   have:(h-h % 4+(h % 4+3)% 4)% 2=1:=by omega
   simp only [this,decide_true,if_true];rw [qo];omega
theorem Gm (b:Bool) (h:Int):bd b h≠h:=by
 unfold bd;rw [qo,pD];split<;>omega
theorem MH (b:Bool) {h:Int} (h0:0<=h):0<=bd b h:=by
 have:=xl b h;omega
section
variable {m:List Int} {n:Nat} {b:Bool} {c:Nat}
end
def bE (m:List Int) (g:Int):Int:=dB (m.getD g.toNat 0) 2
def a8 (s m:List Int):List (List Int):=(a7 m.length (aw s) (aY (bE m) m.length) m.length).1
structure Bn (s m:List Int) (L:Int):Prop where
 s64:s.length<=64
 len:m.length=4*s.length
 l0:0<=L
 vi:L<=64
 sg:ru s s.length
 mt:vQ s m (4*s.length)
 prd:fQ m s.length
theorem cK {s m:List Int} {L:Int} (h:bF s m L=true):Bn s m L:=by
 obtain ⟨⟨h1,h2,h3,h4,h5,h6⟩,_⟩:=y12.1 h;exact ⟨h1,h2,h3,h4,h5,h6,⟨h2,fun i hi=>⟨(h6 i hi).1,(h6 i hi).2.1⟩⟩,fun i hi=>(h6 i hi).2.2.2.1⟩
theorem xx {m:List Int} {n:Nat} (hp:fQ m n):Perm (bE m) (4*n) (au n):=Tl hp 2
theorem zu (s m:List Int):(a8 s m).length<=m.length:=(Hq _ _ _ _).2
theorem La {N:Nat} {want:Int->Bool} {orb:Int->List Int}: ∀h,∀l∈(a7 N want orb h).1,∃x:Nat,x<h/\want x=true/\l=orb x
 |0,l,hl=>by simp [a7] at hl
 |h+1,l,hl=>by
  simp only [a7,kX] at hl
  split at hl
  ·obtain ⟨x,h1,h2⟩:=La h l hl;exact ⟨x,by omega,h2⟩
  ·rename_i hc
   rcases List.mem_append.1 hl with hl|hl
   ·obtain ⟨x,h1,h2⟩:=La h l hl;exact ⟨x,by omega,h2⟩
   ·refine ⟨h,by omega,?_,List.mem_singleton.1 hl⟩;cases hw:want h with
    |true=>rfl
    |false=>rw [hw] at hc;simp at hc
theorem Uf {s m:List Int} {n:Nat} (hp:fQ m n) {l:List Int} (hl:l∈a8 s m):l.length<=4*n/\ ∀x∈l,0<=x/\x<4*n:=by
 obtain ⟨x,hx,_,rfl⟩:=La _ l hl;have hm:=hp.ok.1;have hR:au n (x:Int):=by unfold au;omega
 have kv:=zt (xx hp) hR;rw [←hm] at kv;exact ⟨by have:=kv.2.2.2.2.2.1;omega,fun y hy=>by have:=kv.2.1 y hy;unfold au at this;omega⟩
def j7 (m:List Int) (to:Int->Int):Nat->List Int
 |0=>List.replicate m.length 0
 |k+1=>(j7 m to k).set (to k).toNat (to (m.getD k 0))
theorem GS (m:List Int) (to:Int->Int): ∀k,(j7 m to k).length=m.length
 |0=>by simp [j7]
 |k+1=>by simp [j7,GS m to k]
def iF (s:List Int) (sg:Int->Int) (k:Nat):List Int:=(List.range k).map fun (c:Nat)=>s.getD c 0*sg c
theorem sv (s:List Int) (sg:Int->Int) (k:Nat):(iF s sg k).length=k:=by simp [iF]
theorem Od (s:List Int) (sg:Int->Int) (n k:Nat) (h:k<n):(iF s sg k++List.replicate (n-k) 0).set k (s.getD k 0*sg k)=iF s sg (k+1)++List.replicate (n-(k+1)) 0:=by
 rw [List.set_append_right _ _ (by rw [sv];omega),sv,Nat.sub_self];obtain ⟨d,hd⟩: ∃d,n-k=d+1:=⟨n-k-1,by omega⟩;rw [hd,List.replicate_succ,List.set_cons_zero,show n-(k+1)=d by omega];simp [iF,List.range_succ]
def uy (s:List Int) (ch:Int->Bool) (c:Int):Int:=if ch c then (if s.getD c.toNat 0=1 then-3 else-1) else 0
def rW (ch:Int->Bool) (c:Int):Int:=if ch c then-1 else 1
def pA (s:List Int) (ch:Int->Bool):List Int:=iF s (rW ch) s.length
def AD (s m:List Int) (ch:Int->Bool):List Int:=j7 m (fun h=>dB h (uy s ch (h/4))) m.length
end Go.Proofs.YtphjphpmfflfpaaGreatDoor
