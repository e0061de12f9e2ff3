/- Plain functions and facts: labels, cycles, spheres, circles, smoothing. -/
set_option linter.unusedSimpArgs false
set_option linter.unusedVariables false
namespace Go.Proofs.YtjpbeacamoijhaaGreatDoor
def po (m:List Int) (c p:Int) (s:Nat) (st:List Int×List Int):List Int×List Int:=
 let to:=m.getD (4*c+s).toNat 0/4
 if st.1.getD to.toNat 0<0 then (st.1.set to.toNat p,st.2++[to]) else st
def lb4 (m:List Int) (c p:Int) (st:List Int×List Int):Nat->List Int×List Int
 |0=>st
 |s+1=>po m c p s (lb4 m c p st s)
def bfs (m:List Int) (p:Int):Nat->List Int->List Int->List Int
 |_,part,[]=>part
 |0,part,_::_=>part
 |n+1,part,c::q=>let st:=lb4 m c p (part,q) 4;bfs m p n st.1 st.2
def Dz (m:List Int) (n c:Nat) (st:List Int×Int):List Int×Int:=
 if 0<=st.1.getD c 0 then st else (bfs m st.2 (2*n+1) (st.1.set c st.2) [(c:Int)],st.2+1)
def bS (m:List Int) (n:Nat):Nat->List Int×Int
 |0=>(List.replicate n (-1),0)
 |c+1=>Dz m n c (bS m n c)
def ja (m:List Int) (n:Nat):List Int×Int:=bS m n n
theorem nr {α:Type} {l:List α} {i:Nat} {a d:α} (h:i<l.length):(l.set i a).getD i d=a:=by simp [h]
theorem ns {α:Type} {l:List α} {i j:Nat} {a d:α} (h:i≠j):(l.set i a).getD j d=l.getD j d:=by simp [h]
theorem y30 {α:Type} (a b:α) (n k:Nat) (h:k<n):(List.replicate k a++List.replicate (n-k) b).set k a=List.replicate (k+1) a++List.replicate (n-(k+1)) b:=by
 rw [List.set_append_right _ _ (by simp),List.length_replicate,Nat.sub_self];obtain ⟨d,hd⟩: ∃d,n-k=d+1:=⟨n-k-1,by omega⟩;rw [hd,List.replicate_succ,List.set_cons_zero,show n-(k+1)=d by omega,List.replicate_succ',List.append_assoc];rfl
def pk (l:List Int):Nat:=l.countP fun x=>decide (x<0)
theorem LU {l:List Int} {i:Nat} {p:Int} (hi:i<l.length) (hl:l.getD i 0<0) (hp:0<=p):pk (l.set i p)+1=pk l:=by
 unfold pk
 induction l generalizing i with
 |nil=>simp at hi
 |cons x l ih=>
  cases i with
  |zero=>
   simp at hl;simp [List.countP_cons,hl,Int.not_lt.2 hp]
  |succ i=>
   simp only [List.set_cons_succ,List.countP_cons]
   have:=ih (i:=i) (by simpa using hi) (by simpa using hl)
   omega
theorem Q5 (l:List Int):pk l<=l.length:=List.countP_le_length
def pf (m:List Int) (n:Nat):Prop:=m.length=4*n/\ ∀i,i<4*n->0<=m.getD i 0/\m.getD i 0<4*n
def An (n:Nat) (q:List Int):Prop:= ∀x∈q,0<=x/\x<n
def vD (n:Nat) (p:Int) (l:List Int):Prop:=l.length=n/\ ∀i,i<n-> -1<=l.getD i 0/\l.getD i 0<=p
theorem PQ {m:List Int} {n:Nat} (hm:pf m n) {c p:Int} (hc:0<=c/\c<n) (hp:0<=p) {s:Nat} (hs:s<4) {st:List Int×List Int} (h1:vD n p st.1) (h2:An n st.2):
  vD n p (po m c p s st).1/\An n (po m c p s st).2/\2*pk (po m c p s st).1+(po m c p s st).2.length<=2*pk st.1+st.2.length/\(po m c p s st).2.length<=st.2.length+1:=by
 have JM:=hm.2 (4*c+s).toNat (by omega);unfold po;simp only;have NH:0<=m.getD (4*c+s).toNat 0/4/\m.getD (4*c+s).toNat 0/4<n:=by omega
 generalize m.getD (4*c+s).toNat 0/4=to at*
 split
 ·rename_i sW
  have ay:to.toNat<st.1.length:=by rw [h1.1];omega
  have hn:=LU ay sW hp;refine ⟨⟨by simp [h1.1],fun i hi=>?_⟩,fun x hx=>?_,?_,by simp⟩
  ·by_cases e:to.toNat=i
   ·subst e;rw [nr ay];omega
   ·rw [ns e];exact h1.2 i hi
  ·rcases List.mem_append.1 hx with hx|hx
   ·exact h2 x hx
   ·rw [List.mem_singleton.1 hx];exact NH
  ·simp only [List.length_append,List.length_singleton];omega
 ·exact ⟨h1,h2,Nat.le_refl _,by omega⟩
theorem Ib {m:List Int} {n:Nat} (hm:pf m n) {c p:Int} (hc:0<=c/\c<n) (hp:0<=p) {st:List Int×List Int} (h1:vD n p st.1) (h2:An n st.2): ∀s,s<=4->
  vD n p (lb4 m c p st s).1/\An n (lb4 m c p st s).2/\2*pk (lb4 m c p st s).1+(lb4 m c p st s).2.length<=2*pk st.1+st.2.length/\(lb4 m c p st s).2.length<=st.2.length+s
 |0,_=>⟨h1,h2,Nat.le_refl _,by simp [lb4]⟩
 |s+1,hs=>by
  obtain ⟨g1,g2,g3,g5⟩:=Ib hm hc hp h1 h2 s (by omega);obtain ⟨k1,k2,k3,k5⟩:=PQ hm hc hp (show s<4 by omega) g1 g2;exact ⟨k1,k2,by simp only [lb4];omega,by simp only [lb4];omega⟩
theorem K4 {m:List Int} {n:Nat} (hm:pf m n) {p:Int} (hp:0<=p): ∀(f:Nat) (part q:List Int),vD n p part->An n q->vD n p (bfs m p f part q)
 |_,part,[],h,_=>by unfold bfs;exact h
 |0,part,_::_,h,_=>by simpa [bfs] using h
 |f+1,part,c::q,h,hq=>by
  simp only [bfs];obtain ⟨g1,g2,_⟩:=Ib hm (hq c (by simp)) hp (st:=(part,q)) h (fun x hx=>hq x (by simp [hx])) 4 (Nat.le_refl _);exact K4 hm hp f _ _ g1 g2
theorem Ei {m:List Int} {n:Nat} (hm:pf m n): ∀k,k<=n->vD n (bS m n k).2 (bS m n k).1/\0<=(bS m n k).2/\(bS m n k).2<=k
 |0,_=>⟨⟨by simp [bS],fun i hi=>by simp [bS,hi]⟩,by simp [bS],by simp [bS]⟩
 |k+1,hk=>by
  obtain ⟨h1,h2,h3⟩:=Ei hm k (by omega);simp only [bS,Dz]
  split
  ·exact ⟨h1,h2,by omega⟩
  ·refine ⟨?_,by omega,by omega⟩
   have:vD n ((bS m n k).2) (bfs m (bS m n k).2 (2*n+1) ((bS m n k).1.set k (bS m n k).2) [(k:Int)]):=by
    refine K4 hm h2 _ _ _ ⟨by simp [h1.1],fun i hi=>?_⟩ (fun x hx=>by simp at hx;omega);have cT:k<(bS m n k).1.length:=by rw [h1.1];omega
    by_cases e:k=i
    ·subst e;rw [nr cT];omega
    ·rw [ns e];exact h1.2 i hi
   exact ⟨this.1,fun i hi=>by have:=this.2 i hi;simp only;omega⟩
def cd (h b:Int):Int:=h-h % 4+(h % 4+b.tmod 4+4)% 4
theorem EN {h b:Int} {n:Nat} (h0:0<=h) (h1:h<4*n):0<=cd h b/\cd h b<4*n:=by
 have: -4<b.tmod 4/\b.tmod 4<4:=⟨Int.lt_tmod_of_pos b (by decide),Int.tmod_lt_of_pos b (by decide)⟩
 unfold cd;omega
theorem y31 {m:List Int} {c p:Int} {s:Nat} {st:List Int×List Int} {i:Nat} (h:0<=st.1.getD i 0):(po m c p s st).1.getD i 0=st.1.getD i 0:=by
 unfold po;simp only
 split
 ·rename_i hn
  by_cases e:(m.getD (4*c+s).toNat 0/4).toNat=i
  ·subst e;omega
  ·simp only;rw [ns e]
 ·rfl
theorem Ss {m:List Int} {c p:Int} {st:List Int×List Int} {i:Nat} (h:0<=st.1.getD i 0): ∀s,(lb4 m c p st s).1.getD i 0=st.1.getD i 0
 |0=>rfl
 |s+1=>by
  have:=Ss (m:=m) (c:=c) (p:=p) h s
  simp only [lb4];rw [y31 (by omega),this]
theorem LS {m:List Int} {p:Int} {i:Nat}: ∀(f:Nat) (part q:List Int),0<=part.getD i 0->(bfs m p f part q).getD i 0=part.getD i 0
 |_,part,[],h=>by unfold bfs;rfl
 |0,part,_::_,h=>by simp [bfs]
 |f+1,part,c::q,h=>by
  simp only [bfs]
  have:=Ss (m:=m) (c:=c) (p:=p) (st:=(part,q)) h 4
  rw [LS f _ _ (by rw [this];exact h),this]
theorem Eh {m:List Int} {n:Nat} (hm:pf m n): ∀k,k<=n-> ∀i,i<n->(bS m n k).1.getD i 0<(bS m n k).2/\(i<k->0<=(bS m n k).1.getD i 0)
 |0,_,i,hi=>by simp [bS,hi]
 |k+1,hk,i,hi=>by
  obtain ⟨h1,h2⟩:=Eh hm k (by omega) i hi;obtain ⟨g1,g2,g3⟩:=Ei hm k (by omega);simp only [bS,Dz]
  split
  ·rename_i h0
   refine ⟨h1,fun hik=>?_⟩;rcases Nat.lt_or_ge i k with g|g
   ·exact h2 g
   ·rwa [show i=k by omega]
  ·rename_i h0
   have cT:k<(bS m n k).1.length:=by rw [g1.1];omega
   have hset:vD n (bS m n k).2 ((bS m n k).1.set k (bS m n k).2):=⟨by simp [g1.1],fun i hi=>by
    by_cases e:k=i
    ·subst e;rw [nr cT];omega
    ·rw [ns e];exact g1.2 i hi⟩
   have hb:=K4 hm g2 (2*n+1) _ [(k:Int)] hset (fun x hx=>by simp at hx;omega);have hbi:=hb.2 i hi;refine ⟨by simp only;omega,fun hik=>?_⟩;have DI:0<=((bS m n k).1.set k (bS m n k).2).getD i 0:=by
    by_cases e:k=i
    ·subst e;rw [nr cT];exact g2
    ·rw [ns e];exact h2 (by omega)
   simp only;rw [LS _ _ _ DI];exact DI
theorem Ml {m:List Int} {n:Nat} (hm:pf m n):(ja m n).1.length=n/\0<=(ja m n).2/\(ja m n).2<=n/\ ∀i,i<n->0<=(ja m n).1.getD i 0/\(ja m n).1.getD i 0<(ja m n).2:=by
 obtain ⟨g1,g2,g3⟩:=Ei hm n (Nat.le_refl _);exact ⟨g1.1,g2,g3,fun i hi=>⟨(Eh hm n (Nat.le_refl _) i hi).2 hi,(Eh hm n (Nat.le_refl _) i hi).1⟩⟩
def j6 (part:List Int) (np:Nat):Nat->List Int
 |0=>List.replicate np 0
 |k+1=>let e:=j6 part np k;let p:=(part.getD k 0).toNat;e.set p (e.getD p 0-1)
theorem IC (part:List Int) (np:Nat): ∀k,(j6 part np k).length=np/\ ∀i,-(k:Int)<=(j6 part np k).getD i 0/\(j6 part np k).getD i 0<=0
 |0=>⟨by simp [j6],fun i=>by
   by_cases h:i<np
   ·simp [j6,h]
   ·simp [j6,h]⟩
 |k+1=>by
  obtain ⟨h1,h2⟩:=IC part np k;refine ⟨by simp [j6,h1],fun i=>?_⟩;simp only [j6];by_cases e:(part.getD k 0).toNat=i
  ·by_cases hl:i<(j6 part np k).length
   ·subst e;rw [nr hl];have:=h2 (part.getD k 0).toNat;omega
   ·have:=h2 i;rw [List.set_eq_of_length_le (by omega)];omega
  ·rw [ns e];have:=h2 i;omega
def mark (m:List Int):Nat->List Bool->Int->List Bool
 |0,s,_=>s
 |f+1,s,g=>if s.getD g.toNat false then s else mark m f (s.set g.toNat true) (cd (m.getD g.toNat 0) (-1))
def wa (m part:List Int) (h:Nat) (st:List Int×List Bool):List Int×List Bool:=
 if st.2.getD h false then st else
  let p:=(part.getD (h/4) 0).toNat
  (st.1.set p (st.1.getD p 0+1),mark m (m.length+1) st.2 h)
def bR (m part:List Int) (np:Nat):Nat->List Int×List Bool
 |0=>(j6 part np part.length,List.replicate m.length false)
 |h+1=>wa m part h (bR m part np h)
def qg (m:List Int) (n:Nat):Bool:=(bR m (ja m n).1 (ja m n).2.toNat m.length).1.all (· ==2)
def uD (s:List Bool):Nat:=s.countP fun x=> !x
theorem Q4 {l:List Bool} {i:Nat} (hi:i<l.length) (hl:l.getD i false=false):uD (l.set i true)+1=uD l:=by
 unfold uD
 induction l generalizing i with
 |nil=>simp at hi
 |cons x l ih=>
  cases i with
  |zero=>
   simp at hl;simp [hl]
  |succ i=>
   simp only [List.set_cons_succ,List.countP_cons]
   have:=ih (i:=i) (by simpa using hi) (by simpa using hl)
   omega
theorem Zn (l:List Bool):uD l<=l.length:=List.countP_le_length
theorem Sa (m:List Int): ∀(f:Nat) (s:List Bool) (g:Int),(mark m f s g).length=s.length
 |0,_,_=>rfl
 |f+1,s,g=>by
  simp only [mark]
  split
  ·rfl
  ·rw [Sa m f];simp
theorem Dh (m part:List Int) (np:Nat): ∀h,(bR m part np h).1.length=np/\(bR m part np h).2.length=m.length/\ ∀i,-(part.length:Int)<=(bR m part np h).1.getD i 0/\(bR m part np h).1.getD i 0<=h
 |0=>by
  obtain ⟨h1,h2⟩:=IC part np part.length;exact ⟨h1,by simp [bR],fun i=>by have:=h2 i;simp only [bR];omega⟩
 |h+1=>by
  obtain ⟨h1,h2,h3⟩:=Dh m part np h;simp only [bR,wa]
  split
  ·exact ⟨h1,h2,fun i=>by have:=h3 i;omega⟩
  ·refine ⟨by simp [h1],by simp only;rw [Sa];exact h2,fun i=>?_⟩;simp only;by_cases e:(part.getD (h/4) 0).toNat=i
   ·by_cases hl:i<(bR m part np h).1.length
    ·subst e;rw [nr hl];have:=h3 (part.getD (h/4) 0).toNat;omega
    ·have:=h3 i;rw [List.set_eq_of_length_le (by omega)];omega
   ·rw [ns e];have:=h3 i;omega
def ak (s:List Int) (h:Int):Bool:=if h % 4=1 then s.getD (h/4).toNat 0==1 else if h % 4=2 then true else if h % 4=3 then s.getD (h/4).toNat 0== -1 else false
def sL (s:List Int) (k:Nat):Prop:= ∀i,i<k->s.getD i 0=1\/s.getD i 0= -1
def yd (s m:List Int) (k:Nat):Prop:= ∀h:Nat,h<k->0<=m.getD h 0/\m.getD h 0<4*s.length/\m.getD h 0≠h/\m.getD (m.getD h 0).toNat 0=h/\ak s h≠ak s (m.getD h 0)
instance (s:List Int) (k:Nat):Decidable (sL s k):=inferInstanceAs (Decidable (∀i,i<k->s.getD i 0=1\/s.getD i 0= -1))
instance (s m:List Int) (k:Nat):Decidable (yd s m k):=inferInstanceAs (Decidable (∀h:Nat,h<k->0<=m.getD h 0/\m.getD h 0<4*s.length/\m.getD h 0≠h/\m.getD (m.getD h 0).toNat 0=h/\ak s h≠ak s (m.getD h 0)))
def sK (s m:List Int) (L:Int):Bool:=decide (s.length<=64/\m.length=4*s.length/\0<=L/\L<=64/\sL s s.length/\yd s m (4*s.length))
def bI (s m:List Int) (L:Int):Bool:=sK s m L&&qg m s.length
theorem tQ {s m:List Int} {L:Int} (h: ¬(s.length<=64/\m.length=4*s.length/\0<=L/\L<=64/\sL s s.length/\yd s m (4*s.length))):false=bI s m L:=by
 unfold bI sK;rw [decide_eq_false h];rfl
theorem vbT {s m:List Int} {L:Int} (h:s.length<=64/\m.length=4*s.length/\0<=L/\L<=64/\sL s s.length/\yd s m (4*s.length)):qg m s.length=bI s m L:=by
 unfold bI sK;rw [decide_eq_true h];rfl
theorem Yk {s m:List Int} {L:Int}:bI s m L=true↔(s.length<=64/\m.length=4*s.length/\0<=L/\L<=64/\sL s s.length/\yd s m (4*s.length))/\qg m s.length=true:=by
 unfold bI sK;rw [Bool.and_eq_true,decide_eq_true_iff]
theorem Mw {s:List Int} {k:Nat} (h:sL s k) (hx:s.getD k 0=1\/s.getD k 0= -1):sL s (k+1):=fun i hi=>by
 rcases Nat.lt_or_ge i k with g|g
 ·exact h i g
 ·rw [show i=k by omega];exact hx
theorem TX {s m:List Int} {k:Nat} (h:yd s m k) (hx:0<=m.getD k 0/\m.getD k 0<4*s.length/\m.getD k 0≠k/\m.getD (m.getD k 0).toNat 0=k/\ak s k≠ak s (m.getD k 0)):yd s m (k+1):=fun i hi=>by
 rcases Nat.lt_or_ge i k with g|g
 ·exact h i g
 ·rw [show i=k by omega];exact hx
theorem Nf {b:Bool} (h:b=false): ¬b=true:=by simp [h]
theorem Yj {l:List Int} {k:Nat} (hk:k<l.length) (h: ¬l.getD k 0=2):l.all (· ==2)=false:=by
 cases ha:l.all (· ==2) with
 |false=>rfl
 |true=>
  have:=List.all_eq_true.1 ha _ (List.getElem_mem hk)
  simp only [beq_iff_eq] at this;simp [hk,this] at h
theorem Xt {l:List Int} (h: ∀i,i<l.length->l.getD i 0=2):l.all (· ==2)=true:=by
 rw [List.all_eq_true];intro x hx;obtain ⟨i,hi,rfl⟩:=List.mem_iff_getElem.1 hx
 have:=h i hi
 simpa [hi] using this
def it (nx:Int->Int):Nat->Int->Int
 |0,x=>x
 |j+1,x=>nx (it nx j x)
def its (nx:Int->Int) (x:Int) (k:Nat):List Int:=(List.range k).map fun j=>it nx j x
theorem R9 (nx:Int->Int) (x:Int) (k:Nat):its nx x (k+1)=its nx x k++[it nx k x]:=by simp [its,List.range_succ]
theorem Lr (nx:Int->Int) (x:Int) (k:Nat):(its nx x k).length=k:=by simp [its]
structure uv (nx:Int->Int) (x:Int) (k:Nat):Prop where
 pos:0<k
 back:it nx k x=x
 first: ∀j,0<j->j<k->it nx j x≠x
def nP (seen:List Bool):List Int->List Bool
 |[]=>seen
 |g::r=>nP (seen.set g.toNat true) r
theorem EE (l:List Int): ∀seen,(nP seen l).length=seen.length:=by
 induction l with
 |nil=>intro s;rfl
 |cons g r ih=>intro s;simp [nP,ih]
theorem Mr (a:List Int): ∀(seen:List Bool) (b:List Int),nP seen (a++b)=nP (nP seen a) b:=by
 induction a with
 |nil=>intro s b;rfl
 |cons g r ih=>intro s b;simp [nP,ih]
theorem Dr (l:List Int): ∀(seen:List Bool) (i:Nat),(∀g∈l,0<=g/\g.toNat<seen.length)->(nP seen l).getD i false=(seen.getD i false||decide ((i:Int)∈l)):=by
 induction l with
 |nil=>intro s i _;simp [nP]
 |cons g r ih=>
  intro s i h;have hg:=h g (by simp);rw [nP,ih _ _ (fun x hx=>by simpa using h x (by simp [hx]))];by_cases e:g.toNat=i
  ·subst e;rw [nr hg.2]
   have:((g.toNat:Nat):Int)=g:=by omega
   simp [this]
  ·rw [ns e]
   have:(i:Int)≠g:=by omega
   simp [this]
def jg (want:Int->Bool) (orb:Int->List Int) (h:Nat) (st:List (List Int)×List Bool):List (List Int)×List Bool:=
 if st.2.getD h false|| !want h then st else (st.1++[orb h],nP st.2 (orb h))
def aL (N:Nat) (want:Int->Bool) (orb:Int->List Int):Nat->List (List Int)×List Bool
 |0=>([],List.replicate N false)
 |h+1=>jg want orb h (aL N want orb h)
theorem I5 (N:Nat) (want:Int->Bool) (orb:Int->List Int): ∀h,(aL N want orb h).2.length=N/\(aL N want orb h).1.length<=h
 |0=>by simp [aL]
 |h+1=>by
  obtain ⟨h1,h2⟩:=I5 N want orb h;simp only [aL,jg]
  split
  ·exact ⟨h1,by omega⟩
  ·exact ⟨by simp only;rw [EE];exact h1,by simp;omega⟩
theorem K1: ∀(N:Nat) (f:Nat->Nat),(∀i,i<=N->f i<N)-> ∃i j,i<j/\j<=N/\f i=f j
 |0,f,h=>absurd (h 0 (Nat.le_refl _)) (by omega)
 |N+1,f,h=>by
  by_cases hx: ∃i,i<=N/\f i=f (N+1)
  ·obtain ⟨i,hi,e⟩:=hx;exact ⟨i,N+1,by omega,by omega,e⟩
  ·have ax: ∀i,i<=N->f i≠f (N+1):=fun i hi e=>hx ⟨i,hi,e⟩;have hg: ∀i,i<=N->(if f i=N then f (N+1) else f i)<N:=by
    intro i hi;have h1:=h i (by omega);have h2:=h (N+1) (by omega);have h3:=ax i hi
    split<;>omega
   obtain ⟨i,j,ke,hj,e⟩:=K1 N (fun i=>if f i=N then f (N+1) else f i) hg;refine ⟨i,j,ke,by omega,?_⟩;have h1:=ax i (by omega);have h2:=ax j hj
   split at e<;>split at e<;>omega
theorem Ia {p:Nat->Prop}: ∀n,p n-> ∃k,k<=n/\p k/\ ∀m,m<k-> ¬p m:=by
 intro n
 induction n using Nat.strongRecOn with
 |_ n ih=>
  intro hn;by_cases hx: ∃m,m<n/\p m
  ·obtain ⟨m,hm,hp⟩:=hx;obtain ⟨k,h1,h2,h3⟩:=ih m hm hp;exact ⟨k,by omega,h2,h3⟩
  ·exact ⟨n,Nat.le_refl _,hn,fun m hm hp=>hx ⟨m,hm,hp⟩⟩
theorem A5 (nx:Int->Int) (i j:Nat) (x:Int):it nx (i+j) x=it nx i (it nx j x):=by
 induction i with
 |zero=>simp [it]
 |succ i ih=>rw [Nat.add_right_comm];simp [it,ih]
structure Perm (nx:Int->Int) (N:Nat) (S:Int->Prop):Prop where
 iV: ∀x,S x->0<=x/\x<N
 closed: ∀x,S x->S (nx x)
 inj: ∀x y,S x->S y->nx x=nx y->x=y
section
variable {nx:Int->Int} {N:Nat} {S:Int->Prop}
theorem Perm.it (h:Perm nx N S) {x:Int} (hx:S x): ∀j,S (it nx j x)
 |0=>hx
 |j+1=>h.closed _ (h.it hx j)
theorem Perm.cancel (h:Perm nx N S) {x:Int} (hx:S x): ∀i d,Proofs.YtjpbeacamoijhaaGreatDoor.it nx (i+d) x=Proofs.YtjpbeacamoijhaaGreatDoor.it nx i x->Proofs.YtjpbeacamoijhaaGreatDoor.it nx d x=x
 |0,d,e=>by simpa [Proofs.YtjpbeacamoijhaaGreatDoor.it] using e
 |i+1,d,e=>by
  rw [Nat.add_right_comm] at e;exact h.cancel hx i d (h.inj _ _ (h.it hx _) (h.it hx _) e)
theorem Perm.JC (h:Perm nx N S) {x:Int} (hx:S x): ∃k,k<=N/\uv nx x k:=by
 obtain ⟨i,j,ke,hj,e⟩:=K1 N (fun j=>(Proofs.YtjpbeacamoijhaaGreatDoor.it nx j x).toNat) (fun i _=>by have:=h.iV _ (h.it hx i);omega);have r1:=h.iV _ (h.it hx i);have r2:=h.iV _ (h.it hx j);have e':Proofs.YtjpbeacamoijhaaGreatDoor.it nx (i+(j-i)) x=Proofs.YtjpbeacamoijhaaGreatDoor.it nx i x:=by rw [show i+(j-i)=j by omega];omega
 have hd:=h.cancel hx i (j-i) e';obtain ⟨k,h1,⟨h2,h3⟩,h4⟩:=Ia (p:=fun d=>0<d/\Proofs.YtjpbeacamoijhaaGreatDoor.it nx d x=x) (j-i) ⟨by omega,hd⟩;exact ⟨k,by omega,h2,h3,fun m hm ay e=>h4 m ay ⟨hm,e⟩⟩
theorem PO {x:Int} {k:Nat} (h:uv nx x k): ∀j,it nx j x=it nx (j % k) x:=by
 intro j
 induction j using Nat.strongRecOn with
 |_ j ih=>
  rcases Nat.lt_or_ge j k with g|g
  ·rw [Nat.mod_eq_of_lt g]
  ·have h0:=h.pos
   have:it nx j x=it nx (j-k) x:=by
    conv=>lhs;rw [show j=(j-k)+k by omega]
    rw [A5,h.back]
   rw [this,ih (j-k) (by omega),←Nat.mod_eq_sub_mod g]
theorem Ev {x y:Int} {k:Nat}:y∈its nx x k↔ ∃j,j<k/\it nx j x=y:=by simp [its]
theorem TJ {x y:Int} {k:Nat} (h:uv nx x k):y∈its nx x k↔ ∃j,it nx j x=y:=by
 rw [Ev];constructor
 ·rintro ⟨j,_,e⟩;exact ⟨j,e⟩
 ·rintro ⟨j,e⟩;exact ⟨j % k,Nat.mod_lt _ h.pos,by rw [←PO h,e]⟩
theorem Yi {x y:Int} {k:Nat} (h:uv nx x k) (hy: ∃j,it nx j x=y): ∃j,it nx j y=x:=by
 obtain ⟨j,e⟩:=hy;have h0:=h.pos;refine ⟨k-j % k,?_⟩;have ay:=Nat.mod_lt j h0;rw [←e,PO h j,←A5,show k-j % k+j % k=k by omega,h.back]
theorem Ys {x y z:Int} (h1: ∃j,it nx j x=y) (h2: ∃j,it nx j y=z): ∃j,it nx j x=z:=by
 obtain ⟨i,rfl⟩:=h1;obtain ⟨j,rfl⟩:=h2;exact ⟨j+i,A5 nx j i x⟩
theorem Xs (h:Perm nx N S) {x:Int} {k:Nat} (hx:S x) (hp:uv nx x k):(its nx x k).Nodup:=by
 unfold its;rw [List.nodup_iff_pairwise_ne,List.pairwise_map];refine List.Pairwise.imp_of_mem ?_ (List.pairwise_lt_range);intro a b ha hb ay e;have hb:=List.mem_range.1 hb
 have:=h.cancel hx a (b-a) (by rw [show a+(b-a)=b by omega];exact e.symm)
 exact hp.first (b-a) (by omega) (by omega) this
end
def me (x:Int) (l:List Int):Bool:=l.all fun y=>decide (x<=y)
theorem yT {x:Int} {l:List Int}:me x l=true↔ ∀y∈l,x<=y:=by simp [me]
theorem Lq {N:Nat} {want:Int->Bool} {orb:Int->List Int} (hr: ∀x:Nat,x<N->want x=true-> ∀y∈orb x,0<=y/\y<N) (hx: ∀x:Nat,x<N->want x=true->(x:Int)∈orb x)
  (hs: ∀x y:Nat,x<N->y<N->want x=true->(y:Int)∈orb x->want y=true/\(x:Int)∈orb y)
  (ht: ∀x y z:Nat,x<N->y<N->z<N->want x=true->(y:Int)∈orb x->(z:Int)∈orb y->(z:Int)∈orb x): ∀h,h<=N->
  (aL N want orb h).1=((List.range h).filter fun i:Nat=>want i&&me i (orb i)).map (fun i:Nat=>orb i)/\
  ∀g,g<N->((aL N want orb h).2.getD g false=true↔ ∃x:Nat,x<h/\want x=true/\(g:Int)∈orb x)
 |0,_=>⟨by simp [aL],fun g hg=>by simp [aL,hg]⟩
 |h+1,hh=>by
  obtain ⟨h1,h2⟩:=Lq hr hx hs ht h (by omega);obtain ⟨hl,_⟩:=I5 N want orb h;have h3:=h2 h (by omega);simp only [aL,jg];by_cases hc:(aL N want orb h).2.getD h false=true\/want h=false
  ·rw [if_pos (by rcases hc with hc|hc<;>rw [hc]<;>simp)];have hf:(want h&&me h (orb h))=false:=by
    rcases hc with hc|hc
    ·obtain ⟨x,VQ,hwx,hm⟩:=h3.1 hc;cases hw:want h with
     |false=>simp
     |true=>
      have FP:=(hs x h (by omega) (by omega) hwx hm).2;cases Gl:me h (orb h) with
      |false=>simp
      |true=>have:=yT.1 Gl _ FP;omega
    ·simp [hc]
   refine ⟨by rw [h1,List.range_succ,List.filter_append];simp [hf],fun g hg=>?_⟩;rw [h2 g hg];constructor
   ·rintro ⟨x,h4,h5⟩;exact ⟨x,by omega,h5⟩
   ·rintro ⟨x,h4,h5,h6⟩;rcases Nat.lt_or_ge x h with q|q
    ·exact ⟨x,q,h5,h6⟩
    ·obtain rfl:x=h:=by omega
     rcases hc with hc|hc
     ·obtain ⟨z,hz,VS,hm⟩:=h3.1 hc;exact ⟨z,hz,VS,ht z x g (by omega) (by omega) hg VS hm h6⟩
     ·simp [hc] at h5
  ·have hw:want h=true:=by cases hw:want h<;>simp_all
   have hn: ¬(aL N want orb h).2.getD h false=true:=fun e=>hc (.inl e);have Gl:me h (orb h)=true:=yT.2 fun y hy=>by
    have hry:=hr h (by omega) hw y hy;obtain ⟨n,rfl⟩: ∃n:Nat,y=n:=⟨y.toNat,by omega⟩;rcases Nat.lt_or_ge n h with q|q
    ·have:=hs h n (by omega) (by omega) hw hy
     exact absurd (h3.2 ⟨n,q,this.1,this.2⟩) hn
    ·omega
   rw [if_neg (by simp only [Bool.not_eq_true] at hn;rw [hn,hw];simp)];refine ⟨by simp only [h1];rw [List.range_succ,List.filter_append];simp [hw,Gl],fun g hg=>?_⟩;simp only;rw [Dr _ _ _ (fun y hy=>by have:=hr h (by omega) hw y hy;exact ⟨this.1,by omega⟩),Bool.or_eq_true,h2 g hg,decide_eq_true_iff];constructor
   ·rintro (⟨x,h4,h5⟩|h4)
    ·exact ⟨x,by omega,h5⟩
    ·exact ⟨h,by omega,hw,h4⟩
   ·rintro ⟨x,h4,h5,h6⟩;rcases Nat.lt_or_ge x h with q|q
    ·exact .inl ⟨x,q,h5,h6⟩
    ·obtain rfl:x=h:=by omega
     exact .inr h6
def nb (m:List Int) (a s:Nat):Nat:=(m.getD (4*a+s) 0/4).toNat
inductive bJ (m:List Int):Nat->Nat->Prop
 |refl (a:Nat):bJ m a a
 |step {a b:Nat} (s:Nat) (hs:s<4) (h:bJ m a b):bJ m a (nb m b s)
structure gR (m:List Int) (n:Nat):Prop where
 ok:pf m n
 inv: ∀h:Nat,h<4*n->m.getD (m.getD h 0).toNat 0=h
section
variable {m:List Int} {n:Nat}
theorem bJ.trans {a b c:Nat} (h1:bJ m a b) (h2:bJ m b c):bJ m a c:=by
 induction h2 with
 |refl=>exact h1
 |step s hs _ ih=>exact .step s hs ih
theorem gR.mT (hp:gR m n) {a s:Nat} (ha:a<n) (hs:s<4):nb m a s<n:=by
 have:=hp.ok.2 (4*a+s) (by omega);unfold nb;omega
theorem gR.back (hp:gR m n) {a s:Nat} (ha:a<n) (hs:s<4): ∃t,t<4/\nb m (nb m a s) t=a:=by
 have h1:=hp.ok.2 (4*a+s) (by omega);have h2:=hp.inv (4*a+s) (by omega);refine ⟨(m.getD (4*a+s) 0 % 4).toNat,by omega,?_⟩;unfold nb;rw [show 4*(m.getD (4*a+s) 0/4).toNat+(m.getD (4*a+s) 0 % 4).toNat=(m.getD (4*a+s) 0).toNat by omega,h2];omega
theorem bJ.lt (hp:gR m n) {a b:Nat} (h:bJ m a b) (ha:a<n):b<n:=by
 induction h with
 |refl=>exact ha
 |step s hs _ ih=>exact hp.mT ih hs
theorem bJ.symm (hp:gR m n) {a b:Nat} (h:bJ m a b) (ha:a<n):bJ m b a:=by
 induction h with
 |refl=>exact .refl _
 | @step b s hs h ih=>
   obtain ⟨t,ht,e⟩:=hp.back (h.lt hp ha) hs;have h1:=bJ.step t ht (bJ.refl (m:=m) (nb m b s));rw [e] at h1;exact h1.trans ih
theorem bJ.closed (hp:gR m n) {S:Nat->Prop} (hc: ∀a s,a<n->s<4->S a->S (nb m a s)) {a b:Nat} (h:bJ m a b) (ha:a<n) (hS:S a):S b:=by
 induction h with
 |refl=>exact hS
 |step s hs h ih=>exact hc _ s (h.lt hp ha) hs ih
structure BJ (m:List Int) (n:Nat) (p:Int) (c:Nat) (part q:List Int) (at':Nat) (s:Nat):Prop where
 pok:vD n p part
 qok:An n q
 old: ∀a,a<n->0<=part.getD a 0->part.getD a 0≠p-> ∀s,s<4->part.getD (nb m a s) 0=part.getD a 0
 cur: ∀a,a<n->part.getD a 0=p->(a:Int)∉q->a≠at'-> ∀s,s<4->part.getD (nb m a s) 0=p
 con: ∀a,a<n->part.getD a 0=p->bJ m c a
 que: ∀x∈q,part.getD x.toNat 0=p
 hd:at'<n->part.getD at' 0=p/\ ∀s',s'<s->part.getD (nb m at' s') 0=p
theorem BJ.one (hp:gR m n) {p:Int} (h0:0<=p) {c a s:Nat} {st:List Int×List Int} (h:BJ m n p c st.1 st.2 a s) (ha:a<n) (hs:s<4):BJ m n p c (po m a p s st).1 (po m a p s st).2 a (s+1):=by
 have ay:=hp.mT ha hs;have iw:=PQ hp.ok (c:=(a:Int)) (p:=p) ⟨by omega,by omega⟩ h0 hs h.pok h.qok;obtain ⟨DP,Cf⟩:=h.hd ha;have e0:m.getD (4*(a:Int)+s).toNat 0/4=(nb m a s:Int):=by
  have:=hp.ok.2 (4*a+s) (by omega)
  unfold nb;rw [show (4*(a:Int)+s).toNat=4*a+s by omega];omega
 have nU:=h.pok.1;by_cases hn:st.1.getD (nb m a s) 0<0
 ·have e:po m a p s st=(st.1.set (nb m a s) p,st.2++[(nb m a s:Int)]):=by
   unfold po;simp only;rw [e0];simp only [Int.toNat_natCast];rw [if_pos hn]
  rw [e] at iw⊢;have hg: ∀b,(st.1.set (nb m a s) p).getD b 0=if b=nb m a s then p else st.1.getD b 0:=by
   intro b;by_cases eb:nb m a s=b
   ·subst eb;rw [if_pos rfl,nr (by omega)]
   ·rw [ns eb,if_neg (Ne.symm eb)]
  refine ⟨iw.1,iw.2.1,?_,?_,?_,?_,?_⟩
  ·intro b hb h1 h2 t ht;simp only [hg] at h1 h2⊢;by_cases eb:b=nb m a s
   ·rw [if_pos eb] at h2;omega
   ·rw [if_neg eb] at h1 h2⊢;have h3:=h.old b hb h1 h2 t ht;rw [if_neg ?_,h3];intro e';rw [e'] at h3;omega
  ·intro b hb h1 h2 h3 t ht;simp only [hg] at h1⊢;have eb:b≠nb m a s:=fun e'=>h2 (by simp [e']);rw [if_neg eb] at h1
   have:=h.cur b hb h1 (fun hm=>h2 (by simp [hm])) h3 t ht
   split
   ·rfl
   ·exact this
  ·intro b hb h1;simp only [hg] at h1;by_cases eb:b=nb m a s
   ·subst eb;exact .step s hs (h.con a ha DP)
   ·rw [if_neg eb] at h1;exact h.con b hb h1
  ·intro x hx;rcases List.mem_append.1 hx with hx|hx
   ·have:=h.que x hx
    simp only [hg];split
    ·rfl
    ·exact this
   ·rw [List.mem_singleton.1 hx];simp only [hg,Int.toNat_natCast,if_pos]
  ·intro _;simp only [hg];refine ⟨?_,fun s' aX=>?_⟩
   ·split
    ·rfl
    ·exact DP
   ·rcases Nat.lt_or_ge s' s with g|g
    ·split
     ·rfl
     ·exact Cf s' g
    ·rw [show s'=s by omega,if_pos rfl]
 ·have e:po m a p s st=st:=by
   unfold po;simp only;rw [e0];simp only [Int.toNat_natCast];rw [if_neg hn]
  rw [e];refine ⟨h.pok,h.qok,h.old,h.cur,h.con,h.que,fun _=>⟨DP,fun s' aX=>?_⟩⟩;rcases Nat.lt_or_ge s' s with g|g
  ·exact Cf s' g
  ·obtain rfl:s'=s:=by omega
   by_cases ep:st.1.getD (nb m a s') 0=p
   ·exact ep
   ·obtain ⟨t,ht,eb⟩:=hp.back ha hs
    have:=h.old (nb m a s') ay (by omega) ep t ht
    rw [eb] at this;omega
theorem BJ.four (hp:gR m n) {p:Int} (h0:0<=p) {c a:Nat} {st:List Int×List Int} (h:BJ m n p c st.1 st.2 a 0) (ha:a<n): ∀s,s<=4->BJ m n p c (lb4 m a p st s).1 (lb4 m a p st s).2 a s
 |0,_=>h
 |s+1,hs=>(BJ.four hp h0 h ha s (by omega)).one hp h0 ha (by omega)
theorem PN (hp:gR m n) {p:Int} (h0:0<=p) {c:Nat}: ∀(f:Nat) (part q:List Int),BJ m n p c part q n 0->2*pk part+q.length<=f->BJ m n p c (bfs m p f part q) [] n 0
 |f,part,[],h,_=>by unfold bfs;exact h
 |0,part,_::_,_,hf=>by simp at hf
 |f+1,part,x::q,h,hf=>by
  obtain ⟨oh,Ny⟩:=h.qok x (by simp);have VO:=h.que x (by simp);obtain ⟨a,rfl⟩: ∃a:Nat,x=a:=⟨x.toNat,by omega⟩;have ha:a<n:=by omega
  simp only [Int.toNat_natCast] at VO;have h1:BJ m n p c (part,q).1 (part,q).2 a 0:=⟨h.pok,fun y hy=>h.qok y (by simp [hy]),h.old,fun b hb OK OJ ax s hs=>h.cur b hb OK (by simp only [List.mem_cons,not_or];exact ⟨by omega,OJ⟩) (by omega) s hs,h.con,fun y hy=>h.que y (by simp [hy]),fun _=>⟨VO,fun s' aX=>by omega⟩⟩;have h2:=BJ.four hp h0 h1 ha 4 (Nat.le_refl _)
  obtain ⟨_,_,h3,_⟩:=Ib hp.ok (c:=(a:Int)) (p:=p) ⟨by omega,by omega⟩ h0 (st:=(part,q)) h1.pok h1.qok 4 (Nat.le_refl _);simp only [bfs];simp only [List.length_cons] at hf;simp only at h3;refine PN hp h0 f _ _ ⟨h2.pok,h2.qok,h2.old,fun b hb OK OJ _ s hs=>?_,h2.con,h2.que,fun hh=>by omega⟩ (by omega);by_cases e:b=a
  ·subst e;exact (h2.hd ha).2 s hs
  ·exact h2.cur b hb OK OJ e s hs
theorem Zm (m:List Int) (c p:Int) (s:Nat) (st:List Int×List Int) (i:Nat):(po m c p s st).1.getD i 0=st.1.getD i 0\/(po m c p s st).1.getD i 0=p:=by
 unfold po;simp only
 split
 ·by_cases e:(m.getD (4*c+s).toNat 0/4).toNat=i
  ·subst e;by_cases hl:(m.getD (4*c+s).toNat 0/4).toNat<st.1.length
   ·right;simp only;rw [nr hl]
   ·left;simp only;rw [List.set_eq_of_length_le (by omega)]
  ·left;simp only;rw [ns e]
 ·exact .inl rfl
theorem PM (m:List Int) (c p:Int) (st:List Int×List Int) (i:Nat): ∀s,(lb4 m c p st s).1.getD i 0=st.1.getD i 0\/(lb4 m c p st s).1.getD i 0=p
 |0=> .inl rfl
 |s+1=>by
  rcases Zm m c p s (lb4 m c p st s) i with h|h
  ·rcases PM m c p st i s with g|g
   ·exact .inl (by simp only [lb4];rw [h,g])
   ·exact .inr (by simp only [lb4];rw [h,g])
  ·exact .inr h
theorem PL (m:List Int) (p:Int) (i:Nat): ∀(f:Nat) (part q:List Int),(bfs m p f part q).getD i 0=part.getD i 0\/(bfs m p f part q).getD i 0=p
 |_,part,[]=>by unfold bfs;exact .inl rfl
 |0,part,_::_=>by simp [bfs]
 |f+1,part,c::q=>by
  simp only [bfs];rcases PL m p i f (lb4 m c p (part,q) 4).1 (lb4 m c p (part,q) 4).2 with h|h
  ·rcases PM m c p (part,q) i 4 with g|g
   ·exact .inl (h.trans g)
   ·exact .inr (h.trans g)
  ·exact .inr h
structure LI (m:List Int) (n:Nat) (st:List Int×Int):Prop where
 clo: ∀a,a<n->0<=st.1.getD a 0-> ∀s,s<4->st.1.getD (nb m a s) 0=st.1.getD a 0
 con: ∀a b,a<n->b<n->0<=st.1.getD a 0->st.1.getD a 0=st.1.getD b 0->bJ m a b
 att: ∀p:Nat,(p:Int)<st.2-> ∃a,a<n/\st.1.getD a 0=p
theorem K0 (hp:gR m n): ∀k,k<=n->LI m n (bS m n k)
 |0,_=>⟨fun a ha h=>by simp [bS,ha] at h,fun a b ha _ h=>by simp [bS,ha] at h,fun p h=>by simp [bS] at h;omega⟩
 |k+1,hk=>by
  have ih:=K0 hp k (by omega);obtain ⟨g1,g2,g3⟩:=Ei hp.ok k (by omega);have WW:=fun i hi=>(Eh hp.ok k (by omega) i hi).1;simp only [bS,Dz]
  split
  ·exact ih
  ·rename_i sW
   have sW:(bS m n k).1.getD k 0<0:=by omega
   generalize bS m n k=st at*;obtain ⟨part,p⟩:=st;simp only at*;have mD:=g1.1;have hset: ∀b,(part.set k p).getD b 0=if b=k then p else part.getD b 0:=by
    intro b;by_cases eb:k=b
    ·subst eb;rw [if_pos rfl,nr (by omega)]
    ·rw [ns eb,if_neg (Ne.symm eb)]
   have nH:BJ m n p k (part.set k p) [(k:Int)] n 0:=by
    refine ⟨⟨by simp [mD],fun i hi=>by rw [hset];have:=g1.2 i hi;split<;>omega⟩,fun x hx=>by simp at hx;omega,?_,?_,?_,fun x hx=>by simp at hx;subst hx;simp only [Int.toNat_natCast];rw [hset,if_pos rfl],fun hh=>by omega⟩
    ·intro a ha h1 h2 s hs;simp only [hset] at h1 h2⊢;by_cases e:a=k
     ·rw [if_pos e] at h2;omega
     ·rw [if_neg e] at h1 h2⊢
      have:part.getD (nb m a s) 0=part.getD a 0:=ih.clo a ha h1 s hs
      rw [if_neg ?_,this];intro e';rw [e'] at this;omega
    ·intro a ha h1 h2 _ s hs;simp only [hset] at h1;by_cases e:a=k
     ·subst e;simp at h2
     ·rw [if_neg e] at h1;have:=WW a ha;omega
    ·intro a ha h1;simp only [hset] at h1;by_cases e:a=k
     ·subst e;exact .refl _
     ·rw [if_neg e] at h1;have:=WW a ha;omega
   have kd:=LU (i:=k) (p:=p) (by omega) sW g2;have jB:=Q5 part;have hb:=PN hp g2 (2*n+1) _ _ nH (by simp only [List.length_singleton];omega);have AJ:=fun i=>LS (m:=m) (p:=p) (i:=i) (2*n+1) (part.set k p) [(k:Int)];have jC:(bfs m p (2*n+1) (part.set k p) [(k:Int)]).getD k 0=p:=by
    rw [AJ k (by rw [hset,if_pos rfl];exact g2),hset,if_pos rfl]
   have sy:=fun i=>PL m p i (2*n+1) (part.set k p) [(k:Int)];generalize bfs m p (2*n+1) (part.set k p) [(k:Int)]=res at*;have hold: ∀a,a<n->0<=part.getD a 0->res.getD a 0=part.getD a 0:=by
    intro a ha h1;have e:a≠k:=fun e=>by subst e;omega
    have h2:=AJ a;rw [hset,if_neg e] at h2;exact h2 h1
   have hnew: ∀a,a<n->0<=res.getD a 0->res.getD a 0≠p->0<=part.getD a 0:=by
    intro a ha h1 h2;have h3:=sy a;rw [hset] at h3;rcases h3 with h3|h3
    ·split at h3
     ·omega
     ·omega
    ·omega
   have c1: ∀a,a<n->0<=res.getD a 0-> ∀s,s<4->res.getD (nb m a s) 0=res.getD a 0:=fun a ha h1 s hs=>by
    by_cases e:res.getD a 0=p
    ·rw [e];exact hb.cur a ha e (by simp) (by omega) s hs
    ·exact hb.old a ha h1 e s hs
   have c2: ∀a b,a<n->b<n->0<=res.getD a 0->res.getD a 0=res.getD b 0->bJ m a b:=fun a b ha J2 h1 h2=>by
    by_cases e:res.getD a 0=p
    ·exact (bJ.symm hp (hb.con a ha e) (by omega)).trans (hb.con b J2 (by omega))
    ·have dR:=hnew a ha h1 e;have lT:=hnew b J2 (by omega) (by omega);exact ih.con a b ha J2 dR (by show part.getD a 0=part.getD b 0;rw [←hold a ha dR,←hold b J2 lT];exact h2)
   have c3: ∀q:Nat,(q:Int)<p+1-> ∃a,a<n/\res.getD a 0=q:=fun q hq=>by
    rcases Int.lt_or_le q p with g|g
    ·obtain ⟨a,ha,e⟩:=ih.att q g;have e:part.getD a 0=q:=e;exact ⟨a,ha,by rw [hold a ha (by omega),e]⟩
    ·exact ⟨k,by omega,by rw [jC];omega⟩
   exact ⟨c1,c2,c3⟩
theorem Tf (hp:gR m n) {a b:Nat} (ha:a<n) (hb:b<n):(ja m n).1.getD a 0=(ja m n).1.getD b 0↔bJ m a b:=by
 have h:=K0 hp n (Nat.le_refl _);have h0:=fun i hi=>(Eh hp.ok n (Nat.le_refl _) i hi).2 hi;constructor
 ·exact fun e=>h.con a b ha hb (h0 a ha) e
 ·intro hc;refine (bJ.closed hp (S:=fun x=>x<n/\(ja m n).1.getD x 0=(ja m n).1.getD a 0) ?_ hc ha ⟨ha,rfl⟩).2.symm;intro x s hx hs ⟨_,e⟩;exact ⟨hp.mT hx hs,by rw [←e];exact h.clo x hx (h0 x hx) s hs⟩
theorem X0 (hp:gR m n) {p:Nat} (h:(p:Int)<(ja m n).2): ∃a,a<n/\(ja m n).1.getD a 0=p:=(K0 hp n (Nat.le_refl _)).att p h
def vC (m:List Int) (h:Nat) (l:List Int):List Int:=(l.set (h/4) (min (l.getD (h/4) 0) (l.getD (m.getD h 0/4).toNat 0))).set (m.getD h 0/4).toNat (min (l.getD (h/4) 0) (l.getD (m.getD h 0/4).toNat 0))
def qM (m l:List Int):Nat->List Int
 |0=>l
 |h+1=>vC m h (qM m l h)
def bP (m:List Int) (n:Nat):Nat->List Int
 |0=>(List.range n).map fun (i:Nat)=>(i:Int)
 |k+1=>qM m (bP m n k) (4*n)
def RI (m:List Int) (n:Nat) (l:List Int):Prop:=l.length=n/\ ∀c,c<n->0<=l.getD c 0/\l.getD c 0<=c/\bJ m c (l.getD c 0).toNat
theorem Q3 (hp:gR m n) {l:List Int} (hl:l.length=n) {h:Nat} (hh:h<4*n) (c:Nat):(vC m h l).getD c 0=if c=h/4\/c=nb m (h/4) (h % 4) then min (l.getD (h/4) 0) (l.getD (nb m (h/4) (h % 4)) 0) else l.getD c 0:=by
 have e:(m.getD h 0/4).toNat=nb m (h/4) (h % 4):=by unfold nb;rw [show 4*(h/4)+h % 4=h by omega]
 have ay:=hp.mT (a:=h/4) (s:=h % 4) (by omega) (by omega);unfold vC;rw [e];by_cases e1:nb m (h/4) (h % 4)=c
 ·subst e1;rw [nr (by simp;omega),if_pos (.inr rfl)]
 ·rw [ns e1];by_cases e2:h/4=c
  ·subst e2;rw [nr (by omega),if_pos (.inl rfl)]
  ·rw [ns e2,if_neg (by omega)]
theorem y7d (l:List Int) (h:Nat):(vC m h l).length=l.length:=by simp [vC]
theorem PK (hp:gR m n) {l:List Int} (hl:RI m n l) {h:Nat} (hh:h<4*n):RI m n (vC m h l)/\ ∀c,c<n->(vC m h l).getD c 0<=l.getD c 0:=by
 have ay:=hp.mT (a:=h/4) (s:=h % 4) (by omega) (by omega);have h1:=hl.2 (h/4) (by omega);have h2:=hl.2 _ ay;have hc:bJ m (h/4) (nb m (h/4) (h % 4)):= .step _ (by omega) (.refl _);have dh:=hc.symm hp (by omega);have key: ∀c,c<n->(0<=(vC m h l).getD c 0/\(vC m h l).getD c 0<=c/\bJ m c ((vC m h l).getD c 0).toNat)/\(vC m h l).getD c 0<=l.getD c 0:=by
  intro c hcn;rw [Q3 hp hl.1 hh];by_cases e:c=h/4\/c=nb m (h/4) (h % 4)
  ·rw [if_pos e];rw [Int.min_def]
   split
   ·rcases e with e|e
    ·subst e;exact ⟨⟨h1.1,h1.2.1,h1.2.2⟩,Int.le_refl _⟩
    ·subst e;exact ⟨⟨h1.1,by omega,dh.trans h1.2.2⟩,by omega⟩
   ·rcases e with e|e
    ·subst e;exact ⟨⟨h2.1,by omega,hc.trans h2.2.2⟩,by omega⟩
    ·subst e;exact ⟨⟨h2.1,h2.2.1,h2.2.2⟩,Int.le_refl _⟩
  ·rw [if_neg e];exact ⟨hl.2 c hcn,Int.le_refl _⟩
 exact ⟨⟨by rw [y7d];exact hl.1,fun c hc=>(key c hc).1⟩,fun c hc=>(key c hc).2⟩
theorem H9 (hp:gR m n) {l:List Int} (hl:RI m n l): ∀h,h<=4*n->RI m n (qM m l h)/\ ∀c,c<n->(qM m l h).getD c 0<=l.getD c 0
 |0,_=>⟨hl,fun c _=>Int.le_refl _⟩
 |h+1,hh=>by
  obtain ⟨h1,h2⟩:=H9 hp hl h (by omega);obtain ⟨h3,h4⟩:=PK hp h1 (h:=h) (by omega);exact ⟨h3,fun c hc=>Int.le_trans (h4 c hc) (h2 c hc)⟩
theorem PJ (hp:gR m n) {l:List Int} (hl:RI m n l): ∀h,h<=4*n-> ∀c s,4*c+s<h->s<4->(qM m l h).getD (nb m c s) 0<=l.getD c 0
 |0,_,c,s,GC,_=>by omega
 |h+1,hh,c,s,GC,hs=>by
  obtain ⟨h1,h2⟩:=H9 hp hl h (by omega);obtain ⟨h3,h4⟩:=PK hp h1 (h:=h) (by omega);rcases Nat.lt_or_ge (4*c+s) h with q|q
  ·exact Int.le_trans (h4 _ (hp.mT (by omega) hs)) (PJ hp hl h (by omega) c s q hs)
  ·have e1:h/4=c:=by omega
   have e2:h % 4=s:=by omega
   simp only [qM];rw [Q3 hp h1.1 (by omega),e1,e2,if_pos (.inr rfl)]
   have:=h2 c (by omega)
   omega
theorem A4 (hp:gR m n): ∀k,RI m n (bP m n k)
 |0=>⟨by simp [bP],fun c hc=>by simp [bP,hc];exact .refl _⟩
 |k+1=>(H9 hp (A4 hp k) (4*n) (Nat.le_refl _)).1
theorem YO {p q:Nat->Bool} (l:List Nat) (h: ∀x∈l,p x=true->q x=true):l.countP p<=l.countP q:=by
 induction l with
 |nil=>simp
 |cons x l ih=>
  have:=ih (fun y hy=>h y (by simp [hy]))
  have hx:=h x (by simp);simp only [List.countP_cons];cases yt:p x<;>cases hqx:q x<;>simp_all<;>omega
theorem TW {p q:Nat->Bool} (l:List Nat) (h: ∀x∈l,p x=true->q x=true) {y:Nat} (hy:y∈l) (h1:p y=false) (h2:q y=true):l.countP p<l.countP q:=by
 induction l with
 |nil=>simp at hy
 |cons x l ih=>
  have h3:=YO l (fun y hy=>h y (by simp [hy]));have hx:=h x (by simp);simp only [List.countP_cons];rcases List.mem_cons.1 hy with e|e
  ·subst e;simp [h1,h2];omega
  ·have:=ih (fun y hy=>h y (by simp [hy])) e
   cases yt:p x<;>cases hqx:q x<;>simp_all<;>omega
theorem Xr (hp:gR m n) {u:Nat} (hu:u<n) (wR: ∀b,bJ m u b->u<=b) {b:Nat} (hb:bJ m u b):(bP m n n).getD b 0=u:=by
 have Gs: ∀k c,bJ m u c->(u:Int)<=(bP m n k).getD c 0:=fun k c hc=>by
  have hr:=(A4 hp k).2 c (hc.lt hp hu)
  have:=wR _ (hc.trans hr.2.2);omega
 have mU: ∀k,(bP m n k).getD u 0=u:=fun k=>by
  have hr:=(A4 hp k).2 u hu
  have:=Gs k u (.refl _);omega
 have lR: ∀k c,c<n->(bP m n (k+1)).getD c 0<=(bP m n k).getD c 0:=fun k c hc=>(H9 hp (A4 hp k) (4*n) (Nat.le_refl _)).2 c hc;have vK: ∀k c s,c<n->s<4->(bP m n (k+1)).getD (nb m c s) 0<=(bP m n k).getD c 0:=fun k c s hc hs=>PJ hp (A4 hp k) (4*n) (Nat.le_refl _) c s (by omega) hs;have df: ∀k c,c<n->(bP m n k).getD c 0=u->bJ m u c:=fun k c hc e=>by
  have hr:=(A4 hp k).2 c hc;have h1:=hr.2.2;rw [e] at h1;exact (by simpa using h1:bJ m c u).symm hp hc
 have key: ∀k,(∀c,bJ m u c->(bP m n k).getD c 0=u)\/k+1<=(List.range n).countP (fun c=>decide ((bP m n k).getD c 0=u)):=by
  intro k
  induction k with
  |zero=>
   right;exact List.countP_pos_iff.2 ⟨u,List.mem_range.2 hu,by simp only [mU 0,decide_true]⟩
  |succ k ih=>
   rcases ih with ih|ih
   ·left;intro c hc;have h1:=lR k c (hc.lt hp hu);have h2:=Gs (k+1) c hc;rw [ih c hc] at h1;omega
   ·by_cases aY: ∀c s,c<n->s<4->(bP m n k).getD c 0=u->(bP m n k).getD (nb m c s) 0=u
    ·left;intro c hc;have h0:=(bJ.closed hp (S:=fun c=>c<n/\(bP m n k).getD c 0=u) (fun a s ha hs h=>⟨hp.mT ha hs,aY a s ha hs h.2⟩) hc hu ⟨hu,mU k⟩).2;have h1:=lR k c (hc.lt hp hu);have h2:=Gs (k+1) c hc;rw [h0] at h1;omega
    ·right;have hex: ∃c s,c<n/\s<4/\(bP m n k).getD c 0=u/\(bP m n k).getD (nb m c s) 0≠u:=by
      apply Classical.byContradiction;intro ax;exact aY fun c s hc hs e=>Classical.byContradiction fun e'=>ax ⟨c,s,hc,hs,e,e'⟩
     obtain ⟨c,s,hc,hs,e1,e2⟩:=hex;have hcu:=df k c hc e1;have ay:=hp.mT hc hs;have h3:(bP m n (k+1)).getD (nb m c s) 0=u:=by
      have h1:=vK k c s hc hs;have h2:=Gs (k+1) (nb m c s) (.step s hs hcu);omega
     have:=TW (p:=fun c=>decide ((bP m n k).getD c 0=u)) (q:=fun c=>decide ((bP m n (k+1)).getD c 0=u)) (List.range n) (fun x hx yt=>by
      have hx:=List.mem_range.1 hx;have e:=of_decide_eq_true yt;have h1:=lR k x hx;have h2:=Gs (k+1) x (df k x hx e);exact decide_eq_true (by omega)) (List.mem_range.2 ay) (decide_eq_false e2) (decide_eq_true h3)
     omega
 rcases key n with h|h
 ·exact h b hb
 ·have:=List.countP_le_length (p:=fun c=>decide ((bP m n n).getD c 0=u)) (l:=List.range n)
  rw [List.length_range] at this;omega
theorem Lp (hp:gR m n) {a:Nat} (ha:a<n): ∃u,u<n/\bJ m u a/\(∀b,b<n->((bP m n n).getD b 0=u↔bJ m a b)):=by
 obtain ⟨u,h1,h2,h3⟩:=Ia (p:=fun b=>bJ m a b) a (.refl _);have hu:u<n:=by omega
 have wR: ∀b,bJ m u b->u<=b:=fun b hb=>Nat.le_of_not_lt fun ay=>h3 b ay (h2.trans hb);have JL:=h2.symm hp ha;refine ⟨u,hu,JL,fun b hb=>⟨fun e=>?_,fun lW=>Xr hp hu wR (JL.trans lW)⟩⟩;have hr:=(A4 hp n).2 b hb;have h4:=hr.2.2;rw [e] at h4;exact h2.trans ((by simpa using h4:bJ m b u).symm hp hb)
end
def gV (nx:Int->Int) (x:Int):Nat->Int->List Int
 |0,_=>[]
 |f+1,g=>if g=x then [] else g::gV nx x f (nx g)
def af (nx:Int->Int) (N:Nat) (x:Int):List Int:=x::gV nx x N (nx x)
theorem Q0 {nx:Int->Int} {x:Int} {k:Nat} (h:uv nx x k): ∀f j,0<j->j<=k->k<=f+j->gV nx x f (it nx j x)=(List.range (k-j)).map fun i=>it nx (j+i) x
 |0,j,h0,h1,h2=>by obtain rfl:j=k:=by omega
                   simp [gV]
 |f+1,j,h0,h1,h2=>by
  unfold gV;by_cases e:j=k
  ·subst e;rw [if_pos h.back];simp
  ·rw [if_neg (h.first j h0 (by omega)),show k-j=(k-(j+1))+1 by omega,List.range_succ_eq_map];rw [show nx (it nx j x)=it nx (j+1) x from rfl,Q0 h f (j+1) (by omega) (by omega) (by omega)];simp only [List.map_cons,Nat.add_zero,List.map_map,List.cons.injEq,true_and];refine List.map_congr_left fun i _=>?_;simp only [Function.comp];rw [show j+i.succ=j+1+i by omega]
theorem QZ {nx:Int->Int} {x:Int} {k N:Nat} (h:uv nx x k) (hk:k<=N+1):af nx N x=its nx x k:=by
 have h0:=h.pos;unfold af its;rw [show nx x=it nx 1 x from rfl,Q0 h N 1 (by omega) (by omega) (by omega)]
 conv=>rhs;rw [show k=(k-1)+1 by omega,List.range_succ_eq_map]
 simp only [List.map_cons,List.map_map];refine congrArg (List.cons x) (List.map_congr_left fun i _=>?_);simp only [Function.comp];rw [show i.succ=1+i by omega]
def bT (m:List Int) (g:Int):Int:=cd (m.getD g.toNat 0) (-1)
def aA (n:Nat) (x:Int):Prop:=0<=x/\x<4*n
theorem Xq {n:Nat} {x y b:Int} (hx:aA n x) (hy:aA n y) (e:cd x b=cd y b):x=y:=by
 have: -4<b.tmod 4/\b.tmod 4<4:=⟨Int.lt_tmod_of_pos b (by decide),Int.tmod_lt_of_pos b (by decide)⟩
 unfold cd aA at*;omega
section
variable {m:List Int} {n:Nat}
theorem gR.inj (hp:gR m n) {x y:Int} (hx:aA n x) (hy:aA n y) (e:m.getD x.toNat 0=m.getD y.toNat 0):x=y:=by
 unfold aA at*;have h1:=hp.inv x.toNat (by omega);have h2:=hp.inv y.toNat (by omega);rw [e,h2] at h1;omega
theorem gR.iV (hp:gR m n) {x:Int} (hx:aA n x):aA n (m.getD x.toNat 0):=by
 unfold aA at*;have:=hp.ok.2 x.toNat (by omega);omega
theorem SP (hp:gR m n) (b:Int):Perm (fun g=>cd (m.getD g.toNat 0) b) (4*n) (aA n):=
 ⟨fun x hx=>by unfold aA at hx;omega,fun x hx=>by have:=hp.iV hx;unfold aA at*;exact EN this.1 this.2,
  fun x y hx hy e=>hp.inj hx hy (Xq (hp.iV hx) (hp.iV hy) e)⟩
theorem Ja (hp:gR m n):Perm (bT m) (4*n) (aA n):=SP hp (-1)
theorem Ac {nx:Int->Int} {N:Nat} {S:Int->Prop} (h:Perm nx N S) {x:Int} (hx:S x):
  (∀y,y∈af nx N x↔ ∃j,it nx j x=y)/\(∀y∈af nx N x,S y)/\(∀y∈af nx N x,x∈af nx N y)/\(∀y∈af nx N x,∀z∈af nx N y,z∈af nx N x)/\x∈af nx N x/\(af nx N x).length<=N/\(af nx N x).Nodup/\ ∃k,k<=N/\uv nx x k/\af nx N x=its nx x k:=by
 obtain ⟨k,hk,hp⟩:=h.JC hx;have e:=QZ hp (N:=N) (by omega);have hm: ∀y,y∈af nx N x↔ ∃j,it nx j x=y:=fun y=>by rw [e];exact TJ hp
 have hS: ∀y∈af nx N x,S y:=fun y hy=>by obtain ⟨j,rfl⟩:=(hm y).1 hy;exact h.it hx j
 have JW: ∀y,S y-> ∀z,z∈af nx N y↔ ∃j,it nx j y=z:=fun y hy z=>by
  obtain ⟨l,hl,hq⟩:=h.JC hy;rw [QZ hq (N:=N) (by omega)];exact TJ hq
 refine ⟨hm,hS,fun y hy=>?_,fun y hy z hz=>?_,by simp [af],by rw [e,Lr];exact hk,by rw [e];exact Xs h hx hp,k,hk,hp,e⟩
 ·exact (JW y (hS y hy) x).2 (Yi hp ((hm y).1 hy))
 ·exact (hm z).2 (Ys ((hm y).1 hy) ((JW y (hS y hy) z).1 hz))
theorem y7e (hp:gR m n) (hn:m.length=4*n) {seen:List Bool} (hl:seen.length=4*n) {x:Int} (hx:aA n x) {k:Nat} (hk:uv (bT m) x k) (hu: ∀j,j<k->seen.getD (it (bT m) j x).toNat false=false):
  ∀d j f,d=k-j->j<=k->d<f->mark m f (nP seen (its (bT m) x j)) (it (bT m) j x)=nP seen (its (bT m) x k):=by
 have jA:=Ja hp;have hR: ∀j,aA n (it (bT m) j x):=fun j=>jA.it hx j;have V8: ∀j,∀g∈its (bT m) x j,0<=g/\g.toNat<seen.length:=fun j g hg=>by
  obtain ⟨i,_,rfl⟩:=Ev.1 hg
  have:=hR i;unfold aA at this;omega
 have yz:=hk.pos;intro d
 induction d with
 |zero=>
  intro j f hd hj hf;obtain rfl:j=k:=by omega
  obtain ⟨f',rfl⟩: ∃f',f=f'+1:=⟨f-1,by omega⟩;simp only [mark];rw [hk.back,if_pos];rw [Dr _ _ _ (V8 j),Bool.or_eq_true,decide_eq_true_iff];right;have gX:=hx;unfold aA at gX;rw [show ((x.toNat:Nat):Int)=x by omega];exact Ev.2 ⟨0,yz,rfl⟩
 |succ d ih=>
  intro j f hd hj hf;obtain ⟨f',rfl⟩: ∃f',f=f'+1:=⟨f-1,by omega⟩;have hRj:=hR j;unfold aA at hRj;simp only [mark];rw [if_neg]
  ·have e1:(nP seen (its (bT m) x j)).set (it (bT m) j x).toNat true=nP seen (its (bT m) x (j+1)):=by
    rw [R9,Mr];rfl
   rw [e1];exact ih (j+1) f' (by omega) (by omega) (by omega)
  ·rw [Dr _ _ _ (V8 j),hu j (by omega),Bool.false_or,decide_eq_true_iff];rw [show (((it (bT m) j x).toNat:Nat):Int)=it (bT m) j x by omega];intro hm;obtain ⟨i,hi,e⟩:=Ev.1 hm
   have:=jA.cancel hx i (j-i) (by rw [show i+(j-i)=j by omega];exact e.symm)
   exact hk.first (j-i) (by omega) (by omega) this
def fl (m:List Int) (h:Nat):Bool:=me h (af (bT m) m.length h)
def dw (l:List Int) (n:Nat) (p:Int):Nat:=(List.range n).countP fun c=>l.getD c 0==p
def iT (m l:List Int) (h:Nat) (p:Int):Nat:=(List.range h).countP fun i=>fl m i&&l.getD (i/4) 0==p
theorem SO (l:List Int) (n:Nat) (p:Int):dw l (n+1) p=dw l n p+if l.getD n 0=p then 1 else 0:=by
 unfold dw;rw [List.range_succ,List.countP_append];simp [List.countP_cons]
theorem SN (m l:List Int) (h:Nat) (p:Int):iT m l (h+1) p=iT m l h p+if fl m h=true/\l.getD (h/4) 0=p then 1 else 0:=by
 unfold iT;rw [List.range_succ,List.countP_append];simp [List.countP_cons]
theorem QY {part:List Int} {np:Nat} (zh: ∀c,c<part.length->0<=part.getD c 0/\part.getD c 0<np) {p:Nat} (h:p<np): ∀k,k<=part.length->(j6 part np k).getD p 0= -(dw part k p:Int)
 |0,_=>by simp [j6,dw,h]
 |k+1,hk=>by
  have ih:=QY zh h k (by omega);have hl:=(IC part np k).1;have hr:=zh k (by omega);simp only [j6];rw [SO];by_cases e:(part.getD k 0).toNat=p
  ·rw [e,nr (by omega),if_pos (by omega),ih];omega
  ·rw [ns e,if_neg (by omega),ih];omega
theorem QX (hp:gR m n) (hm:m.length=4*n) {part:List Int} {np:Nat} (mD:part.length=n) (zh: ∀c,c<n->0<=part.getD c 0/\part.getD c 0<np): ∀h,h<=4*n->
  (∀p:Nat,p<np->(bR m part np h).1.getD p 0=(iT m part h p:Int)-dw part n p)/\
  ∀g:Nat,g<4*n->((bR m part np h).2.getD g false=true↔ ∃x:Nat,x<h/\(g:Int)∈af (bT m) m.length x)
 |0,_=>by
  refine ⟨fun p ay=>?_,fun g hg=>by simp [bR,hm,hg]⟩;simp only [bR];rw [QY (fun c hc=>zh c (by omega)) ay _ (Nat.le_refl _),mD];simp [iT]
 |h+1,hh=>by
  obtain ⟨h1,h2⟩:=QX hp hm mD zh h (by omega);obtain ⟨l1,l2,_⟩:=Dh m part np h;have hR: ∀x:Nat,x<4*n->aA n (x:Int):=fun x hx=>by unfold aA;omega
  have rz:=fun (x:Nat) (hx:x<4*n)=>by
   have:=Ac (Ja hp) (hR x hx)
   rw [←hm] at this;exact this
  have BQ:=h2 h (by omega);simp only [bR,wa];by_cases hs:(bR m part np h).2.getD h false=true
  ·rw [if_pos hs];obtain ⟨x,hx,VP⟩:=BQ.1 hs;have uh:fl m h=false:=by
    cases hf:fl m h with
    |false=>rfl
    |true=>
     have:=yT.1 hf x ((rz x (by omega)).2.2.1 h VP);omega
   refine ⟨fun p ay=>by rw [SN,if_neg (by simp [uh]),h1 p ay];omega,fun g hg=>?_⟩;rw [h2 g hg];constructor
   ·rintro ⟨y,hy,h3⟩;exact ⟨y,by omega,h3⟩
   ·rintro ⟨y,hy,h3⟩;rcases Nat.lt_or_ge y h with q|q
    ·exact ⟨y,q,h3⟩
    ·obtain rfl:y=h:=by omega
     exact ⟨x,hx,(rz x (by omega)).2.2.2.1 y VP g h3⟩
  ·rw [if_neg hs];obtain ⟨o1,o2,o3,o4,o5,o6,o7,k,hk,uS,iw⟩:=rz h (by omega);have uh:fl m h=true:=yT.2 fun y hy=>by
    have hr:=o2 y hy;unfold aA at hr;obtain ⟨z,rfl⟩: ∃z:Nat,y=z:=⟨y.toNat,by omega⟩;rcases Nat.lt_or_ge z h with q|q
    ·exact absurd (BQ.2 ⟨z,q,o3 z hy⟩) hs
    ·omega
   have vL:mark m (m.length+1) (bR m part np h).2 h=nP (bR m part np h).2 (af (bT m) m.length h):=by
    rw [iw];refine y7e hp hm (by omega) (hR h (by omega)) uS (fun j hj=>?_) k 0 (m.length+1) (by omega) (by omega) (by omega);have uf:it (bT m) j h∈af (bT m) m.length h:=(o1 _).2 ⟨j,rfl⟩;have hjr:=o2 _ uf;unfold aA at hjr;cases JZ:(bR m part np h).2.getD (it (bT m) j h).toNat false with
    |false=>rfl
    |true=>
     obtain ⟨y,hy,h3⟩:=(h2 _ (by omega)).1 JZ;rw [show (((it (bT m) j h).toNat:Nat):Int)=it (bT m) j h by omega] at h3;exact absurd (BQ.2 ⟨y,hy,(rz y (by omega)).2.2.2.1 _ h3 _ (o3 _ uf)⟩) hs
   have NT:=zh (h/4) (by omega);refine ⟨fun p ay=>?_,fun g hg=>?_⟩
   ·rw [SN];simp only;by_cases e:(part.getD (h/4) 0).toNat=p
    ·rw [e,nr (by omega),if_pos ⟨uh,by omega⟩,h1 p ay];omega
    ·rw [ns e,if_neg (by omega),h1 p ay];omega
   ·simp only;rw [vL,Dr _ _ _ (fun y hy=>by have:=o2 y hy;unfold aA at this;omega),Bool.or_eq_true,h2 g hg,decide_eq_true_iff];constructor
    ·rintro (⟨x,h4,h5⟩|h4)
     ·exact ⟨x,by omega,h5⟩
     ·exact ⟨h,by omega,h4⟩
    ·rintro ⟨x,h4,h6⟩;rcases Nat.lt_or_ge x h with q|q
     ·exact .inl ⟨x,q,h6⟩
     ·obtain rfl:x=h:=by omega
      exact .inr h6
theorem y32 (hp:gR m n):qg m n=true↔ ∀p:Nat,(p:Int)<(ja m n).2->iT m (ja m n).1 (4*n) p=dw (ja m n).1 n p+2:=by
 obtain ⟨p1,p2,p3,p4⟩:=Ml hp.ok;have hm:=hp.ok.1;have h1:=(QX hp hm p1 (np:=(ja m n).2.toNat) (fun c hc=>by have:=p4 c hc;omega) (4*n) (Nat.le_refl _)).1;have hlen:=(Dh m (ja m n).1 (ja m n).2.toNat (4*n)).1;unfold qg;rw [hm,List.all_eq_true];constructor
 ·intro h p ay;have h2:=h1 p (by omega);have mI:(bR m (ja m n).1 (ja m n).2.toNat (4*n)).1.getD p 0∈(bR m (ja m n).1 (ja m n).2.toNat (4*n)).1:=by
   rw [List.getD_eq_getElem?_getD,List.getElem?_eq_getElem (by omega)];exact List.getElem_mem _
  have:=h _ mI
  simp only [beq_iff_eq] at this;omega
 ·intro h x hx;obtain ⟨i,hi,rfl⟩:=List.mem_iff_getElem.1 hx;have h2:=h1 i (by omega);have h3:=h i (by omega);rw [List.getD_eq_getElem?_getD,List.getElem?_eq_getElem hi] at h2;simp only [Option.getD_some] at h2;simp only [beq_iff_eq];omega
def qf (m:List Int) (n:Nat):Bool:=(List.range n).all fun c=> !((bP m n n).getD c 0==(c:Int))||iT m (bP m n n) (4*n) c==dw (bP m n n) n c+2
theorem I4:qf m n=true↔ ∀c,c<n->(bP m n n).getD c 0=c->iT m (bP m n n) (4*n) c=dw (bP m n n) n c+2:=by
 unfold qf;rw [List.all_eq_true];constructor
 ·intro h c hc e
  have:=h c (List.mem_range.2 hc)
  rw [e] at this;simpa using this
 ·intro h c hc;by_cases e:(bP m n n).getD c 0=(c:Int)
  ·rw [h c (List.mem_range.1 hc) e];simp
  ·have:((bP m n n).getD c 0==(c:Int))=false:=by simpa using e
   rw [this];rfl
theorem Xp {l l':List Int} {p p':Int} (h: ∀b,b<n->(l.getD b 0=p↔l'.getD b 0=p')):dw l n p=dw l' n p'/\iT m l (4*n) p=iT m l' (4*n) p':=by
 constructor
 ·unfold dw;refine List.countP_congr fun b hb=>?_;simp only [beq_iff_eq];exact h b (List.mem_range.1 hb)
 ·unfold iT;refine List.countP_congr fun b hb=>?_
  have:=List.mem_range.1 hb
  simp only [Bool.and_eq_true,beq_iff_eq];rw [h (b/4) (by omega)]
theorem Zl (hp:gR m n):qg m n=qf m n:=by
 obtain ⟨p1,p2,p3,p4⟩:=Ml hp.ok;have key: ∀a,a<n-> ∃u,u<n/\(bP m n n).getD u 0=u/\dw (ja m n).1 n ((ja m n).1.getD a 0)=dw (bP m n n) n u/\iT m (ja m n).1 (4*n) ((ja m n).1.getD a 0)=iT m (bP m n n) (4*n) u/\(bP m n n).getD a 0=u:=by
  intro a ha;obtain ⟨u,hu,JL,oz⟩:=Lp hp ha;have J1:=Xp (m:=m) (n:=n) (l:=(ja m n).1) (l':=bP m n n) (p:=(ja m n).1.getD a 0) (p':=u) (fun b hb=>by
   rw [oz b hb];constructor
   ·intro e;exact (Tf hp ha hb).1 e.symm
   ·intro e;exact ((Tf hp ha hb).2 e).symm)
  exact ⟨u,hu,(oz u hu).2 (JL.symm hp hu),J1.1,J1.2,(oz a ha).2 (.refl _)⟩
 rw [Bool.eq_iff_iff,y32 hp,I4];constructor
 ·intro h c hc e;obtain ⟨u,hu,_,h1,h2,h3⟩:=key c hc
  have:u=c:=by omega
  subst this;have h4:=p4 u hc;have h5:=h ((ja m n).1.getD u 0).toNat (by omega);rw [show (((ja m n).1.getD u 0).toNat:Int)=(ja m n).1.getD u 0 by omega,h1,h2] at h5;exact h5
 ·intro h p ay;obtain ⟨a,ha,e⟩:=X0 hp ay;obtain ⟨u,hu,h0,h1,h2,_⟩:=key a ha;have h5:=h u hu h0;rw [e] at h1 h2;omega
end
theorem Xo {s m:List Int} {L:Int} (h:sK s m L=true):gR m s.length:=by
 unfold sK at h;obtain ⟨_,h2,_,_,_,h6⟩:=of_decide_eq_true h;exact ⟨⟨h2,fun i hi=>⟨(h6 i hi).1,(h6 i hi).2.1⟩⟩,fun i hi=>(h6 i hi).2.2.2.1⟩
def zU (s m:List Int) (L:Int):Bool:=sK s m L&&qf m s.length
theorem Dk (s m:List Int) (L:Int):bI s m L=zU s m L:=by
 unfold bI zU;cases h:sK s m L with
 |false=>rfl
 |true=>rw [Zl (Xo h)]
theorem tK (h:Int):cd h 1=h-h % 4+(h % 4+5)% 4:=by
 have:(1:Int).tmod 4=1:=by decide
 unfold cd;rw [this];omega
theorem sH (h:Int):cd h (-1)=h-h % 4+(h % 4+3)% 4:=by
 have:(-1:Int).tmod 4= -1:=by decide
 unfold cd;rw [this];omega
def aF (b:Bool) (h:Int):Int:=if decide (h % 2=1)=b then cd h 1 else cd h (-1)
theorem qc (b:Bool) (h:Int):aF b h/4=h/4:=by
 unfold aF;rw [tK,sH];split<;>omega
theorem uC (b:Bool) (h:Int):aF b (aF b h)=h:=by
 unfold aF;rw [tK,sH];cases b
 ·by_cases e:h % 2=1
  ·simp only [e,decide_true,Bool.true_eq_false,if_false]
   have: ¬(h-h % 4+(h % 4+3)% 4)% 2=1:=by omega
   simp only [this,decide_false,if_true];rw [tK];omega
  ·simp only [e,decide_false,if_true]
   have:(h-h % 4+(h % 4+5)% 4)% 2=1:=by omega
   simp only [this,decide_true,Bool.true_eq_false,if_false];rw [sH];omega
 ·by_cases e:h % 2=1
  ·simp only [e,decide_true,if_true]
   have: ¬(h-h % 4+(h % 4+5)% 4)% 2=1:=by omega
   simp only [this,decide_false,Bool.false_eq_true,if_false];rw [sH];omega
  ·simp only [e,decide_false,Bool.false_eq_true,if_false]
   have:(h-h % 4+(h % 4+3)% 4)% 2=1:=by omega
   simp only [this,decide_true,if_true];rw [tK];omega
theorem KZ (b:Bool) (h:Int):aF b h≠h:=by
 unfold aF;rw [tK,sH];split<;>omega
def cW (m:List Int) (b:Bool) (c:Int):Nat->Int->Int
 |0,x=>x
 |f+1,x=>if x/4=c then cW m b c f (m.getD (aF b x).toNat 0) else x
def lr (u:Int->Bool) (x y:Int):Int->Bool:=fun z=>u z||z==x||z==y
def thrU (m:List Int) (b:Bool) (c:Int):Nat->Int->(Int->Bool)->(Int->Bool)
 |0,_,u=>u
 |f+1,x,u=>if x/4=c then thrU m b c f (m.getD (aF b x).toNat 0) (lr u x (aF b x)) else u
theorem Eu {m:List Int} {b:Bool} {c:Int} {f:Nat} {x:Int} (h:x/4=c):cW m b c (f+1) x=cW m b c f (m.getD (aF b x).toNat 0):=by simp only [cW,h,if_true]
theorem Be {m:List Int} {b:Bool} {c:Int} {f:Nat} {x:Int} (h: ¬x/4=c):cW m b c f x=x:=by cases f<;>simp only [cW,h,if_false]
theorem QW {m:List Int} {b:Bool} {c:Int} {f:Nat} {x:Int} {u:Int->Bool} (h:x/4=c):thrU m b c (f+1) x u=thrU m b c f (m.getD (aF b x).toNat 0) (lr u x (aF b x)):=by simp only [thrU,h,if_true]
theorem QV {m:List Int} {b:Bool} {c:Int} {f:Nat} {x:Int} {u:Int->Bool} (h: ¬x/4=c):thrU m b c f x u=u:=by cases f<;>simp only [thrU,h,if_false]
section
variable {m:List Int} {n:Nat} {b:Bool} {c:Nat}
def cm (m:List Int) (b:Bool) (x:Int):Int:=m.getD (aF b x).toNat 0
theorem y7f (hp:gR m n) (hc:c<n) {x y:Int} (hx:x/4=c) (hy:y/4=c) (e:cm m b x=cm m b y):x=y:=by
 have h1:=qc b x;have h2:=qc b y
 have:=hp.inj (x:=aF b x) (y:=aF b y) (by unfold aA;omega) (by unfold aA;omega) e
 have h3:=congrArg (aF b) this;rwa [uC,uC] at h3
theorem y7g (f:Nat) (x:Int) (h:cW m b c f x/4=c): ∀i,i<=f->it (cm m b) i x/4=(c:Int):=by
 induction f generalizing x with
 |zero=>
  intro i hi;obtain rfl:i=0:=by omega
  exact h
 |succ f ih=>
  intro i hi;unfold cW at h;by_cases e:x/4=(c:Int)
  ·rw [if_pos e] at h;cases i with
   |zero=>exact e
   |succ i=>
    have:=ih _ h i (by omega)
    have e2:it (cm m b) (i+1) x=it (cm m b) i (cm m b x):=by rw [A5];rfl
    rw [e2];exact this
  ·rw [if_neg e] at h;exact absurd h e
theorem Dj (hp:gR m n) (hc:c<n) {h:Nat} (hh:h<4*n) (ho:h/4≠c):cW m b c 5 (m.getD h 0)/4≠(c:Int):=by
 intro df;have zn:=y7g 5 (m.getD h 0) df;obtain ⟨i,j,ke,hj,e⟩:=K1 4 (fun i=>(it (cm m b) i (m.getD h 0)-4*c).toNat) (fun i hi=>by have:=zn i (by omega);omega);have sB:=zn i (by omega);have iQ:=zn j (by omega);have e':it (cm m b) i (m.getD h 0)=it (cm m b) j (m.getD h 0):=by omega
 have key: ∀i j,i<j->j<=5->it (cm m b) i (m.getD h 0)=it (cm m b) j (m.getD h 0)->m.getD h 0=it (cm m b) (j-i) (m.getD h 0):=by
  intro i
  induction i with
  |zero=>intro j _ _ e;simpa [it] using e
  |succ i ih=>
   intro j ke hj e
   have:=ih (j-1) (by omega) (by omega) (y7f hp hc (zn i (by omega)) (zn (j-1) (by omega)) (by
    have:it (cm m b) j (m.getD h 0)=cm m b (it (cm m b) (j-1) (m.getD h 0)):=by
     conv=>lhs;rw [show j=(j-1)+1 by omega]
     rfl
    rw [←this,←e];rfl))
   rw [show j-(i+1)=j-1-i by omega];exact this
 have h0:=key i j ke (by omega) e';have h1:it (cm m b) (j-i) (m.getD h 0)=cm m b (it (cm m b) (j-i-1) (m.getD h 0)):=by
  conv=>lhs;rw [show j-i=(j-i-1)+1 by omega]
  rfl
 rw [h1] at h0;have h2:=zn (j-i-1) (by omega);have h3:=qc b (it (cm m b) (j-i-1) (m.getD h 0));have hr:=hp.ok.2 h hh;have h4:=hp.inv h hh;unfold cm at h0;have h5:=hp.inv (aF b (it (cm m b) (j-i-1) (m.getD h 0))).toNat (by omega);unfold cm at h5;rw [←h0,h4] at h5;unfold cm at h3 h2;omega
def eJ (m:List Int) (b:Bool) (c:Nat):Nat->List Int
 |0=>m
 |h+1=>if h/4=c then eJ m b c h else (eJ m b c h).set h (cW m b c 5 (m.getD h 0))
def mn (m:List Int) (b:Bool) (c:Nat):Nat->Int->Bool
 |0=>fun _=>false
 |h+1=>if h/4=c then mn m b c h else thrU m b c 5 (m.getD h 0) (mn m b c h)
theorem Lo (h:Nat):(eJ m b c h).length=m.length:=by
 induction h with
 |zero=>rfl
 |succ h ih=>simp only [eJ];split<;>simp [ih]
theorem LR (hp:gR m n) (hc:c<n): ∀f x,aA n x->aA n (cW m b c f x):=by
 intro f
 induction f with
 |zero=>intro x h;exact h
 |succ f ih=>
  intro x h;unfold cW
  split
  ·rename_i e
   have:=qc b x
   exact ih _ (hp.iV (by unfold aA;omega))
  ·exact h
theorem Zk (hp:gR m n) (hc:c<n): ∀h,h<=4*n->pf (eJ m b c h) n:=by
 intro h
 induction h with
 |zero=>intro _;exact hp.ok
 |succ h ih=>
  intro hh;have ih:=ih (by omega);simp only [eJ]
  split
  ·exact ih
  ·refine ⟨by simp [ih.1],fun i hi=>?_⟩;have hl:=ih.1;by_cases e:h=i
   ·subst e;rw [nr (by omega)]
    have:=LR (b:=b) hp hc 5 (m.getD h 0) (by have:=hp.ok.2 h hi;unfold aA;omega)
    unfold aA at this;exact this
   ·rw [ns e];exact ih.2 i hi
theorem SM (f:Nat): ∀(x:Int) (u:Int->Bool) (y:Int),u y=true->thrU m b c f x u y=true:=by
 induction f with
 |zero=>intro x u y h;exact h
 |succ f ih=>
  intro x u y h;unfold thrU
  split
  ·exact ih _ _ _ (by simp [lr,h])
  ·exact h
def Bc (b:Bool) (u:Int->Bool):Prop:= ∀x,u x=u (aF b x)
theorem Te {u:Int->Bool} (h:Bc b u) (x:Int):Bc b (lr u x (aF b x)):=by
 intro y;simp only [lr];rw [h y];by_cases e1:y=x
 ·subst e1;simp
 ·by_cases e2:y=aF b x
  ·subst e2;rw [uC];simp
  ·have e3:aF b y≠x:=fun e=>e2 (by rw [←e,uC]);have e4:aF b y≠aF b x:=fun e=>e1 (by have:=congrArg (aF b) e;rwa [uC,uC] at this);have q1:(y==x)=false:=by simpa using e1
   have q2:(y==aF b x)=false:=by simpa using e2
   have q3:(aF b y==x)=false:=by simpa using e3
   have q4:(aF b y==aF b x)=false:=by simpa using e4
   rw [q1,q2,q3,q4]
theorem Yr (f:Nat): ∀(x:Int) (u:Int->Bool),Bc b u->Bc b (thrU m b c f x u):=by
 induction f with
 |zero=>intro x u h;exact h
 |succ f ih=>
  intro x u h;unfold thrU
  split
  ·exact ih _ _ (Te h x)
  ·exact h
theorem XZ (k:Nat):Bc b (mn m b c k):=by
 induction k with
 |zero=>intro x;rfl
 |succ k ih=>
  simp only [mn];split
  ·exact ih
  ·exact Yr 5 _ _ ih
theorem y33 (y:Int): ∀d k,mn m b c k y=true->mn m b c (k+d) y=true:=by
 intro d
 induction d with
 |zero=>intro k h;exact h
 |succ d ih=>
  intro k h
  have:=ih k h
  rw [←Nat.add_assoc];simp only [mn];split
  ·exact this
  ·exact SM 5 _ _ _ this
theorem PI (hp:gR m n) (hc:c<n) {x:Int} (hx:x/4=c) (hu:mn m b c (4*n) x=false):cm m b x/4=(c:Int):=by
 apply Classical.byContradiction;intro ax;have h1:=qc b x;have hr:=hp.iV (x:=aF b x) (by unfold aA;omega);unfold cm at ax;unfold aA at hr;have hi:=hp.inv (aF b x).toNat (by omega);generalize hy:m.getD (aF b x).toNat 0=y at*;obtain ⟨h,rfl⟩: ∃h:Nat,y=h:=⟨y.toNat,by omega⟩;simp only [Int.toNat_natCast] at hi;have h2:mn m b c (h+1) x=true:=by
  have vN:h/4≠c:=by omega
  simp only [mn,vN,if_false];rw [hi];unfold thrU;have e1:(((aF b x).toNat:Nat):Int)=aF b x:=by omega
  rw [e1,if_pos (by omega)];refine SM 4 _ _ _ ?_;simp [lr,uC]
 have h3:=y33 (m:=m) (b:=b) (c:=c) x (4*n-(h+1)) (h+1) h2;rw [show h+1+(4*n-(h+1))=4*n by omega,hu] at h3;cases h3
def pU (m:List Int) (b:Bool):Nat->Int->(Int->Bool)->(Int->Bool)
 |0,_,u=>u
 |f+1,h,u=>if u h then u else pU m b f (cm m b h) (lr u h (aF b h))
theorem Uv {f:Nat} {h:Int} {u:Int->Bool} (e:u h=true):pU m b f h u=u:=by cases f<;>simp only [pU,e,if_true]
theorem HM {f:Nat} {h:Int} {u:Int->Bool} (e:u h=false):pU m b (f+1) h u=pU m b f (cm m b h) (lr u h (aF b h)):=by simp only [pU,e,Bool.false_eq_true,if_false]
def CX (c:Nat) (u:Int->Bool):Nat:=(List.range 4).countP fun (i:Nat)=> !u (4*c+i)
theorem y34 (u:Int->Bool):CX c u<=4:=by
 have:=List.countP_le_length (p:=fun i:Nat=> !u (4*c+i)) (l:=List.range 4);unfold CX;simpa using this
theorem Xn {u:Int->Bool} {x y:Int} (hx:x/4=c) (hu:u x=false):CX c (lr u x y)<CX c u:=by
 unfold CX;refine TW _ (fun i _ h=>?_) (y:=(x-4*c).toNat) (by simp;omega) ?_ ?_
 ·simp only [lr,Bool.not_or,Bool.and_eq_true] at h⊢;exact h.1.1
 ·have e:(4*(c:Int)+((x-4*c).toNat:Nat))=x:=by omega
  rw [e];simp [lr]
 ·have e:(4*(c:Int)+((x-4*c).toNat:Nat))=x:=by omega
  rw [e,hu];rfl
def nt (m:List Int) (b:Bool) (c n:Nat):Int:=
 let u0:=mn m b c (4*n)
 let u1:=if u0 (4*c) then u0 else pU m b 5 (4*c) u0
 (if u0 (4*c) then 0 else 1)+(if u1 (if b then 4*c+1 else 4*c+3) then 0 else 1)
end
def jb (s:List Int) (c:Nat):Nat->List Int
 |0=>[]
 |k+1=>if k=c then jb s c k else jb s c k++[s.getD k 0]
def c6 (m:List Int) (c:Nat) (h:Nat):Int:=if (c:Int)<m.getD h 0/4 then m.getD h 0-4 else m.getD h 0
def dE (m:List Int) (c k:Nat) (l:List Int):Nat->List Int
 |0=>l
 |x+1=>dE m c k l x++[c6 m c (4*k+x)]
def cv (m:List Int) (c:Nat):Nat->List Int
 |0=>[]
 |k+1=>if k=c then cv m c k else dE m c k (cv m c k) 4
theorem QU (s:List Int) (c:Nat): ∀k,(jb s c k).length<=k
 |0=>by simp [jb]
 |k+1=>by have:=QU s c k;simp only [jb];split<;>simp<;>omega
theorem I3 (m:List Int) (c k:Nat) (l:List Int): ∀x,(dE m c k l x).length=l.length+x
 |0=>by simp [dE]
 |x+1=>by have:=I3 m c k l x;simp [dE];omega
theorem QT (m:List Int) (c:Nat): ∀k,(cv m c k).length<=4*k
 |0=>by simp [cv]
 |k+1=>by have:=QT m c k;simp only [cv];split<;>(try rw [I3])<;>omega
def aK (m:List Int) (g:Int):Int:=cd (m.getD g.toNat 0) 2
def dt (s m:List Int):List (List Int):=(aL m.length (ak s) (af (aK m) m.length) m.length).1
structure jP (s m:List Int) (L:Int):Prop where
 s64:s.length<=64
 len:m.length=4*s.length
 l0:0<=L
 l64:L<=64
 sg:sL s s.length
 mt:yd s m (4*s.length)
 dB:gR m s.length
theorem dr {s m:List Int} {L:Int} (h:bI s m L=true):jP s m L:=by
 obtain ⟨⟨h1,h2,h3,h4,h5,h6⟩,_⟩:=Yk.1 h;exact ⟨h1,h2,h3,h4,h5,h6,⟨h2,fun i hi=>⟨(h6 i hi).1,(h6 i hi).2.1⟩⟩,fun i hi=>(h6 i hi).2.2.2.1⟩
theorem Ai {m:List Int} {n:Nat} (hp:gR m n):Perm (aK m) (4*n) (aA n):=SP hp 2
theorem EO (s m:List Int):(dt s m).length<=m.length:=(I5 _ _ _ _).2
theorem LQ {N:Nat} {want:Int->Bool} {orb:Int->List Int}: ∀h,∀l∈(aL N want orb h).1,∃x:Nat,x<h/\want x=true/\l=orb x
 |0,l,hl=>by simp [aL] at hl
 |h+1,l,hl=>by
  simp only [aL,jg] at hl
  split at hl
  ·obtain ⟨x,h1,h2⟩:=LQ h l hl;exact ⟨x,by omega,h2⟩
  ·rename_i hc
   rcases List.mem_append.1 hl with hl|hl
   ·obtain ⟨x,h1,h2⟩:=LQ h l hl;exact ⟨x,by omega,h2⟩
   ·refine ⟨h,by omega,?_,List.mem_singleton.1 hl⟩;cases hw:want h with
    |true=>rfl
    |false=>rw [hw] at hc;simp at hc
theorem Mq {s m:List Int} {n:Nat} (hp:gR m n) {l:List Int} (hl:l∈dt s m):l.length<=4*n/\ ∀x∈l,0<=x/\x<4*n:=by
 obtain ⟨x,hx,_,rfl⟩:=LQ _ l hl;have hm:=hp.ok.1;have hR:aA n (x:Int):=by unfold aA;omega
 have rz:=Ac (Ai hp) hR;rw [←hm] at rz;exact ⟨by have:=rz.2.2.2.2.2.1;omega,fun y hy=>by have:=rz.2.1 y hy;unfold aA at this;omega⟩
def dy (v:List Bool):List Int->Option Int×List Bool
 |[]=>(none,v)
 |h::t=>if v.getD (h/4).toNat false=false/\h % 2=0 then (some (h/4),v) else dy (v.set (h/4).toNat true) t
def tJ (v:List Bool):List (List Int)->Option Int
 |[]=>none
 |l::r=>match dy v l with
  |(some c,_)=>some c
  |(none,v')=>tJ v' r
def mN (s m:List Int):Option Int:=tJ (List.replicate s.length false) (dt s m)
def jw (m:List Int) (to:Int->Int):Nat->List Int
 |0=>List.replicate m.length 0
 |k+1=>(jw m to k).set (to k).toNat (to (m.getD k 0))
theorem Et (m:List Int) (to:Int->Int): ∀k,(jw m to k).length=m.length
 |0=>by simp [jw]
 |k+1=>by simp [jw,Et m to k]
def gU (s:List Int) (sg:Int->Int) (k:Nat):List Int:=(List.range k).map fun (c:Nat)=>s.getD c 0*sg c
theorem sd (s:List Int) (sg:Int->Int) (k:Nat):(gU s sg k).length=k:=by simp [gU]
theorem y7h (s:List Int) (sg:Int->Int) (n k:Nat) (h:k<n):(gU s sg k++List.replicate (n-k) 0).set k (s.getD k 0*sg k)=gU s sg (k+1)++List.replicate (n-(k+1)) 0:=by
 rw [List.set_append_right _ _ (by rw [sd];omega),sd,Nat.sub_self];obtain ⟨d,hd⟩: ∃d,n-k=d+1:=⟨n-k-1,by omega⟩;rw [hd,List.replicate_succ,List.set_cons_zero,show n-(k+1)=d by omega];simp [gU,List.range_succ]
def rP (s:List Int) (ch:Int->Bool) (c:Int):Int:=if ch c then (if s.getD c.toNat 0=1 then-3 else-1) else 0
def rO (ch:Int->Bool) (c:Int):Int:=if ch c then-1 else 1
def ni (s:List Int) (ch:Int->Bool):List Int:=gU s (rO ch) s.length
def td (s m:List Int) (ch:Int->Bool):List Int:=jw m (fun h=>cd h (rP s ch (h/4))) m.length
theorem R8: ∀(l:List Int) (v:List Bool) (c:Int),(dy v l).1=some c-> ∃h∈l,c=h/4
 |[],v,c,h=>by simp [dy] at h
 |x::l,v,c,h=>by
  simp only [dy] at h
  split at h
  ·simp only [Option.some.injEq] at h;exact ⟨x,by simp,h.symm⟩
  ·obtain ⟨y,h1,h2⟩:=R8 l _ c h;exact ⟨y,by simp [h1],h2⟩
theorem SL: ∀(ls:List (List Int)) (v:List Bool) (c:Int),tJ v ls=some c-> ∃l∈ls,∃h∈l,c=h/4
 |[],v,c,h=>by simp [tJ] at h
 |l::ls,v,c,h=>by
  simp only [tJ] at h
  split at h
  ·rename_i c' v' e
   simp only [Option.some.injEq] at h;obtain ⟨y,h1,h2⟩:=R8 l v c (by rw [e,h]);exact ⟨l,by simp,y,h1,h2⟩
  ·obtain ⟨l',h1,h2⟩:=SL ls _ c h;exact ⟨l',by simp [h1],h2⟩
theorem R7 {s m:List Int} (hp:gR m s.length) {c:Int} (h:mN s m=some c):0<=c/\c<s.length:=by
 obtain ⟨l,h1,x,h2,rfl⟩:=SL _ _ c h
 have:=(Mq hp h1).2 x h2
 omega
def jR (s:List Int) (c:Nat):List Int:=ni s (· ==(c:Int))
def jc (s m:List Int) (c:Nat):List Int:=td s m (· ==(c:Int))
def de (s:List Int) (c:Nat):List Int:=jb s c s.length
def en (s m:List Int) (c:Nat):List Int:=cv (eJ m (s.getD c 0== -1) c (4*s.length)) c s.length
def gP (s m:List Int) (c:Nat) (L:Int):Int:=L+nt m (s.getD c 0== -1) c s.length
end Go.Proofs.YtjpbeacamoijhaaGreatDoor
