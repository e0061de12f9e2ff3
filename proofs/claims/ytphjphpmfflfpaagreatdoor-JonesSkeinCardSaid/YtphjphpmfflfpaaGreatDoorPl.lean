/- Plain functions and facts: labels, cycles, spheres, circles, smoothing. -/
set_option linter.unusedSimpArgs false
set_option linter.unusedVariables false
namespace Go.Proofs.YtphjphpmfflfpaaGreatDoor
def ks (m:List Int) (c p:Int) (s:Nat) (st:List Int×List Int):List Int×List Int:=
 let to:=m.getD (4*c+s).toNat 0/4
 if st.1.getD to.toNat 0<0 then (st.1.set to.toNat p,st.2++[to]) else st
def lb4 (m:List Int) (c p:Int) (st:List Int×List Int):Nat->List Int×List Int
 |0=>st
 |s+1=>ks m c p s (lb4 m c p st s)
def bfs (m:List Int) (p:Int):Nat->List Int->List Int->List Int
 |_,part,[]=>part
 |0,part,_::_=>part
 |n+1,part,c::q=>let st:=lb4 m c p (part,q) 4;bfs m p n st.1 st.2
def y6 (m:List Int) (n c:Nat) (st:List Int×Int):List Int×Int:=
 if 0<=st.1.getD c 0 then st else (bfs m st.2 (2*n+1) (st.1.set c st.2) [(c:Int)],st.2+1)
def bB (m:List Int) (n:Nat):Nat->List Int×Int
 |0=>(List.replicate n (-1),0)
 |c+1=>y6 m n c (bB m n c)
def eH (m:List Int) (n:Nat):List Int×Int:=bB m n n
theorem kl {α:Type} {l:List α} {i:Nat} {a d:α} (h:i<l.length):(l.set i a).getD i d=a:=by simp [h]
theorem j9 {α:Type} {l:List α} {i j:Nat} {a d:α} (h:i≠j):(l.set i a).getD j d=l.getD j d:=by simp [h]
theorem V7 {α:Type} (a b:α) (n k:Nat) (h:k<n):(List.replicate k a++List.replicate (n-k) b).set k a=List.replicate (k+1) a++List.replicate (n-(k+1)) b:=by
 rw [List.set_append_right _ _ (by simp),List.length_replicate,Nat.sub_self];obtain ⟨d,hd⟩: ∃d,n-k=d+1:=⟨n-k-1,by omega⟩;rw [hd,List.replicate_succ,List.set_cons_zero,show n-(k+1)=d by omega,List.replicate_succ',List.append_assoc];rfl
def kr (l:List Int):Nat:=l.countP fun x=>decide (x<0)
theorem HH {l:List Int} {i:Nat} {p:Int} (hi:i<l.length) (hl:l.getD i 0<0) (hp:0<=p):kr (l.set i p)+1=kr l:=by
 unfold kr
 induction l generalizing i with
 |nil=>simp at hi
 |cons x l ih=>
  cases i with
  |zero=>
   simp at hl;simp [List.countP_cons,hl,Int.not_lt.2 hp]
  |succ i=>
   simp only [List.set_cons_succ,List.countP_cons]
   have:=ih (i:=i) (by simpa using hi) (by simpa using hl)
   omega
theorem NK (l:List Int):kr l<=l.length:=List.countP_le_length
def iP (m:List Int) (n:Nat):Prop:=m.length=4*n/\ ∀i,i<4*n->0<=m.getD i 0/\m.getD i 0<4*n
def vr (n:Nat) (q:List Int):Prop:= ∀x∈q,0<=x/\x<n
def qA (n:Nat) (p:Int) (l:List Int):Prop:=l.length=n/\ ∀i,i<n-> -1<=l.getD i 0/\l.getD i 0<=p
theorem Rn {m:List Int} {n:Nat} (hm:iP m n) {c p:Int} (hc:0<=c/\c<n) (hp:0<=p) {s:Nat} (hs:s<4) {st:List Int×List Int} (h1:qA n p st.1) (h2:vr n st.2):
  qA n p (ks m c p s st).1/\vr n (ks m c p s st).2/\2*kr (ks m c p s st).1+(ks m c p s st).2.length<=2*kr st.1+st.2.length/\(ks m c p s st).2.length<=st.2.length+1:=by
 have w5:=hm.2 (4*c+s).toNat (by omega);unfold ks;simp only;have KC:0<=m.getD (4*c+s).toNat 0/4/\m.getD (4*c+s).toNat 0/4<n:=by omega
 generalize m.getD (4*c+s).toNat 0/4=to at*
 split
 ·rename_i n9
  have aA:to.toNat<st.1.length:=by rw [h1.1];omega
  have hn:=HH aA n9 hp;refine ⟨⟨by simp [h1.1],fun i hi=>?_⟩,fun x hx=>?_,?_,by simp⟩
  ·by_cases e:to.toNat=i
   ·subst e;rw [kl aA];omega
   ·rw [j9 e];exact h1.2 i hi
  ·rcases List.mem_append.1 hx with hx|hx
   ·exact h2 x hx
   ·rw [List.mem_singleton.1 hx];exact KC
  ·simp only [List.length_append,List.length_singleton];omega
 ·exact ⟨h1,h2,Nat.le_refl _,by omega⟩
theorem DJ {m:List Int} {n:Nat} (hm:iP m n) {c p:Int} (hc:0<=c/\c<n) (hp:0<=p) {st:List Int×List Int} (h1:qA n p st.1) (h2:vr n st.2): ∀s,s<=4->
  qA n p (lb4 m c p st s).1/\vr n (lb4 m c p st s).2/\2*kr (lb4 m c p st s).1+(lb4 m c p st s).2.length<=2*kr st.1+st.2.length/\(lb4 m c p st s).2.length<=st.2.length+s
 |0,_=>⟨h1,h2,Nat.le_refl _,by simp [lb4]⟩
 |s+1,hs=>by
  obtain ⟨g1,g2,g3,g5⟩:=DJ hm hc hp h1 h2 s (by omega);obtain ⟨k1,k2,k3,k5⟩:=Rn hm hc hp (show s<4 by omega) g1 g2;exact ⟨k1,k2,by simp only [lb4];omega,by simp only [lb4];omega⟩
theorem Gt {m:List Int} {n:Nat} (hm:iP m n) {p:Int} (hp:0<=p): ∀(f:Nat) (part q:List Int),qA n p part->vr n q->qA n p (bfs m p f part q)
 |_,part,[],h,_=>by unfold bfs;exact h
 |0,part,_::_,h,_=>by simpa [bfs] using h
 |f+1,part,c::q,h,hq=>by
  simp only [bfs];obtain ⟨g1,g2,_⟩:=DJ hm (hq c (by simp)) hp (st:=(part,q)) h (fun x hx=>hq x (by simp [hx])) 4 (Nat.le_refl _);exact Gt hm hp f _ _ g1 g2
theorem zZ {m:List Int} {n:Nat} (hm:iP m n): ∀k,k<=n->qA n (bB m n k).2 (bB m n k).1/\0<=(bB m n k).2/\(bB m n k).2<=k
 |0,_=>⟨⟨by simp [bB],fun i hi=>by simp [bB,hi]⟩,by simp [bB],by simp [bB]⟩
 |k+1,hk=>by
  obtain ⟨h1,h2,h3⟩:=zZ hm k (by omega);simp only [bB,y6]
  split
  ·exact ⟨h1,h2,by omega⟩
  ·refine ⟨?_,by omega,by omega⟩
   have:qA n ((bB m n k).2) (bfs m (bB m n k).2 (2*n+1) ((bB m n k).1.set k (bB m n k).2) [(k:Int)]):=by
    refine Gt hm h2 _ _ _ ⟨by simp [h1.1],fun i hi=>?_⟩ (fun x hx=>by simp at hx;omega);have bJ:k<(bB m n k).1.length:=by rw [h1.1];omega
    by_cases e:k=i
    ·subst e;rw [kl bJ];omega
    ·rw [j9 e];exact h1.2 i hi
   exact ⟨this.1,fun i hi=>by have:=this.2 i hi;simp only;omega⟩
def fZ (h b:Int):Int:=h-h % 4+(h % 4+b.tmod 4+4)% 4
theorem IA {h b:Int} {n:Nat} (h0:0<=h) (h1:h<4*n):0<=fZ h b/\fZ h b<4*n:=by
 have: -4<b.tmod 4/\b.tmod 4<4:=⟨Int.lt_tmod_of_pos b (by decide),Int.tmod_lt_of_pos b (by decide)⟩
 unfold fZ;omega
theorem V6 {m:List Int} {c p:Int} {s:Nat} {st:List Int×List Int} {i:Nat} (h:0<=st.1.getD i 0):(ks m c p s st).1.getD i 0=st.1.getD i 0:=by
 unfold ks;simp only
 split
 ·rename_i hn
  by_cases e:(m.getD (4*c+s).toNat 0/4).toNat=i
  ·subst e;omega
  ·simp only;rw [j9 e]
 ·rfl
theorem OD {m:List Int} {c p:Int} {st:List Int×List Int} {i:Nat} (h:0<=st.1.getD i 0): ∀s,(lb4 m c p st s).1.getD i 0=st.1.getD i 0
 |0=>rfl
 |s+1=>by
  have:=OD (m:=m) (c:=c) (p:=p) h s
  simp only [lb4];rw [V6 (by omega),this]
theorem H7 {m:List Int} {p:Int} {i:Nat}: ∀(f:Nat) (part q:List Int),0<=part.getD i 0->(bfs m p f part q).getD i 0=part.getD i 0
 |_,part,[],h=>by unfold bfs;rfl
 |0,part,_::_,h=>by simp [bfs]
 |f+1,part,c::q,h=>by
  simp only [bfs]
  have:=OD (m:=m) (c:=c) (p:=p) (st:=(part,q)) h 4
  rw [H7 f _ _ (by rw [this];exact h),this]
theorem zY {m:List Int} {n:Nat} (hm:iP m n): ∀k,k<=n-> ∀i,i<n->(bB m n k).1.getD i 0<(bB m n k).2/\(i<k->0<=(bB m n k).1.getD i 0)
 |0,_,i,hi=>by simp [bB,hi]
 |k+1,hk,i,hi=>by
  obtain ⟨h1,h2⟩:=zY hm k (by omega) i hi;obtain ⟨g1,g2,g3⟩:=zZ hm k (by omega);simp only [bB,y6]
  split
  ·rename_i h0
   refine ⟨h1,fun Yj=>?_⟩;rcases Nat.lt_or_ge i k with g|g
   ·exact h2 g
   ·rwa [show i=k by omega]
  ·rename_i h0
   have bJ:k<(bB m n k).1.length:=by rw [g1.1];omega
   have hset:qA n (bB m n k).2 ((bB m n k).1.set k (bB m n k).2):=⟨by simp [g1.1],fun i hi=>by
    by_cases e:k=i
    ·subst e;rw [kl bJ];omega
    ·rw [j9 e];exact g1.2 i hi⟩
   have hb:=Gt hm g2 (2*n+1) _ [(k:Int)] hset (fun x hx=>by simp at hx;omega);have Sm:=hb.2 i hi;refine ⟨by simp only;omega,fun Yj=>?_⟩;have zo:0<=((bB m n k).1.set k (bB m n k).2).getD i 0:=by
    by_cases e:k=i
    ·subst e;rw [kl bJ];exact g2
    ·rw [j9 e];exact h2 (by omega)
   simp only;rw [H7 _ _ _ zo];exact zo
theorem Ii {m:List Int} {n:Nat} (hm:iP m n):(eH m n).1.length=n/\0<=(eH m n).2/\(eH m n).2<=n/\ ∀i,i<n->0<=(eH m n).1.getD i 0/\(eH m n).1.getD i 0<(eH m n).2:=by
 obtain ⟨g1,g2,g3⟩:=zZ hm n (Nat.le_refl _);exact ⟨g1.1,g2,g3,fun i hi=>⟨(zY hm n (Nat.le_refl _) i hi).2 hi,(zY hm n (Nat.le_refl _) i hi).1⟩⟩
def fE (part:List Int) (np:Nat):Nat->List Int
 |0=>List.replicate np 0
 |k+1=>let e:=fE part np k;let p:=(part.getD k 0).toNat;e.set p (e.getD p 0-1)
theorem Ee (part:List Int) (np:Nat): ∀k,(fE part np k).length=np/\ ∀i,-(k:Int)<=(fE part np k).getD i 0/\(fE part np k).getD i 0<=0
 |0=>⟨by simp [fE],fun i=>by
   by_cases h:i<np
   ·simp [fE,h]
   ·simp [fE,h]⟩
 |k+1=>by
  obtain ⟨h1,h2⟩:=Ee part np k;refine ⟨by simp [fE,h1],fun i=>?_⟩;simp only [fE];by_cases e:(part.getD k 0).toNat=i
  ·by_cases hl:i<(fE part np k).length
   ·subst e;rw [kl hl];have:=h2 (part.getD k 0).toNat;omega
   ·have:=h2 i;rw [List.set_eq_of_length_le (by omega)];omega
  ·rw [j9 e];have:=h2 i;omega
def mark (m:List Int):Nat->List Bool->Int->List Bool
 |0,s,_=>s
 |f+1,s,g=>if s.getD g.toNat false then s else mark m f (s.set g.toNat true) (fZ (m.getD g.toNat 0) (-1))
def re (m part:List Int) (h:Nat) (st:List Int×List Bool):List Int×List Bool:=
 if st.2.getD h false then st else
  let p:=(part.getD (h/4) 0).toNat
  (st.1.set p (st.1.getD p 0+1),mark m (m.length+1) st.2 h)
def bx (m part:List Int) (np:Nat):Nat->List Int×List Bool
 |0=>(fE part np part.length,List.replicate m.length false)
 |h+1=>re m part h (bx m part np h)
def lr (m:List Int) (n:Nat):Bool:=(bx m (eH m n).1 (eH m n).2.toNat m.length).1.all (· ==2)
def A6 (s:List Bool):Nat:=s.countP fun x=> !x
theorem U4 {l:List Bool} {i:Nat} (hi:i<l.length) (hl:l.getD i false=false):A6 (l.set i true)+1=A6 l:=by
 unfold A6
 induction l generalizing i with
 |nil=>simp at hi
 |cons x l ih=>
  cases i with
  |zero=>
   simp at hl;simp [hl]
  |succ i=>
   simp only [List.set_cons_succ,List.countP_cons]
   have:=ih (i:=i) (by simpa using hi) (by simpa using hl)
   omega
theorem Jy (l:List Bool):A6 l<=l.length:=List.countP_le_length
theorem OC (m:List Int): ∀(f:Nat) (s:List Bool) (g:Int),(mark m f s g).length=s.length
 |0,_,_=>rfl
 |f+1,s,g=>by
  simp only [mark]
  split
  ·rfl
  ·rw [OC m f];simp
theorem yv (m part:List Int) (np:Nat): ∀h,(bx m part np h).1.length=np/\(bx m part np h).2.length=m.length/\ ∀i,-(part.length:Int)<=(bx m part np h).1.getD i 0/\(bx m part np h).1.getD i 0<=h
 |0=>by
  obtain ⟨h1,h2⟩:=Ee part np part.length;exact ⟨h1,by simp [bx],fun i=>by have:=h2 i;simp only [bx];omega⟩
 |h+1=>by
  obtain ⟨h1,h2,h3⟩:=yv m part np h;simp only [bx,re]
  split
  ·exact ⟨h1,h2,fun i=>by have:=h3 i;omega⟩
  ·refine ⟨by simp [h1],by simp only;rw [OC];exact h2,fun i=>?_⟩;simp only;by_cases e:(part.getD (h/4) 0).toNat=i
   ·by_cases hl:i<(bx m part np h).1.length
    ·subst e;rw [kl hl];have:=h3 (part.getD (h/4) 0).toNat;omega
    ·have:=h3 i;rw [List.set_eq_of_length_le (by omega)];omega
   ·rw [j9 e];have:=h3 i;omega
def bV (s:List Int) (h:Int):Bool:=if h % 4=1 then s.getD (h/4).toNat 0==1 else if h % 4=2 then true else if h % 4=3 then s.getD (h/4).toNat 0== -1 else false
def qX (s:List Int) (k:Nat):Prop:= ∀i,i<k->s.getD i 0=1\/s.getD i 0= -1
def tL (s m:List Int) (k:Nat):Prop:= ∀h:Nat,h<k->0<=m.getD h 0/\m.getD h 0<4*s.length/\m.getD h 0≠h/\m.getD (m.getD h 0).toNat 0=h/\bV s h≠bV s (m.getD h 0)
instance (s:List Int) (k:Nat):Decidable (qX s k):=inferInstanceAs (Decidable (∀i,i<k->s.getD i 0=1\/s.getD i 0= -1))
instance (s m:List Int) (k:Nat):Decidable (tL s m k):=inferInstanceAs (Decidable (∀h:Nat,h<k->0<=m.getD h 0/\m.getD h 0<4*s.length/\m.getD h 0≠h/\m.getD (m.getD h 0).toNat 0=h/\bV s h≠bV s (m.getD h 0)))
def sT (s m:List Int) (L:Int):Bool:=decide (s.length<=64/\m.length=4*s.length/\0<=L/\L<=64/\qX s s.length/\tL s m (4*s.length))
def dm (s m:List Int) (L:Int):Bool:=sT s m L&&lr m s.length
theorem ta {s m:List Int} {L:Int} (h: ¬(s.length<=64/\m.length=4*s.length/\0<=L/\L<=64/\qX s s.length/\tL s m (4*s.length))):false=dm s m L:=by
 unfold dm sT;rw [decide_eq_false h];rfl
theorem Xw {s m:List Int} {L:Int} (h:s.length<=64/\m.length=4*s.length/\0<=L/\L<=64/\qX s s.length/\tL s m (4*s.length)):lr m s.length=dm s m L:=by
 unfold dm sT;rw [decide_eq_true h];rfl
theorem Te {s m:List Int} {L:Int}:dm s m L=true↔(s.length<=64/\m.length=4*s.length/\0<=L/\L<=64/\qX s s.length/\tL s m (4*s.length))/\lr m s.length=true:=by
 unfold dm sT;rw [Bool.and_eq_true,decide_eq_true_iff]
theorem P2 {s:List Int} {k:Nat} (h:qX s k) (hx:s.getD k 0=1\/s.getD k 0= -1):qX s (k+1):=fun i hi=>by
 rcases Nat.lt_or_ge i k with g|g
 ·exact h i g
 ·rw [show i=k by omega];exact hx
theorem TU {s m:List Int} {k:Nat} (h:tL s m k) (hx:0<=m.getD k 0/\m.getD k 0<4*s.length/\m.getD k 0≠k/\m.getD (m.getD k 0).toNat 0=k/\bV s k≠bV s (m.getD k 0)):tL s m (k+1):=fun i hi=>by
 rcases Nat.lt_or_ge i k with g|g
 ·exact h i g
 ·rw [show i=k by omega];exact hx
theorem Rw {b:Bool} (h:b=false): ¬b=true:=by simp [h]
theorem Td {l:List Int} {k:Nat} (hk:k<l.length) (h: ¬l.getD k 0=2):l.all (· ==2)=false:=by
 cases ha:l.all (· ==2) with
 |false=>rfl
 |true=>
  have:=List.all_eq_true.1 ha _ (List.getElem_mem hk)
  simp only [beq_iff_eq] at this;simp [hk,this] at h
theorem Xi {l:List Int} (h: ∀i,i<l.length->l.getD i 0=2):l.all (· ==2)=true:=by
 rw [List.all_eq_true];intro x hx;obtain ⟨i,hi,rfl⟩:=List.mem_iff_getElem.1 hx
 have:=h i hi
 simpa [hi] using this
def it (nx:Int->Int):Nat->Int->Int
 |0,x=>x
 |j+1,x=>nx (it nx j x)
def its (nx:Int->Int) (x:Int) (k:Nat):List Int:=(List.range k).map fun j=>it nx j x
theorem OB (nx:Int->Int) (x:Int) (k:Nat):its nx x (k+1)=its nx x k++[it nx k x]:=by simp [its,List.range_succ]
theorem GZ (nx:Int->Int) (x:Int) (k:Nat):(its nx x k).length=k:=by simp [its]
structure qR (nx:Int->Int) (x:Int) (k:Nat):Prop where
 pos:0<k
 back:it nx k x=x
 first: ∀j,0<j->j<k->it nx j x≠x
def jb (seen:List Bool):List Int->List Bool
 |[]=>seen
 |g::r=>jb (seen.set g.toNat true) r
theorem Ih (l:List Int): ∀seen,(jb seen l).length=seen.length:=by
 induction l with
 |nil=>intro s;rfl
 |cons g r ih=>intro s;simp [jb,ih]
theorem IE (a:List Int): ∀(seen:List Bool) (b:List Int),jb seen (a++b)=jb (jb seen a) b:=by
 induction a with
 |nil=>intro s b;rfl
 |cons g r ih=>intro s b;simp [jb,ih]
theorem Ig (l:List Int): ∀(seen:List Bool) (i:Nat),(∀g∈l,0<=g/\g.toNat<seen.length)->(jb seen l).getD i false=(seen.getD i false||decide ((i:Int)∈l)):=by
 induction l with
 |nil=>intro s i _;simp [jb]
 |cons g r ih=>
  intro s i h;have hg:=h g (by simp);rw [jb,ih _ _ (fun x hx=>by simpa using h x (by simp [hx]))];by_cases e:g.toNat=i
  ·subst e;rw [kl hg.2]
   have:((g.toNat:Nat):Int)=g:=by omega
   simp [this]
  ·rw [j9 e]
   have:(i:Int)≠g:=by omega
   simp [this]
def lR (want:Int->Bool) (bM:Int->List Int) (h:Nat) (st:List (List Int)×List Bool):List (List Int)×List Bool:=
 if st.2.getD h false|| !want h then st else (st.1++[bM h],jb st.2 (bM h))
def bh (N:Nat) (want:Int->Bool) (bM:Int->List Int):Nat->List (List Int)×List Bool
 |0=>([],List.replicate N false)
 |h+1=>lR want bM h (bh N want bM h)
theorem H6 (N:Nat) (want:Int->Bool) (bM:Int->List Int): ∀h,(bh N want bM h).2.length=N/\(bh N want bM h).1.length<=h
 |0=>by simp [bh]
 |h+1=>by
  obtain ⟨h1,h2⟩:=H6 N want bM h;simp only [bh,lR]
  split
  ·exact ⟨h1,by omega⟩
  ·exact ⟨by simp only;rw [Ih];exact h1,by simp;omega⟩
theorem Gs: ∀(N:Nat) (f:Nat->Nat),(∀i,i<=N->f i<N)-> ∃i j,i<j/\j<=N/\f i=f j
 |0,f,h=>absurd (h 0 (Nat.le_refl _)) (by omega)
 |N+1,f,h=>by
  by_cases hx: ∃i,i<=N/\f i=f (N+1)
  ·obtain ⟨i,hi,e⟩:=hx;exact ⟨i,N+1,by omega,by omega,e⟩
  ·have aw: ∀i,i<=N->f i≠f (N+1):=fun i hi e=>hx ⟨i,hi,e⟩;have hg: ∀i,i<=N->(if f i=N then f (N+1) else f i)<N:=by
    intro i hi;have h1:=h i (by omega);have h2:=h (N+1) (by omega);have h3:=aw i hi
    split<;>omega
   obtain ⟨i,j,fC,hj,e⟩:=Gs N (fun i=>if f i=N then f (N+1) else f i) hg;refine ⟨i,j,fC,by omega,?_⟩;have h1:=aw i (by omega);have h2:=aw j hj
   split at e<;>split at e<;>omega
theorem DI {p:Nat->Prop}: ∀n,p n-> ∃k,k<=n/\p k/\ ∀m,m<k-> ¬p m:=by
 intro n
 induction n using Nat.strongRecOn with
 |_ n ih=>
  intro hn;by_cases hx: ∃m,m<n/\p m
  ·obtain ⟨m,hm,hp⟩:=hx;obtain ⟨k,h1,h2,h3⟩:=ih m hm hp;exact ⟨k,by omega,h2,h3⟩
  ·exact ⟨n,Nat.le_refl _,hn,fun m hm hp=>hx ⟨m,hm,hp⟩⟩
theorem wu (nx:Int->Int) (i j:Nat) (x:Int):it nx (i+j) x=it nx i (it nx j x):=by
 induction i with
 |zero=>simp [it]
 |succ i ih=>rw [Nat.add_right_comm];simp [it,ih]
structure Perm (nx:Int->Int) (N:Nat) (S:Int->Prop):Prop where
 bP: ∀x,S x->0<=x/\x<N
 closed: ∀x,S x->S (nx x)
 inj: ∀x y,S x->S y->nx x=nx y->x=y
section
variable {nx:Int->Int} {N:Nat} {S:Int->Prop}
theorem Perm.it (h:Perm nx N S) {x:Int} (hx:S x): ∀j,S (it nx j x)
 |0=>hx
 |j+1=>h.closed _ (h.it hx j)
theorem Perm.cancel (h:Perm nx N S) {x:Int} (hx:S x): ∀i d,Proofs.YtphjphpmfflfpaaGreatDoor.it nx (i+d) x=Proofs.YtphjphpmfflfpaaGreatDoor.it nx i x->Proofs.YtphjphpmfflfpaaGreatDoor.it nx d x=x
 |0,d,e=>by simpa [Proofs.YtphjphpmfflfpaaGreatDoor.it] using e
 |i+1,d,e=>by
  rw [Nat.add_right_comm] at e;exact h.cancel hx i d (h.inj _ _ (h.it hx _) (h.it hx _) e)
theorem Perm.E4 (h:Perm nx N S) {x:Int} (hx:S x): ∃k,k<=N/\qR nx x k:=by
 obtain ⟨i,j,fC,hj,e⟩:=Gs N (fun j=>(Proofs.YtphjphpmfflfpaaGreatDoor.it nx j x).toNat) (fun i _=>by have:=h.bP _ (h.it hx i);omega);have r1:=h.bP _ (h.it hx i);have r2:=h.bP _ (h.it hx j);have e':Proofs.YtphjphpmfflfpaaGreatDoor.it nx (i+(j-i)) x=Proofs.YtphjphpmfflfpaaGreatDoor.it nx i x:=by rw [show i+(j-i)=j by omega];omega
 have hd:=h.cancel hx i (j-i) e';obtain ⟨k,h1,⟨h2,h3⟩,h4⟩:=DI (p:=fun d=>0<d/\Proofs.YtphjphpmfflfpaaGreatDoor.it nx d x=x) (j-i) ⟨by omega,hd⟩;exact ⟨k,by omega,h2,h3,fun m hm aA e=>h4 m aA ⟨hm,e⟩⟩
theorem Rm {x:Int} {k:Nat} (h:qR nx x k): ∀j,it nx j x=it nx (j % k) x:=by
 intro j
 induction j using Nat.strongRecOn with
 |_ j ih=>
  rcases Nat.lt_or_ge j k with g|g
  ·rw [Nat.mod_eq_of_lt g]
  ·have h0:=h.pos
   have:it nx j x=it nx (j-k) x:=by
    conv=>lhs;rw [show j=(j-k)+k by omega]
    rw [wu,h.back]
   rw [this,ih (j-k) (by omega),←Nat.mod_eq_sub_mod g]
theorem Ed {x y:Int} {k:Nat}:y∈its nx x k↔ ∃j,j<k/\it nx j x=y:=by simp [its]
theorem PN {x y:Int} {k:Nat} (h:qR nx x k):y∈its nx x k↔ ∃j,it nx j x=y:=by
 rw [Ed];constructor
 ·rintro ⟨j,_,e⟩;exact ⟨j,e⟩
 ·rintro ⟨j,e⟩;exact ⟨j % k,Nat.mod_lt _ h.pos,by rw [←Rm h,e]⟩
theorem Tc {x y:Int} {k:Nat} (h:qR nx x k) (hy: ∃j,it nx j x=y): ∃j,it nx j y=x:=by
 obtain ⟨j,e⟩:=hy;have h0:=h.pos;refine ⟨k-j % k,?_⟩;have aA:=Nat.mod_lt j h0;rw [←e,Rm h j,←wu,show k-j % k+j % k=k by omega,h.back]
theorem TF {x y z:Int} (h1: ∃j,it nx j x=y) (h2: ∃j,it nx j y=z): ∃j,it nx j x=z:=by
 obtain ⟨i,rfl⟩:=h1;obtain ⟨j,rfl⟩:=h2;exact ⟨j+i,wu nx j i x⟩
theorem Xh (h:Perm nx N S) {x:Int} {k:Nat} (hx:S x) (hp:qR nx x k):(its nx x k).Nodup:=by
 unfold its;rw [List.nodup_iff_pairwise_ne,List.pairwise_map];refine List.Pairwise.imp_of_mem ?_ (List.pairwise_lt_range);intro a b ha hb aA e;have hb:=List.mem_range.1 hb
 have:=h.cancel hx a (b-a) (by rw [show a+(b-a)=b by omega];exact e.symm)
 exact hp.first (b-a) (by omega) (by omega) this
end
def Gr (x:Int) (l:List Int):Bool:=l.all fun y=>decide (x<=y)
theorem Is {x:Int} {l:List Int}:Gr x l=true↔ ∀y∈l,x<=y:=by simp [Gr]
def nb (m:List Int) (a s:Nat):Nat:=(m.getD (4*a+s) 0/4).toNat
inductive bp (m:List Int):Nat->Nat->Prop
 |refl (a:Nat):bp m a a
 |step {a b:Nat} (s:Nat) (hs:s<4) (h:bp m a b):bp m a (nb m b s)
structure dk (m:List Int) (n:Nat):Prop where
 ok:iP m n
 inv: ∀h:Nat,h<4*n->m.getD (m.getD h 0).toNat 0=h
section
variable {m:List Int} {n:Nat}
theorem bp.trans {a b c:Nat} (h1:bp m a b) (h2:bp m b c):bp m a c:=by
 induction h2 with
 |refl=>exact h1
 |step s hs _ ih=>exact .step s hs ih
theorem dk.iK (hp:dk m n) {a s:Nat} (ha:a<n) (hs:s<4):nb m a s<n:=by
 have:=hp.ok.2 (4*a+s) (by omega);unfold nb;omega
theorem dk.back (hp:dk m n) {a s:Nat} (ha:a<n) (hs:s<4): ∃t,t<4/\nb m (nb m a s) t=a:=by
 have h1:=hp.ok.2 (4*a+s) (by omega);have h2:=hp.inv (4*a+s) (by omega);refine ⟨(m.getD (4*a+s) 0 % 4).toNat,by omega,?_⟩;unfold nb;rw [show 4*(m.getD (4*a+s) 0/4).toNat+(m.getD (4*a+s) 0 % 4).toNat=(m.getD (4*a+s) 0).toNat by omega,h2];omega
theorem bp.lt (hp:dk m n) {a b:Nat} (h:bp m a b) (ha:a<n):b<n:=by
 induction h with
 |refl=>exact ha
 |step s hs _ ih=>exact hp.iK ih hs
theorem bp.symm (hp:dk m n) {a b:Nat} (h:bp m a b) (ha:a<n):bp m b a:=by
 induction h with
 |refl=>exact .refl _
 | @step b s hs h ih=>
   obtain ⟨t,ht,e⟩:=hp.back (h.lt hp ha) hs;have h1:=bp.step t ht (bp.refl (m:=m) (nb m b s));rw [e] at h1;exact h1.trans ih
theorem bp.closed (hp:dk m n) {S:Nat->Prop} (hc: ∀a s,a<n->s<4->S a->S (nb m a s)) {a b:Nat} (h:bp m a b) (ha:a<n) (hS:S a):S b:=by
 induction h with
 |refl=>exact hS
 |step s hs h ih=>exact hc _ s (h.lt hp ha) hs ih
structure BJ (m:List Int) (n:Nat) (p:Int) (c:Nat) (part q:List Int) (at':Nat) (s:Nat):Prop where
 pok:qA n p part
 qok:vr n q
 old: ∀a,a<n->0<=part.getD a 0->part.getD a 0≠p-> ∀s,s<4->part.getD (nb m a s) 0=part.getD a 0
 cur: ∀a,a<n->part.getD a 0=p->(a:Int)∉q->a≠at'-> ∀s,s<4->part.getD (nb m a s) 0=p
 con: ∀a,a<n->part.getD a 0=p->bp m c a
 que: ∀x∈q,part.getD x.toNat 0=p
 hd:at'<n->part.getD at' 0=p/\ ∀s',s'<s->part.getD (nb m at' s') 0=p
theorem BJ.one (hp:dk m n) {p:Int} (h0:0<=p) {c a s:Nat} {st:List Int×List Int} (h:BJ m n p c st.1 st.2 a s) (ha:a<n) (hs:s<4):BJ m n p c (ks m a p s st).1 (ks m a p s st).2 a (s+1):=by
 have aA:=hp.iK ha hs;have ct:=Rn hp.ok (c:=(a:Int)) (p:=p) ⟨by omega,by omega⟩ h0 hs h.pok h.qok;obtain ⟨zA,xC⟩:=h.hd ha;have e0:m.getD (4*(a:Int)+s).toNat 0/4=(nb m a s:Int):=by
  have:=hp.ok.2 (4*a+s) (by omega)
  unfold nb;rw [show (4*(a:Int)+s).toNat=4*a+s by omega];omega
 have nL:=h.pok.1;by_cases hn:st.1.getD (nb m a s) 0<0
 ·have e:ks m a p s st=(st.1.set (nb m a s) p,st.2++[(nb m a s:Int)]):=by
   unfold ks;simp only;rw [e0];simp only [Int.toNat_natCast];rw [if_pos hn]
  rw [e] at ct⊢;have hg: ∀b,(st.1.set (nb m a s) p).getD b 0=if b=nb m a s then p else st.1.getD b 0:=by
   intro b;by_cases eb:nb m a s=b
   ·subst eb;rw [if_pos rfl,kl (by omega)]
   ·rw [j9 eb,if_neg (Ne.symm eb)]
  refine ⟨ct.1,ct.2.1,?_,?_,?_,?_,?_⟩
  ·intro b hb h1 h2 t ht;simp only [hg] at h1 h2⊢;by_cases eb:b=nb m a s
   ·rw [if_pos eb] at h2;omega
   ·rw [if_neg eb] at h1 h2⊢;have h3:=h.old b hb h1 h2 t ht;rw [if_neg ?_,h3];intro e';rw [e'] at h3;omega
  ·intro b hb h1 h2 h3 t ht;simp only [hg] at h1⊢;have eb:b≠nb m a s:=fun e'=>h2 (by simp [e']);rw [if_neg eb] at h1
   have:=h.cur b hb h1 (fun hm=>h2 (by simp [hm])) h3 t ht
   split
   ·rfl
   ·exact this
  ·intro b hb h1;simp only [hg] at h1;by_cases eb:b=nb m a s
   ·subst eb;exact .step s hs (h.con a ha zA)
   ·rw [if_neg eb] at h1;exact h.con b hb h1
  ·intro x hx;rcases List.mem_append.1 hx with hx|hx
   ·have:=h.que x hx
    simp only [hg];split
    ·rfl
    ·exact this
   ·rw [List.mem_singleton.1 hx];simp only [hg,Int.toNat_natCast,if_pos]
  ·intro _;simp only [hg];refine ⟨?_,fun s' bD=>?_⟩
   ·split
    ·rfl
    ·exact zA
   ·rcases Nat.lt_or_ge s' s with g|g
    ·split
     ·rfl
     ·exact xC s' g
    ·rw [show s'=s by omega,if_pos rfl]
 ·have e:ks m a p s st=st:=by
   unfold ks;simp only;rw [e0];simp only [Int.toNat_natCast];rw [if_neg hn]
  rw [e];refine ⟨h.pok,h.qok,h.old,h.cur,h.con,h.que,fun _=>⟨zA,fun s' bD=>?_⟩⟩;rcases Nat.lt_or_ge s' s with g|g
  ·exact xC s' g
  ·obtain rfl:s'=s:=by omega
   by_cases ep:st.1.getD (nb m a s') 0=p
   ·exact ep
   ·obtain ⟨t,ht,eb⟩:=hp.back ha hs
    have:=h.old (nb m a s') aA (by omega) ep t ht
    rw [eb] at this;omega
theorem BJ.four (hp:dk m n) {p:Int} (h0:0<=p) {c a:Nat} {st:List Int×List Int} (h:BJ m n p c st.1 st.2 a 0) (ha:a<n): ∀s,s<=4->BJ m n p c (lb4 m a p st s).1 (lb4 m a p st s).2 a s
 |0,_=>h
 |s+1,hs=>(BJ.four hp h0 h ha s (by omega)).one hp h0 ha (by omega)
theorem Rl (hp:dk m n) {p:Int} (h0:0<=p) {c:Nat}: ∀(f:Nat) (part q:List Int),BJ m n p c part q n 0->2*kr part+q.length<=f->BJ m n p c (bfs m p f part q) [] n 0
 |f,part,[],h,_=>by unfold bfs;exact h
 |0,part,_::_,_,hf=>by simp at hf
 |f+1,part,x::q,h,hf=>by
  obtain ⟨kW,zc⟩:=h.qok x (by simp);have RF:=h.que x (by simp);obtain ⟨a,rfl⟩: ∃a:Nat,x=a:=⟨x.toNat,by omega⟩;have ha:a<n:=by omega
  simp only [Int.toNat_natCast] at RF;have h1:BJ m n p c (part,q).1 (part,q).2 a 0:=⟨h.pok,fun y hy=>h.qok y (by simp [hy]),h.old,fun b hb Lx Lw aw s hs=>h.cur b hb Lx (by simp only [List.mem_cons,not_or];exact ⟨by omega,Lw⟩) (by omega) s hs,h.con,fun y hy=>h.que y (by simp [hy]),fun _=>⟨RF,fun s' bD=>by omega⟩⟩;have h2:=BJ.four hp h0 h1 ha 4 (Nat.le_refl _)
  obtain ⟨_,_,h3,_⟩:=DJ hp.ok (c:=(a:Int)) (p:=p) ⟨by omega,by omega⟩ h0 (st:=(part,q)) h1.pok h1.qok 4 (Nat.le_refl _);simp only [bfs];simp only [List.length_cons] at hf;simp only at h3;refine Rl hp h0 f _ _ ⟨h2.pok,h2.qok,h2.old,fun b hb Lx Lw _ s hs=>?_,h2.con,h2.que,fun hh=>by omega⟩ (by omega);by_cases e:b=a
  ·subst e;exact (h2.hd ha).2 s hs
  ·exact h2.cur b hb Lx Lw e s hs
theorem Jx (m:List Int) (c p:Int) (s:Nat) (st:List Int×List Int) (i:Nat):(ks m c p s st).1.getD i 0=st.1.getD i 0\/(ks m c p s st).1.getD i 0=p:=by
 unfold ks;simp only
 split
 ·by_cases e:(m.getD (4*c+s).toNat 0/4).toNat=i
  ·subst e;by_cases hl:(m.getD (4*c+s).toNat 0/4).toNat<st.1.length
   ·right;simp only;rw [kl hl]
   ·left;simp only;rw [List.set_eq_of_length_le (by omega)]
  ·left;simp only;rw [j9 e]
 ·exact .inl rfl
theorem Rk (m:List Int) (c p:Int) (st:List Int×List Int) (i:Nat): ∀s,(lb4 m c p st s).1.getD i 0=st.1.getD i 0\/(lb4 m c p st s).1.getD i 0=p
 |0=> .inl rfl
 |s+1=>by
  rcases Jx m c p s (lb4 m c p st s) i with h|h
  ·rcases Rk m c p st i s with g|g
   ·exact .inl (by simp only [lb4];rw [h,g])
   ·exact .inr (by simp only [lb4];rw [h,g])
  ·exact .inr h
theorem Rj (m:List Int) (p:Int) (i:Nat): ∀(f:Nat) (part q:List Int),(bfs m p f part q).getD i 0=part.getD i 0\/(bfs m p f part q).getD i 0=p
 |_,part,[]=>by unfold bfs;exact .inl rfl
 |0,part,_::_=>by simp [bfs]
 |f+1,part,c::q=>by
  simp only [bfs];rcases Rj m p i f (lb4 m c p (part,q) 4).1 (lb4 m c p (part,q) 4).2 with h|h
  ·rcases Rk m c p (part,q) i 4 with g|g
   ·exact .inl (h.trans g)
   ·exact .inr (h.trans g)
  ·exact .inr h
structure LI (m:List Int) (n:Nat) (st:List Int×Int):Prop where
 clo: ∀a,a<n->0<=st.1.getD a 0-> ∀s,s<4->st.1.getD (nb m a s) 0=st.1.getD a 0
 con: ∀a b,a<n->b<n->0<=st.1.getD a 0->st.1.getD a 0=st.1.getD b 0->bp m a b
 att: ∀p:Nat,(p:Int)<st.2-> ∃a,a<n/\st.1.getD a 0=p
theorem Gq (hp:dk m n): ∀k,k<=n->LI m n (bB m n k)
 |0,_=>⟨fun a ha h=>by simp [bB,ha] at h,fun a b ha _ h=>by simp [bB,ha] at h,fun p h=>by simp [bB] at h;omega⟩
 |k+1,hk=>by
  have ih:=Gq hp k (by omega);obtain ⟨g1,g2,g3⟩:=zZ hp.ok k (by omega);have SL:=fun i hi=>(zY hp.ok k (by omega) i hi).1;simp only [bB,y6]
  split
  ·exact ih
  ·rename_i n9
   have n9:(bB m n k).1.getD k 0<0:=by omega
   generalize bB m n k=st at*;obtain ⟨part,p⟩:=st;simp only at*;have jK:=g1.1;have hset: ∀b,(part.set k p).getD b 0=if b=k then p else part.getD b 0:=by
    intro b;by_cases eb:k=b
    ·subst eb;rw [if_pos rfl,kl (by omega)]
    ·rw [j9 eb,if_neg (Ne.symm eb)]
   have pc:BJ m n p k (part.set k p) [(k:Int)] n 0:=by
    refine ⟨⟨by simp [jK],fun i hi=>by rw [hset];have:=g1.2 i hi;split<;>omega⟩,fun x hx=>by simp at hx;omega,?_,?_,?_,fun x hx=>by simp at hx;subst hx;simp only [Int.toNat_natCast];rw [hset,if_pos rfl],fun hh=>by omega⟩
    ·intro a ha h1 h2 s hs;simp only [hset] at h1 h2⊢;by_cases e:a=k
     ·rw [if_pos e] at h2;omega
     ·rw [if_neg e] at h1 h2⊢
      have:part.getD (nb m a s) 0=part.getD a 0:=ih.clo a ha h1 s hs
      rw [if_neg ?_,this];intro e';rw [e'] at this;omega
    ·intro a ha h1 h2 _ s hs;simp only [hset] at h1;by_cases e:a=k
     ·subst e;simp at h2
     ·rw [if_neg e] at h1;have:=SL a ha;omega
    ·intro a ha h1;simp only [hset] at h1;by_cases e:a=k
     ·subst e;exact .refl _
     ·rw [if_neg e] at h1;have:=SL a ha;omega
   have Fl:=HH (i:=k) (p:=p) (by omega) n9 g2;have uq:=NK part;have hb:=Rl hp g2 (2*n+1) _ _ pc (by simp only [List.length_singleton];omega);have vO:=fun i=>H7 (m:=m) (p:=p) (i:=i) (2*n+1) (part.set k p) [(k:Int)];have gN:(bfs m p (2*n+1) (part.set k p) [(k:Int)]).getD k 0=p:=by
    rw [vO k (by rw [hset,if_pos rfl];exact g2),hset,if_pos rfl]
   have nI:=fun i=>Rj m p i (2*n+1) (part.set k p) [(k:Int)];generalize bfs m p (2*n+1) (part.set k p) [(k:Int)]=res at*;have hold: ∀a,a<n->0<=part.getD a 0->res.getD a 0=part.getD a 0:=by
    intro a ha h1;have e:a≠k:=fun e=>by subst e;omega
    have h2:=vO a;rw [hset,if_neg e] at h2;exact h2 h1
   have hnew: ∀a,a<n->0<=res.getD a 0->res.getD a 0≠p->0<=part.getD a 0:=by
    intro a ha h1 h2;have h3:=nI a;rw [hset] at h3;rcases h3 with h3|h3
    ·split at h3
     ·omega
     ·omega
    ·omega
   have c1: ∀a,a<n->0<=res.getD a 0-> ∀s,s<4->res.getD (nb m a s) 0=res.getD a 0:=fun a ha h1 s hs=>by
    by_cases e:res.getD a 0=p
    ·rw [e];exact hb.cur a ha e (by simp) (by omega) s hs
    ·exact hb.old a ha h1 e s hs
   have c2: ∀a b,a<n->b<n->0<=res.getD a 0->res.getD a 0=res.getD b 0->bp m a b:=fun a b ha FE h1 h2=>by
    by_cases e:res.getD a 0=p
    ·exact (bp.symm hp (hb.con a ha e) (by omega)).trans (hb.con b FE (by omega))
    ·have eZ:=hnew a ha h1 e;have pY:=hnew b FE (by omega) (by omega);exact ih.con a b ha FE eZ (by show part.getD a 0=part.getD b 0;rw [←hold a ha eZ,←hold b FE pY];exact h2)
   have c3: ∀q:Nat,(q:Int)<p+1-> ∃a,a<n/\res.getD a 0=q:=fun q hq=>by
    rcases Int.lt_or_le q p with g|g
    ·obtain ⟨a,ha,e⟩:=ih.att q g;have e:part.getD a 0=q:=e;exact ⟨a,ha,by rw [hold a ha (by omega),e]⟩
    ·exact ⟨k,by omega,by rw [gN];omega⟩
   exact ⟨c1,c2,c3⟩
theorem Pz (hp:dk m n) {a b:Nat} (ha:a<n) (hb:b<n):(eH m n).1.getD a 0=(eH m n).1.getD b 0↔bp m a b:=by
 have h:=Gq hp n (Nat.le_refl _);have h0:=fun i hi=>(zY hp.ok n (Nat.le_refl _) i hi).2 hi;constructor
 ·exact fun e=>h.con a b ha hb (h0 a ha) e
 ·intro hc;refine (bp.closed hp (S:=fun x=>x<n/\(eH m n).1.getD x 0=(eH m n).1.getD a 0) ?_ hc ha ⟨ha,rfl⟩).2.symm;intro x s hx hs ⟨_,e⟩;exact ⟨hp.iK hx hs,by rw [←e];exact h.clo x hx (h0 x hx) s hs⟩
theorem Tb (hp:dk m n) {p:Nat} (h:(p:Int)<(eH m n).2): ∃a,a<n/\(eH m n).1.getD a 0=p:=(Gq hp n (Nat.le_refl _)).att p h
def rj (m:List Int) (h:Nat) (l:List Int):List Int:=(l.set (h/4) (min (l.getD (h/4) 0) (l.getD (m.getD h 0/4).toNat 0))).set (m.getD h 0/4).toNat (min (l.getD (h/4) 0) (l.getD (m.getD h 0/4).toNat 0))
def yY (m l:List Int):Nat->List Int
 |0=>l
 |h+1=>rj m h (yY m l h)
def cF (m:List Int) (n:Nat):Nat->List Int
 |0=>(List.range n).map fun (i:Nat)=>(i:Int)
 |k+1=>yY m (cF m n k) (4*n)
def RI (m:List Int) (n:Nat) (l:List Int):Prop:=l.length=n/\ ∀c,c<n->0<=l.getD c 0/\l.getD c 0<=c/\bp m c (l.getD c 0).toNat
theorem NJ (hp:dk m n) {l:List Int} (hl:l.length=n) {h:Nat} (hh:h<4*n) (c:Nat):(rj m h l).getD c 0=if c=h/4\/c=nb m (h/4) (h % 4) then min (l.getD (h/4) 0) (l.getD (nb m (h/4) (h % 4)) 0) else l.getD c 0:=by
 have e:(m.getD h 0/4).toNat=nb m (h/4) (h % 4):=by unfold nb;rw [show 4*(h/4)+h % 4=h by omega]
 have aA:=hp.iK (a:=h/4) (s:=h % 4) (by omega) (by omega);unfold rj;rw [e];by_cases e1:nb m (h/4) (h % 4)=c
 ·subst e1;rw [kl (by simp;omega),if_pos (.inr rfl)]
 ·rw [j9 e1];by_cases e2:h/4=c
  ·subst e2;rw [kl (by omega),if_pos (.inl rfl)]
  ·rw [j9 e2,if_neg (by omega)]
theorem U3 (l:List Int) (h:Nat):(rj m h l).length=l.length:=by simp [rj]
theorem Ri (hp:dk m n) {l:List Int} (hl:RI m n l) {h:Nat} (hh:h<4*n):RI m n (rj m h l)/\ ∀c,c<n->(rj m h l).getD c 0<=l.getD c 0:=by
 have aA:=hp.iK (a:=h/4) (s:=h % 4) (by omega) (by omega);have h1:=hl.2 (h/4) (by omega);have h2:=hl.2 _ aA;have hc:bp m (h/4) (nb m (h/4) (h % 4)):= .step _ (by omega) (.refl _);have uH:=hc.symm hp (by omega);have key: ∀c,c<n->(0<=(rj m h l).getD c 0/\(rj m h l).getD c 0<=c/\bp m c ((rj m h l).getD c 0).toNat)/\(rj m h l).getD c 0<=l.getD c 0:=by
  intro c Sk;rw [NJ hp hl.1 hh];by_cases e:c=h/4\/c=nb m (h/4) (h % 4)
  ·rw [if_pos e];rw [Int.min_def]
   split
   ·rcases e with e|e
    ·subst e;exact ⟨⟨h1.1,h1.2.1,h1.2.2⟩,Int.le_refl _⟩
    ·subst e;exact ⟨⟨h1.1,by omega,uH.trans h1.2.2⟩,by omega⟩
   ·rcases e with e|e
    ·subst e;exact ⟨⟨h2.1,by omega,hc.trans h2.2.2⟩,by omega⟩
    ·subst e;exact ⟨⟨h2.1,h2.2.1,h2.2.2⟩,Int.le_refl _⟩
  ·rw [if_neg e];exact ⟨hl.2 c Sk,Int.le_refl _⟩
 exact ⟨⟨by rw [U3];exact hl.1,fun c hc=>(key c hc).1⟩,fun c hc=>(key c hc).2⟩
theorem DH (hp:dk m n) {l:List Int} (hl:RI m n l): ∀h,h<=4*n->RI m n (yY m l h)/\ ∀c,c<n->(yY m l h).getD c 0<=l.getD c 0
 |0,_=>⟨hl,fun c _=>Int.le_refl _⟩
 |h+1,hh=>by
  obtain ⟨h1,h2⟩:=DH hp hl h (by omega);obtain ⟨h3,h4⟩:=Ri hp h1 (h:=h) (by omega);exact ⟨h3,fun c hc=>Int.le_trans (h4 c hc) (h2 c hc)⟩
theorem Rh (hp:dk m n) {l:List Int} (hl:RI m n l): ∀h,h<=4*n-> ∀c s,4*c+s<h->s<4->(yY m l h).getD (nb m c s) 0<=l.getD c 0
 |0,_,c,s,eh,_=>by omega
 |h+1,hh,c,s,eh,hs=>by
  obtain ⟨h1,h2⟩:=DH hp hl h (by omega);obtain ⟨h3,h4⟩:=Ri hp h1 (h:=h) (by omega);rcases Nat.lt_or_ge (4*c+s) h with q|q
  ·exact Int.le_trans (h4 _ (hp.iK (by omega) hs)) (Rh hp hl h (by omega) c s q hs)
  ·have e1:h/4=c:=by omega
   have e2:h % 4=s:=by omega
   simp only [yY];rw [NJ hp h1.1 (by omega),e1,e2,if_pos (.inr rfl)]
   have:=h2 c (by omega)
   omega
theorem wq (hp:dk m n): ∀k,RI m n (cF m n k)
 |0=>⟨by simp [cF],fun c hc=>by simp [cF,hc];exact .refl _⟩
 |k+1=>(DH hp (wq hp k) (4*n) (Nat.le_refl _)).1
theorem TT {p q:Nat->Bool} (l:List Nat) (h: ∀x∈l,p x=true->q x=true):l.countP p<=l.countP q:=by
 induction l with
 |nil=>simp
 |cons x l ih=>
  have:=ih (fun y hy=>h y (by simp [hy]))
  have hx:=h x (by simp);simp only [List.countP_cons];cases tj:p x<;>cases hqx:q x<;>simp_all<;>omega
theorem P1 {p q:Nat->Bool} (l:List Nat) (h: ∀x∈l,p x=true->q x=true) {y:Nat} (hy:y∈l) (h1:p y=false) (h2:q y=true):l.countP p<l.countP q:=by
 induction l with
 |nil=>simp at hy
 |cons x l ih=>
  have h3:=TT l (fun y hy=>h y (by simp [hy]));have hx:=h x (by simp);simp only [List.countP_cons];rcases List.mem_cons.1 hy with e|e
  ·subst e;simp [h1,h2];omega
  ·have:=ih (fun y hy=>h y (by simp [hy])) e
   cases tj:p x<;>cases hqx:q x<;>simp_all<;>omega
theorem Xg (hp:dk m n) {u:Nat} (hu:u<n) (rS: ∀b,bp m u b->u<=b) {b:Nat} (hb:bp m u b):(cF m n n).getD b 0=u:=by
 have Cy: ∀k c,bp m u c->(u:Int)<=(cF m n k).getD c 0:=fun k c hc=>by
  have hr:=(wq hp k).2 c (hc.lt hp hu)
  have:=rS _ (hc.trans hr.2.2);omega
 have vI: ∀k,(cF m n k).getD u 0=u:=fun k=>by
  have hr:=(wq hp k).2 u hu
  have:=Cy k u (.refl _);omega
 have gL: ∀k c,c<n->(cF m n (k+1)).getD c 0<=(cF m n k).getD c 0:=fun k c hc=>(DH hp (wq hp k) (4*n) (Nat.le_refl _)).2 c hc;have qG: ∀k c s,c<n->s<4->(cF m n (k+1)).getD (nb m c s) 0<=(cF m n k).getD c 0:=fun k c s hc hs=>Rh hp (wq hp k) (4*n) (Nat.le_refl _) c s (by omega) hs;have dr: ∀k c,c<n->(cF m n k).getD c 0=u->bp m u c:=fun k c hc e=>by
  have hr:=(wq hp k).2 c hc;have h1:=hr.2.2;rw [e] at h1;exact (by simpa using h1:bp m c u).symm hp hc
 have key: ∀k,(∀c,bp m u c->(cF m n k).getD c 0=u)\/k+1<=(List.range n).countP (fun c=>decide ((cF m n k).getD c 0=u)):=by
  intro k
  induction k with
  |zero=>
   right;exact List.countP_pos_iff.2 ⟨u,List.mem_range.2 hu,by simp only [vI 0,decide_true]⟩
  |succ k ih=>
   rcases ih with ih|ih
   ·left;intro c hc;have h1:=gL k c (hc.lt hp hu);have h2:=Cy (k+1) c hc;rw [ih c hc] at h1;omega
   ·by_cases bC: ∀c s,c<n->s<4->(cF m n k).getD c 0=u->(cF m n k).getD (nb m c s) 0=u
    ·left;intro c hc;have h0:=(bp.closed hp (S:=fun c=>c<n/\(cF m n k).getD c 0=u) (fun a s ha hs h=>⟨hp.iK ha hs,bC a s ha hs h.2⟩) hc hu ⟨hu,vI k⟩).2;have h1:=gL k c (hc.lt hp hu);have h2:=Cy (k+1) c hc;rw [h0] at h1;omega
    ·right;have hex: ∃c s,c<n/\s<4/\(cF m n k).getD c 0=u/\(cF m n k).getD (nb m c s) 0≠u:=by
      apply Classical.byContradiction;intro aw;exact bC fun c s hc hs e=>Classical.byContradiction fun e'=>aw ⟨c,s,hc,hs,e,e'⟩
     obtain ⟨c,s,hc,hs,e1,e2⟩:=hex;have Yu:=dr k c hc e1;have aA:=hp.iK hc hs;have h3:(cF m n (k+1)).getD (nb m c s) 0=u:=by
      have h1:=qG k c s hc hs;have h2:=Cy (k+1) (nb m c s) (.step s hs Yu);omega
     have:=P1 (p:=fun c=>decide ((cF m n k).getD c 0=u)) (q:=fun c=>decide ((cF m n (k+1)).getD c 0=u)) (List.range n) (fun x hx tj=>by
      have hx:=List.mem_range.1 hx;have e:=of_decide_eq_true tj;have h1:=gL k x hx;have h2:=Cy (k+1) x (dr k x hx e);exact decide_eq_true (by omega)) (List.mem_range.2 aA) (decide_eq_false e2) (decide_eq_true h3)
     omega
 rcases key n with h|h
 ·exact h b hb
 ·have:=List.countP_le_length (p:=fun c=>decide ((cF m n n).getD c 0=u)) (l:=List.range n)
  rw [List.length_range] at this;omega
theorem GY (hp:dk m n) {a:Nat} (ha:a<n): ∃u,u<n/\bp m u a/\(∀b,b<n->((cF m n n).getD b 0=u↔bp m a b)):=by
 obtain ⟨u,h1,h2,h3⟩:=DI (p:=fun b=>bp m a b) a (.refl _);have hu:u<n:=by omega
 have rS: ∀b,bp m u b->u<=b:=fun b hb=>Nat.le_of_not_lt fun aA=>h3 b aA (h2.trans hb);have Ff:=h2.symm hp ha;refine ⟨u,hu,Ff,fun b hb=>⟨fun e=>?_,fun fh=>Xg hp hu rS (Ff.trans fh)⟩⟩;have hr:=(wq hp n).2 b hb;have h4:=hr.2.2;rw [e] at h4;exact h2.trans ((by simpa using h4:bp m b u).symm hp hb)
end
def rz (nx:Int->Int) (x:Int):Nat->Int->List Int
 |0,_=>[]
 |f+1,g=>if g=x then [] else g::rz nx x f (nx g)
def cm (nx:Int->Int) (N:Nat) (x:Int):List Int:=x::rz nx x N (nx x)
theorem NI {nx:Int->Int} {x:Int} {k:Nat} (h:qR nx x k): ∀f j,0<j->j<=k->k<=f+j->rz nx x f (it nx j x)=(List.range (k-j)).map fun i=>it nx (j+i) x
 |0,j,h0,h1,h2=>by obtain rfl:j=k:=by omega
                   simp [rz]
 |f+1,j,h0,h1,h2=>by
  unfold rz;by_cases e:j=k
  ·subst e;rw [if_pos h.back];simp
  ·rw [if_neg (h.first j h0 (by omega)),show k-j=(k-(j+1))+1 by omega,List.range_succ_eq_map];rw [show nx (it nx j x)=it nx (j+1) x from rfl,NI h f (j+1) (by omega) (by omega) (by omega)];simp only [List.map_cons,Nat.add_zero,List.map_map,List.cons.injEq,true_and];refine List.map_congr_left fun i _=>?_;simp only [Function.comp];rw [show j+i.succ=j+1+i by omega]
theorem NH {nx:Int->Int} {x:Int} {k N:Nat} (h:qR nx x k) (hk:k<=N+1):cm nx N x=its nx x k:=by
 have h0:=h.pos;unfold cm its;rw [show nx x=it nx 1 x from rfl,NI h N 1 (by omega) (by omega) (by omega)]
 conv=>rhs;rw [show k=(k-1)+1 by omega,List.range_succ_eq_map]
 simp only [List.map_cons,List.map_map];refine congrArg (List.cons x) (List.map_congr_left fun i _=>?_);simp only [Function.comp];rw [show i.succ=1+i by omega]
def jc (m:List Int) (g:Int):Int:=fZ (m.getD g.toNat 0) (-1)
def ax (n:Nat) (x:Int):Prop:=0<=x/\x<4*n
theorem Xf {n:Nat} {x y b:Int} (hx:ax n x) (hy:ax n y) (e:fZ x b=fZ y b):x=y:=by
 have: -4<b.tmod 4/\b.tmod 4<4:=⟨Int.lt_tmod_of_pos b (by decide),Int.tmod_lt_of_pos b (by decide)⟩
 unfold fZ ax at*;omega
section
variable {m:List Int} {n:Nat}
theorem dk.inj (hp:dk m n) {x y:Int} (hx:ax n x) (hy:ax n y) (e:m.getD x.toNat 0=m.getD y.toNat 0):x=y:=by
 unfold ax at*;have h1:=hp.inv x.toNat (by omega);have h2:=hp.inv y.toNat (by omega);rw [e,h2] at h1;omega
theorem dk.bP (hp:dk m n) {x:Int} (hx:ax n x):ax n (m.getD x.toNat 0):=by
 unfold ax at*;have:=hp.ok.2 x.toNat (by omega);omega
theorem Pa (hp:dk m n) (b:Int):Perm (fun g=>fZ (m.getD g.toNat 0) b) (4*n) (ax n):=
 ⟨fun x hx=>by unfold ax at hx;omega,fun x hx=>by have:=hp.bP hx;unfold ax at*;exact IA this.1 this.2,
  fun x y hx hy e=>hp.inj hx hy (Xf (hp.bP hx) (hp.bP hy) e)⟩
theorem EK (hp:dk m n):Perm (jc m) (4*n) (ax n):=Pa hp (-1)
theorem AO {nx:Int->Int} {N:Nat} {S:Int->Prop} (h:Perm nx N S) {x:Int} (hx:S x):
  (∀y,y∈cm nx N x↔ ∃j,it nx j x=y)/\(∀y∈cm nx N x,S y)/\(∀y∈cm nx N x,x∈cm nx N y)/\(∀y∈cm nx N x,∀z∈cm nx N y,z∈cm nx N x)/\x∈cm nx N x/\(cm nx N x).length<=N/\(cm nx N x).Nodup/\ ∃k,k<=N/\qR nx x k/\cm nx N x=its nx x k:=by
 obtain ⟨k,hk,hp⟩:=h.E4 hx;have e:=NH hp (N:=N) (by omega);have hm: ∀y,y∈cm nx N x↔ ∃j,it nx j x=y:=fun y=>by rw [e];exact PN hp
 have hS: ∀y∈cm nx N x,S y:=fun y hy=>by obtain ⟨j,rfl⟩:=(hm y).1 hy;exact h.it hx j
 have Fp: ∀y,S y-> ∀z,z∈cm nx N y↔ ∃j,it nx j y=z:=fun y hy z=>by
  obtain ⟨l,hl,hq⟩:=h.E4 hy;rw [NH hq (N:=N) (by omega)];exact PN hq
 refine ⟨hm,hS,fun y hy=>?_,fun y hy z hz=>?_,by simp [cm],by rw [e,GZ];exact hk,by rw [e];exact Xh h hx hp,k,hk,hp,e⟩
 ·exact (Fp y (hS y hy) x).2 (Tc hp ((hm y).1 hy))
 ·exact (hm z).2 (TF ((hm y).1 hy) ((Fp y (hS y hy) z).1 hz))
theorem U2 (hp:dk m n) (hn:m.length=4*n) {seen:List Bool} (hl:seen.length=4*n) {x:Int} (hx:ax n x) {k:Nat} (hk:qR (jc m) x k) (hu: ∀j,j<k->seen.getD (it (jc m) j x).toNat false=false):
  ∀d j f,d=k-j->j<=k->d<f->mark m f (jb seen (its (jc m) x j)) (it (jc m) j x)=jb seen (its (jc m) x k):=by
 have kg:=EK hp;have hR: ∀j,ax n (it (jc m) j x):=fun j=>kg.it hx j;have Fi: ∀j,∀g∈its (jc m) x j,0<=g/\g.toNat<seen.length:=fun j g hg=>by
  obtain ⟨i,_,rfl⟩:=Ed.1 hg
  have:=hR i;unfold ax at this;omega
 have pT:=hk.pos;intro d
 induction d with
 |zero=>
  intro j f hd hj hf;obtain rfl:j=k:=by omega
  obtain ⟨f',rfl⟩: ∃f',f=f'+1:=⟨f-1,by omega⟩;simp only [mark];rw [hk.back,if_pos];rw [Ig _ _ _ (Fi j),Bool.or_eq_true,decide_eq_true_iff];right;have iM:=hx;unfold ax at iM;rw [show ((x.toNat:Nat):Int)=x by omega];exact Ed.2 ⟨0,pT,rfl⟩
 |succ d ih=>
  intro j f hd hj hf;obtain ⟨f',rfl⟩: ∃f',f=f'+1:=⟨f-1,by omega⟩;have YO:=hR j;unfold ax at YO;simp only [mark];rw [if_neg]
  ·have e1:(jb seen (its (jc m) x j)).set (it (jc m) j x).toNat true=jb seen (its (jc m) x (j+1)):=by
    rw [OB,IE];rfl
   rw [e1];exact ih (j+1) f' (by omega) (by omega) (by omega)
  ·rw [Ig _ _ _ (Fi j),hu j (by omega),Bool.false_or,decide_eq_true_iff];rw [show (((it (jc m) j x).toNat:Nat):Int)=it (jc m) j x by omega];intro hm;obtain ⟨i,hi,e⟩:=Ed.1 hm
   have:=kg.cancel hx i (j-i) (by rw [show i+(j-i)=j by omega];exact e.symm)
   exact hk.first (j-i) (by omega) (by omega) this
def fl (m:List Int) (h:Nat):Bool:=Gr h (cm (jc m) m.length h)
def fi (l:List Int) (n:Nat) (p:Int):Nat:=(List.range n).countP fun c=>l.getD c 0==p
def gQ (m l:List Int) (h:Nat) (p:Int):Nat:=(List.range h).countP fun i=>fl m i&&l.getD (i/4) 0==p
theorem Xe (l:List Int) (n:Nat) (p:Int):fi l (n+1) p=fi l n p+if l.getD n 0=p then 1 else 0:=by
 unfold fi;rw [List.range_succ,List.countP_append];simp [List.countP_cons]
theorem O9 (m l:List Int) (h:Nat) (p:Int):gQ m l (h+1) p=gQ m l h p+if fl m h=true/\l.getD (h/4) 0=p then 1 else 0:=by
 unfold gQ;rw [List.range_succ,List.countP_append];simp [List.countP_cons]
theorem NG {part:List Int} {np:Nat} (um: ∀c,c<part.length->0<=part.getD c 0/\part.getD c 0<np) {p:Nat} (h:p<np): ∀k,k<=part.length->(fE part np k).getD p 0= -(fi part k p:Int)
 |0,_=>by simp [fE,fi,h]
 |k+1,hk=>by
  have ih:=NG um h k (by omega);have hl:=(Ee part np k).1;have hr:=um k (by omega);simp only [fE];rw [Xe];by_cases e:(part.getD k 0).toNat=p
  ·rw [e,kl (by omega),if_pos (by omega),ih];omega
  ·rw [j9 e,if_neg (by omega),ih];omega
theorem NF (hp:dk m n) (hm:m.length=4*n) {part:List Int} {np:Nat} (jK:part.length=n) (um: ∀c,c<n->0<=part.getD c 0/\part.getD c 0<np): ∀h,h<=4*n->
  (∀p:Nat,p<np->(bx m part np h).1.getD p 0=(gQ m part h p:Int)-fi part n p)/\
  ∀g:Nat,g<4*n->((bx m part np h).2.getD g false=true↔ ∃x:Nat,x<h/\(g:Int)∈cm (jc m) m.length x)
 |0,_=>by
  refine ⟨fun p aA=>?_,fun g hg=>by simp [bx,hm,hg]⟩;simp only [bx];rw [NG (fun c hc=>um c (by omega)) aA _ (Nat.le_refl _),jK];simp [gQ]
 |h+1,hh=>by
  obtain ⟨h1,h2⟩:=NF hp hm jK um h (by omega);obtain ⟨l1,l2,_⟩:=yv m part np h;have hR: ∀x:Nat,x<4*n->ax n (x:Int):=fun x hx=>by unfold ax;omega
  have rQ:=fun (x:Nat) (hx:x<4*n)=>by
   have:=AO (EK hp) (hR x hx)
   rw [←hm] at this;exact this
  have w9:=h2 h (by omega);simp only [bx,re];by_cases hs:(bx m part np h).2.getD h false=true
  ·rw [if_pos hs];obtain ⟨x,hx,wU⟩:=w9.1 hs;have qJ:fl m h=false:=by
    cases hf:fl m h with
    |false=>rfl
    |true=>
     have:=Is.1 hf x ((rQ x (by omega)).2.2.1 h wU);omega
   refine ⟨fun p aA=>by rw [O9,if_neg (by simp [qJ]),h1 p aA];omega,fun g hg=>?_⟩;rw [h2 g hg];constructor
   ·rintro ⟨y,hy,h3⟩;exact ⟨y,by omega,h3⟩
   ·rintro ⟨y,hy,h3⟩;rcases Nat.lt_or_ge y h with q|q
    ·exact ⟨y,q,h3⟩
    ·obtain rfl:y=h:=by omega
     exact ⟨x,hx,(rQ x (by omega)).2.2.2.1 y wU g h3⟩
  ·rw [if_neg hs];obtain ⟨o1,o2,o3,o4,o5,o6,o7,k,hk,pP,ct⟩:=rQ h (by omega);have qJ:fl m h=true:=Is.2 fun y hy=>by
    have hr:=o2 y hy;unfold ax at hr;obtain ⟨z,rfl⟩: ∃z:Nat,y=z:=⟨y.toNat,by omega⟩;rcases Nat.lt_or_ge z h with q|q
    ·exact absurd (w9.2 ⟨z,q,o3 z hy⟩) hs
    ·omega
   have zp:mark m (m.length+1) (bx m part np h).2 h=jb (bx m part np h).2 (cm (jc m) m.length h):=by
    rw [ct];refine U2 hp hm (by omega) (hR h (by omega)) pP (fun j hj=>?_) k 0 (m.length+1) (by omega) (by omega) (by omega);have o0:it (jc m) j h∈cm (jc m) m.length h:=(o1 _).2 ⟨j,rfl⟩;have Yg:=o2 _ o0;unfold ax at Yg;cases vQ:(bx m part np h).2.getD (it (jc m) j h).toNat false with
    |false=>rfl
    |true=>
     obtain ⟨y,hy,h3⟩:=(h2 _ (by omega)).1 vQ;rw [show (((it (jc m) j h).toNat:Nat):Int)=it (jc m) j h by omega] at h3;exact absurd (w9.2 ⟨y,hy,(rQ y (by omega)).2.2.2.1 _ h3 _ (o3 _ o0)⟩) hs
   have uo:=um (h/4) (by omega);refine ⟨fun p aA=>?_,fun g hg=>?_⟩
   ·rw [O9];simp only;by_cases e:(part.getD (h/4) 0).toNat=p
    ·rw [e,kl (by omega),if_pos ⟨qJ,by omega⟩,h1 p aA];omega
    ·rw [j9 e,if_neg (by omega),h1 p aA];omega
   ·simp only;rw [zp,Ig _ _ _ (fun y hy=>by have:=o2 y hy;unfold ax at this;omega),Bool.or_eq_true,h2 g hg,decide_eq_true_iff];constructor
    ·rintro (⟨x,h4,h5⟩|h4)
     ·exact ⟨x,by omega,h5⟩
     ·exact ⟨h,by omega,h4⟩
    ·rintro ⟨x,h4,h6⟩;rcases Nat.lt_or_ge x h with q|q
     ·exact .inl ⟨x,q,h6⟩
     ·obtain rfl:x=h:=by omega
      exact .inr h6
theorem V5 (hp:dk m n):lr m n=true↔ ∀p:Nat,(p:Int)<(eH m n).2->gQ m (eH m n).1 (4*n) p=fi (eH m n).1 n p+2:=by
 obtain ⟨p1,p2,p3,p4⟩:=Ii hp.ok;have hm:=hp.ok.1;have h1:=(NF hp hm p1 (np:=(eH m n).2.toNat) (fun c hc=>by have:=p4 c hc;omega) (4*n) (Nat.le_refl _)).1;have hlen:=(yv m (eH m n).1 (eH m n).2.toNat (4*n)).1;unfold lr;rw [hm,List.all_eq_true];constructor
 ·intro h p aA;have h2:=h1 p (by omega);have iB:(bx m (eH m n).1 (eH m n).2.toNat (4*n)).1.getD p 0∈(bx m (eH m n).1 (eH m n).2.toNat (4*n)).1:=by
   rw [List.getD_eq_getElem?_getD,List.getElem?_eq_getElem (by omega)];exact List.getElem_mem _
  have:=h _ iB
  simp only [beq_iff_eq] at this;omega
 ·intro h x hx;obtain ⟨i,hi,rfl⟩:=List.mem_iff_getElem.1 hx;have h2:=h1 i (by omega);have h3:=h i (by omega);rw [List.getD_eq_getElem?_getD,List.getElem?_eq_getElem hi] at h2;simp only [Option.getD_some] at h2;simp only [beq_iff_eq];omega
def mJ (m:List Int) (n:Nat):Bool:=(List.range n).all fun c=> !((cF m n n).getD c 0==(c:Int))||gQ m (cF m n n) (4*n) c==fi (cF m n n) n c+2
theorem OA:mJ m n=true↔ ∀c,c<n->(cF m n n).getD c 0=c->gQ m (cF m n n) (4*n) c=fi (cF m n n) n c+2:=by
 unfold mJ;rw [List.all_eq_true];constructor
 ·intro h c hc e
  have:=h c (List.mem_range.2 hc)
  rw [e] at this;simpa using this
 ·intro h c hc;by_cases e:(cF m n n).getD c 0=(c:Int)
  ·rw [h c (List.mem_range.1 hc) e];simp
  ·have:((cF m n n).getD c 0==(c:Int))=false:=by simpa using e
   rw [this];rfl
theorem Xd {l l':List Int} {p p':Int} (h: ∀b,b<n->(l.getD b 0=p↔l'.getD b 0=p')):fi l n p=fi l' n p'/\gQ m l (4*n) p=gQ m l' (4*n) p':=by
 constructor
 ·unfold fi;refine List.countP_congr fun b hb=>?_;simp only [beq_iff_eq];exact h b (List.mem_range.1 hb)
 ·unfold gQ;refine List.countP_congr fun b hb=>?_
  have:=List.mem_range.1 hb
  simp only [Bool.and_eq_true,beq_iff_eq];rw [h (b/4) (by omega)]
theorem Jw (hp:dk m n):lr m n=mJ m n:=by
 obtain ⟨p1,p2,p3,p4⟩:=Ii hp.ok;have key: ∀a,a<n-> ∃u,u<n/\(cF m n n).getD u 0=u/\fi (eH m n).1 n ((eH m n).1.getD a 0)=fi (cF m n n) n u/\gQ m (eH m n).1 (4*n) ((eH m n).1.getD a 0)=gQ m (cF m n n) (4*n) u/\(cF m n n).getD a 0=u:=by
  intro a ha;obtain ⟨u,hu,Ff,jP⟩:=GY hp ha;have FB:=Xd (m:=m) (n:=n) (l:=(eH m n).1) (l':=cF m n n) (p:=(eH m n).1.getD a 0) (p':=u) (fun b hb=>by
   rw [jP b hb];constructor
   ·intro e;exact (Pz hp ha hb).1 e.symm
   ·intro e;exact ((Pz hp ha hb).2 e).symm)
  exact ⟨u,hu,(jP u hu).2 (Ff.symm hp hu),FB.1,FB.2,(jP a ha).2 (.refl _)⟩
 rw [Bool.eq_iff_iff,V5 hp,OA];constructor
 ·intro h c hc e;obtain ⟨u,hu,_,h1,h2,h3⟩:=key c hc
  have:u=c:=by omega
  subst this;have h4:=p4 u hc;have h5:=h ((eH m n).1.getD u 0).toNat (by omega);rw [show (((eH m n).1.getD u 0).toNat:Int)=(eH m n).1.getD u 0 by omega,h1,h2] at h5;exact h5
 ·intro h p aA;obtain ⟨a,ha,e⟩:=Tb hp aA;obtain ⟨u,hu,h0,h1,h2,_⟩:=key a ha;have h5:=h u hu h0;rw [e] at h1 h2;omega
end
theorem Xc {s m:List Int} {L:Int} (h:sT s m L=true):dk m s.length:=by
 unfold sT at h;obtain ⟨_,h2,_,_,_,h6⟩:=of_decide_eq_true h;exact ⟨⟨h2,fun i hi=>⟨(h6 i hi).1,(h6 i hi).2.1⟩⟩,fun i hi=>(h6 i hi).2.2.2.1⟩
def zX (s m:List Int) (L:Int):Bool:=sT s m L&&mJ m s.length
theorem H5 (s m:List Int) (L:Int):dm s m L=zX s m L:=by
 unfold dm zX;cases h:sT s m L with
 |false=>rfl
 |true=>rw [Jw (Xc h)]
theorem ox (h:Int):fZ h 1=h-h % 4+(h % 4+5)% 4:=by
 have:(1:Int).tmod 4=1:=by decide
 unfold fZ;rw [this];omega
theorem nS (h:Int):fZ h (-1)=h-h % 4+(h % 4+3)% 4:=by
 have:(-1:Int).tmod 4= -1:=by decide
 unfold fZ;rw [this];omega
def aB (b:Bool) (h:Int):Int:=if decide (h % 2=1)=b then fZ h 1 else fZ h (-1)
theorem jD (b:Bool) (h:Int):aB b h/4=h/4:=by
 unfold aB;rw [ox,nS];split<;>omega
theorem oA (b:Bool) (h:Int):aB b (aB b h)=h:=by
 unfold aB;rw [ox,nS];cases b
 ·by_cases e:h % 2=1
  ·simp only [e,decide_true,Bool.true_eq_false,if_false]
   have: ¬(h-h % 4+(h % 4+3)% 4)% 2=1:=by omega
   simp only [this,decide_false,if_true];rw [ox];omega
  ·simp only [e,decide_false,if_true]
   have:(h-h % 4+(h % 4+5)% 4)% 2=1:=by omega
   simp only [this,decide_true,Bool.true_eq_false,if_false];rw [nS];omega
 ·by_cases e:h % 2=1
  ·simp only [e,decide_true,if_true]
   have: ¬(h-h % 4+(h % 4+5)% 4)% 2=1:=by omega
   simp only [this,decide_false,Bool.false_eq_true,if_false];rw [nS];omega
  ·simp only [e,decide_false,Bool.false_eq_true,if_false]
   have:(h-h % 4+(h % 4+3)% 4)% 2=1:=by omega
   simp only [this,decide_true,if_true];rw [ox];omega
theorem DG (b:Bool) (h:Int):aB b h≠h:=by
 unfold aB;rw [ox,nS];split<;>omega
theorem Rg (b:Bool) {h:Int} (h0:0<=h):0<=aB b h:=by
 have:=jD b h;omega
def b9 (m:List Int) (b:Bool) (c:Int):Nat->Int->Int
 |0,x=>x
 |f+1,x=>if x/4=c then b9 m b c f (m.getD (aB b x).toNat 0) else x
def gC (u:Int->Bool) (x y:Int):Int->Bool:=fun z=>u z||z==x||z==y
def thrU (m:List Int) (b:Bool) (c:Int):Nat->Int->(Int->Bool)->(Int->Bool)
 |0,_,u=>u
 |f+1,x,u=>if x/4=c then thrU m b c f (m.getD (aB b x).toNat 0) (gC u x (aB b x)) else u
theorem Ec {m:List Int} {b:Bool} {c:Int} {f:Nat} {x:Int} (h:x/4=c):b9 m b c (f+1) x=b9 m b c f (m.getD (aB b x).toNat 0):=by simp only [b9,h,if_true]
theorem yu {m:List Int} {b:Bool} {c:Int} {f:Nat} {x:Int} (h: ¬x/4=c):b9 m b c f x=x:=by cases f<;>simp only [b9,h,if_false]
theorem ND {m:List Int} {b:Bool} {c:Int} {f:Nat} {x:Int} {u:Int->Bool} (h:x/4=c):thrU m b c (f+1) x u=thrU m b c f (m.getD (aB b x).toNat 0) (gC u x (aB b x)):=by simp only [thrU,h,if_true]
theorem Ni {m:List Int} {b:Bool} {c:Int} {f:Nat} {x:Int} {u:Int->Bool} (h: ¬x/4=c):thrU m b c f x u=u:=by cases f<;>simp only [thrU,h,if_false]
section
variable {m:List Int} {n:Nat} {b:Bool} {c:Nat}
def bQ (m:List Int) (b:Bool) (x:Int):Int:=m.getD (aB b x).toNat 0
theorem U1 (hp:dk m n) (hc:c<n) {x y:Int} (hx:x/4=c) (hy:y/4=c) (e:bQ m b x=bQ m b y):x=y:=by
 have h1:=jD b x;have h2:=jD b y
 have:=hp.inj (x:=aB b x) (y:=aB b y) (by unfold ax;omega) (by unfold ax;omega) e
 have h3:=congrArg (aB b) this;rwa [oA,oA] at h3
theorem U0 (f:Nat) (x:Int) (h:b9 m b c f x/4=c): ∀i,i<=f->it (bQ m b) i x/4=(c:Int):=by
 induction f generalizing x with
 |zero=>
  intro i hi;obtain rfl:i=0:=by omega
  exact h
 |succ f ih=>
  intro i hi;unfold b9 at h;by_cases e:x/4=(c:Int)
  ·rw [if_pos e] at h;cases i with
   |zero=>exact e
   |succ i=>
    have:=ih _ h i (by omega)
    have e2:it (bQ m b) (i+1) x=it (bQ m b) i (bQ m b x):=by rw [wu];rfl
    rw [e2];exact this
  ·rw [if_neg e] at h;exact absurd h e
theorem AJ (hp:dk m n) (hc:c<n) {h:Nat} (hh:h<4*n) (ho:h/4≠c):b9 m b c 5 (m.getD h 0)/4≠(c:Int):=by
 intro dr;have uA:=U0 5 (m.getD h 0) dr;obtain ⟨i,j,fC,hj,e⟩:=Gs 4 (fun i=>(it (bQ m b) i (m.getD h 0)-4*c).toNat) (fun i hi=>by have:=uA i (by omega);omega);have jv:=uA i (by omega);have dE:=uA j (by omega);have e':it (bQ m b) i (m.getD h 0)=it (bQ m b) j (m.getD h 0):=by omega
 have key: ∀i j,i<j->j<=5->it (bQ m b) i (m.getD h 0)=it (bQ m b) j (m.getD h 0)->m.getD h 0=it (bQ m b) (j-i) (m.getD h 0):=by
  intro i
  induction i with
  |zero=>intro j _ _ e;simpa [it] using e
  |succ i ih=>
   intro j fC hj e
   have:=ih (j-1) (by omega) (by omega) (U1 hp hc (uA i (by omega)) (uA (j-1) (by omega)) (by
    have:it (bQ m b) j (m.getD h 0)=bQ m b (it (bQ m b) (j-1) (m.getD h 0)):=by
     conv=>lhs;rw [show j=(j-1)+1 by omega]
     rfl
    rw [←this,←e];rfl))
   rw [show j-(i+1)=j-1-i by omega];exact this
 have h0:=key i j fC (by omega) e';have h1:it (bQ m b) (j-i) (m.getD h 0)=bQ m b (it (bQ m b) (j-i-1) (m.getD h 0)):=by
  conv=>lhs;rw [show j-i=(j-i-1)+1 by omega]
  rfl
 rw [h1] at h0;have h2:=uA (j-i-1) (by omega);have h3:=jD b (it (bQ m b) (j-i-1) (m.getD h 0));have hr:=hp.ok.2 h hh;have h4:=hp.inv h hh;unfold bQ at h0;have h5:=hp.inv (aB b (it (bQ m b) (j-i-1) (m.getD h 0))).toNat (by omega);unfold bQ at h5;rw [←h0,h4] at h5;unfold bQ at h3 h2;omega
def cV (m:List Int) (b:Bool) (c:Nat):Nat->List Int
 |0=>m
 |h+1=>if h/4=c then cV m b c h else (cV m b c h).set h (b9 m b c 5 (m.getD h 0))
def gX (m:List Int) (b:Bool) (c:Nat):Nat->Int->Bool
 |0=>fun _=>false
 |h+1=>if h/4=c then gX m b c h else thrU m b c 5 (m.getD h 0) (gX m b c h)
theorem GX (h:Nat):(cV m b c h).length=m.length:=by
 induction h with
 |zero=>rfl
 |succ h ih=>simp only [cV];split<;>simp [ih]
theorem H4 (hp:dk m n) (hc:c<n): ∀f x,ax n x->ax n (b9 m b c f x):=by
 intro f
 induction f with
 |zero=>intro x h;exact h
 |succ f ih=>
  intro x h;unfold b9
  split
  ·rename_i e
   have:=jD b x
   exact ih _ (hp.bP (by unfold ax;omega))
  ·exact h
theorem Jv (hp:dk m n) (hc:c<n): ∀h,h<=4*n->iP (cV m b c h) n:=by
 intro h
 induction h with
 |zero=>intro _;exact hp.ok
 |succ h ih=>
  intro hh;have ih:=ih (by omega);simp only [cV]
  split
  ·exact ih
  ·refine ⟨by simp [ih.1],fun i hi=>?_⟩;have hl:=ih.1;by_cases e:h=i
   ·subst e;rw [kl (by omega)]
    have:=H4 (b:=b) hp hc 5 (m.getD h 0) (by have:=hp.ok.2 h hi;unfold ax;omega)
    unfold ax at this;exact this
   ·rw [j9 e];exact ih.2 i hi
theorem O8 (f:Nat): ∀(x:Int) (u:Int->Bool) (y:Int),u y=true->thrU m b c f x u y=true:=by
 induction f with
 |zero=>intro x u y h;exact h
 |succ f ih=>
  intro x u y h;unfold thrU
  split
  ·exact ih _ _ _ (by simp [gC,h])
  ·exact h
def wE (b:Bool) (u:Int->Bool):Prop:= ∀x,u x=u (aB b x)
theorem Py {u:Int->Bool} (h:wE b u) (x:Int):wE b (gC u x (aB b x)):=by
 intro y;simp only [gC];rw [h y];by_cases e1:y=x
 ·subst e1;simp
 ·by_cases e2:y=aB b x
  ·subst e2;rw [oA];simp
  ·have e3:aB b y≠x:=fun e=>e2 (by rw [←e,oA]);have e4:aB b y≠aB b x:=fun e=>e1 (by have:=congrArg (aB b) e;rwa [oA,oA] at this);have q1:(y==x)=false:=by simpa using e1
   have q2:(y==aB b x)=false:=by simpa using e2
   have q3:(aB b y==x)=false:=by simpa using e3
   have q4:(aB b y==aB b x)=false:=by simpa using e4
   rw [q1,q2,q3,q4]
theorem TE (f:Nat): ∀(x:Int) (u:Int->Bool),wE b u->wE b (thrU m b c f x u):=by
 induction f with
 |zero=>intro x u h;exact h
 |succ f ih=>
  intro x u h;unfold thrU
  split
  ·exact ih _ _ (Py h x)
  ·exact h
theorem Ta (k:Nat):wE b (gX m b c k):=by
 induction k with
 |zero=>intro x;rfl
 |succ k ih=>
  simp only [gX];split
  ·exact ih
  ·exact TE 5 _ _ ih
theorem V4 (y:Int): ∀d k,gX m b c k y=true->gX m b c (k+d) y=true:=by
 intro d
 induction d with
 |zero=>intro k h;exact h
 |succ d ih=>
  intro k h
  have:=ih k h
  rw [←Nat.add_assoc];simp only [gX];split
  ·exact this
  ·exact O8 5 _ _ _ this
theorem Rf (hp:dk m n) (hc:c<n) {x:Int} (hx:x/4=c) (hu:gX m b c (4*n) x=false):bQ m b x/4=(c:Int):=by
 apply Classical.byContradiction;intro aw;have h1:=jD b x;have hr:=hp.bP (x:=aB b x) (by unfold ax;omega);unfold bQ at aw;unfold ax at hr;have hi:=hp.inv (aB b x).toNat (by omega);generalize hy:m.getD (aB b x).toNat 0=y at*;obtain ⟨h,rfl⟩: ∃h:Nat,y=h:=⟨y.toNat,by omega⟩;simp only [Int.toNat_natCast] at hi;have h2:gX m b c (h+1) x=true:=by
  have qI:h/4≠c:=by omega
  simp only [gX,qI,if_false];rw [hi];unfold thrU;have e1:(((aB b x).toNat:Nat):Int)=aB b x:=by omega
  rw [e1,if_pos (by omega)];refine O8 4 _ _ _ ?_;simp [gC,oA]
 have h3:=V4 (m:=m) (b:=b) (c:=c) x (4*n-(h+1)) (h+1) h2;rw [show h+1+(4*n-(h+1))=4*n by omega,hu] at h3;cases h3
def kO (m:List Int) (b:Bool):Nat->Int->(Int->Bool)->(Int->Bool)
 |0,_,u=>u
 |f+1,h,u=>if u h then u else kO m b f (bQ m b h) (gC u h (aB b h))
theorem Qs {f:Nat} {h:Int} {u:Int->Bool} (e:u h=true):kO m b f h u=u:=by cases f<;>simp only [kO,e,if_true]
theorem Dk {f:Nat} {h:Int} {u:Int->Bool} (e:u h=false):kO m b (f+1) h u=kO m b f (bQ m b h) (gC u h (aB b h)):=by simp only [kO,e,Bool.false_eq_true,if_false]
def yd (c:Nat) (u:Int->Bool):Nat:=(List.range 4).countP fun (i:Nat)=> !u (4*c+i)
theorem V3 (u:Int->Bool):yd c u<=4:=by
 have:=List.countP_le_length (p:=fun i:Nat=> !u (4*c+i)) (l:=List.range 4);unfold yd;simpa using this
theorem Xb {u:Int->Bool} {x y:Int} (hx:x/4=c) (hu:u x=false):yd c (gC u x y)<yd c u:=by
 unfold yd;refine P1 _ (fun i _ h=>?_) (y:=(x-4*c).toNat) (by simp;omega) ?_ ?_
 ·simp only [gC,Bool.not_or,Bool.and_eq_true] at h⊢;exact h.1.1
 ·have e:(4*(c:Int)+((x-4*c).toNat:Nat))=x:=by omega
  rw [e];simp [gC]
 ·have e:(4*(c:Int)+((x-4*c).toNat:Nat))=x:=by omega
  rw [e,hu];rfl
def jl (m:List Int) (b:Bool) (c n:Nat):Int:=
 let u0:=gX m b c (4*n)
 let u1:=if u0 (4*c) then u0 else kO m b 5 (4*c) u0
 (if u0 (4*c) then 0 else 1)+(if u1 (if b then 4*c+1 else 4*c+3) then 0 else 1)
end
def dZ (s:List Int) (c:Nat):Nat->List Int
 |0=>[]
 |k+1=>if k=c then dZ s c k else dZ s c k++[s.getD k 0]
def cb (m:List Int) (c:Nat) (h:Nat):Int:=if (c:Int)<m.getD h 0/4 then m.getD h 0-4 else m.getD h 0
def cv (m:List Int) (c k:Nat) (l:List Int):Nat->List Int
 |0=>l
 |x+1=>cv m c k l x++[cb m c (4*k+x)]
def bO (m:List Int) (c:Nat):Nat->List Int
 |0=>[]
 |k+1=>if k=c then bO m c k else cv m c k (bO m c k) 4
theorem Nh (s:List Int) (c:Nat): ∀k,(dZ s c k).length<=k
 |0=>by simp [dZ]
 |k+1=>by have:=Nh s c k;simp only [dZ];split<;>simp<;>omega
theorem Ez (m:List Int) (c k:Nat) (l:List Int): ∀x,(cv m c k l x).length=l.length+x
 |0=>by simp [cv]
 |x+1=>by have:=Ez m c k l x;simp [cv];omega
theorem Ng (m:List Int) (c:Nat): ∀k,(bO m c k).length<=4*k
 |0=>by simp [bO]
 |k+1=>by have:=Ng m c k;simp only [bO];split<;>(try rw [Ez])<;>omega
def wa (m:List Int) (g:Int):Int:=fZ (m.getD g.toNat 0) 2
def j8 (s m:List Int):List (List Int):=(bh m.length (bV s) (cm (wa m) m.length) m.length).1
structure yn (s m:List Int) (L:Int):Prop where
 s64:s.length<=64
 len:m.length=4*s.length
 l0:0<=L
 y7:L<=64
 sg:qX s s.length
 mt:tL s m (4*s.length)
 dd:dk m s.length
theorem jC {s m:List Int} {L:Int} (h:dm s m L=true):yn s m L:=by
 obtain ⟨⟨h1,h2,h3,h4,h5,h6⟩,_⟩:=Te.1 h;exact ⟨h1,h2,h3,h4,h5,h6,⟨h2,fun i hi=>⟨(h6 i hi).1,(h6 i hi).2.1⟩⟩,fun i hi=>(h6 i hi).2.2.2.1⟩
theorem H3 {m:List Int} {n:Nat} (hp:dk m n):Perm (wa m) (4*n) (ax n):=Pa hp 2
theorem ID (s m:List Int):(j8 s m).length<=m.length:=(H6 _ _ _ _).2
theorem HZ {N:Nat} {want:Int->Bool} {bM:Int->List Int}: ∀h,∀l∈(bh N want bM h).1,∃x:Nat,x<h/\want x=true/\l=bM x
 |0,l,hl=>by simp [bh] at hl
 |h+1,l,hl=>by
  simp only [bh,lR] at hl
  split at hl
  ·obtain ⟨x,h1,h2⟩:=HZ h l hl;exact ⟨x,by omega,h2⟩
  ·rename_i hc
   rcases List.mem_append.1 hl with hl|hl
   ·obtain ⟨x,h1,h2⟩:=HZ h l hl;exact ⟨x,by omega,h2⟩
   ·refine ⟨h,by omega,?_,List.mem_singleton.1 hl⟩;cases hw:want h with
    |true=>rfl
    |false=>rw [hw] at hc;simp at hc
theorem TR {s m:List Int} {n:Nat} (hp:dk m n) {l:List Int} (hl:l∈j8 s m):l.length<=4*n/\ ∀x∈l,0<=x/\x<4*n:=by
 obtain ⟨x,hx,_,rfl⟩:=HZ _ l hl;have hm:=hp.ok.1;have hR:ax n (x:Int):=by unfold ax;omega
 have rQ:=AO (H3 hp) hR;rw [←hm] at rQ;exact ⟨by have:=rQ.2.2.2.2.2.1;omega,fun y hy=>by have:=rQ.2.1 y hy;unfold ax at this;omega⟩
def rC (m:List Int) (to:Int->Int):Nat->List Int
 |0=>List.replicate m.length 0
 |k+1=>(rC m to k).set (to k).toNat (to (m.getD k 0))
theorem Eb (m:List Int) (to:Int->Int): ∀k,(rC m to k).length=m.length
 |0=>by simp [rC]
 |k+1=>by simp [rC,Eb m to k]
def ri (s:List Int) (sg:Int->Int) (k:Nat):List Int:=(List.range k).map fun (c:Nat)=>s.getD c 0*sg c
theorem Ea (s:List Int) (sg:Int->Int) (k:Nat):(ri s sg k).length=k:=by simp [ri]
theorem UZ (s:List Int) (sg:Int->Int) (n k:Nat) (h:k<n):(ri s sg k++List.replicate (n-k) 0).set k (s.getD k 0*sg k)=ri s sg (k+1)++List.replicate (n-(k+1)) 0:=by
 rw [List.set_append_right _ _ (by rw [Ea];omega),Ea,Nat.sub_self];obtain ⟨d,hd⟩: ∃d,n-k=d+1:=⟨n-k-1,by omega⟩;rw [hd,List.replicate_succ,List.set_cons_zero,show n-(k+1)=d by omega];simp [ri,List.range_succ]
def ot (s:List Int) (ch:Int->Bool) (c:Int):Int:=if ch c then (if s.getD c.toNat 0=1 then-3 else-1) else 0
def qa (ch:Int->Bool) (c:Int):Int:=if ch c then-1 else 1
def zH (s:List Int) (ch:Int->Bool):List Int:=ri s (qa ch) s.length
def C5 (s m:List Int) (ch:Int->Bool):List Int:=rC m (fun h=>fZ h (ot s ch (h/4))) m.length
def oI (s:List Int) (c:Nat):List Int:=zH s (· ==(c:Int))
def ka (s m:List Int) (c:Nat):List Int:=C5 s m (· ==(c:Int))
def nV (s:List Int) (c:Nat):List Int:=dZ s c s.length
def nE (s m:List Int) (c:Nat):List Int:=bO (cV m (s.getD c 0== -1) c (4*s.length)) c s.length
def lu (s m:List Int) (c:Nat) (L:Int):Int:=L+jl m (s.getD c 0== -1) c s.length
end Go.Proofs.YtphjphpmfflfpaaGreatDoor
