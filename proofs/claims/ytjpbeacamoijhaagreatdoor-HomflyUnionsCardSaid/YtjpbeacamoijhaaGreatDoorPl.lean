/- Plain functions and facts: labels, cycles, spheres, circles, smoothing. -/
import Derived.Test.YtjpbeacamoijhaaGreatDoorAl
set_option linter.unusedSimpArgs false
set_option linter.unusedVariables false
namespace Go.Proofs.YtjpbeacamoijhaaGreatDoor
def p7 (m:List Int) (c p:Int) (s:Nat) (st:List Int×List Int):List Int×List Int:=
 let to:=m.getD (4*c+s).toNat 0/4
 if st.1.getD to.toNat 0<0 then (st.1.set to.toNat p,st.2++[to]) else st
def lb4 (m:List Int) (c p:Int) (st:List Int×List Int):Nat->List Int×List Int
 |0=>st
 |s+1=>p7 m c p s (lb4 m c p st s)
def bfs (m:List Int) (p:Int):Nat->List Int->List Int->List Int
 |_,part,[]=>part
 |0,part,_::_=>part
 |n+1,part,c::q=>let st:=lb4 m c p (part,q) 4;bfs m p n st.1 st.2
def Eo (m:List Int) (n c:Nat) (st:List Int×Int):List Int×Int:=
 if 0<=st.1.getD c 0 then st else (bfs m st.2 (2*n+1) (st.1.set c st.2) [(c:Int)],st.2+1)
def cj (m:List Int) (n:Nat):Nat->List Int×Int
 |0=>(List.replicate n (-1),0)
 |c+1=>Eo m n c (cj m n c)
def jw (m:List Int) (n:Nat):List Int×Int:=cj m n n
theorem nY {α:Type} {l:List α} {i:Nat} {a d:α} (h:i<l.length):(l.set i a).getD i d=a:=by simp [h]
theorem nZ {α:Type} {l:List α} {i j:Nat} {a d:α} (h:i≠j):(l.set i a).getD j d=l.getD j d:=by simp [h]
theorem y4n {α:Type} (a b:α) (n k:Nat) (h:k<n):(List.replicate k a++List.replicate (n-k) b).set k a=List.replicate (k+1) a++List.replicate (n-(k+1)) b:=by
 rw [List.set_append_right _ _ (by simp),List.length_replicate,Nat.sub_self];obtain ⟨d,hd⟩: ∃d,n-k=d+1:=⟨n-k-1,by omega⟩;rw [hd,List.replicate_succ,List.set_cons_zero,show n-(k+1)=d by omega,List.replicate_succ',List.append_assoc];rfl
def pY (l:List Int):Nat:=l.countP fun x=>decide (x<0)
theorem M3 {l:List Int} {i:Nat} {p:Int} (hi:i<l.length) (hl:l.getD i 0<0) (hp:0<=p):pY (l.set i p)+1=pY l:=by
 unfold pY
 induction l generalizing i with
 |nil=>simp at hi
 |cons x l ih=>
  cases i with
  |zero=>
   simp at hl;simp [List.countP_cons,hl,Int.not_lt.2 hp]
  |succ i=>
   simp only [List.set_cons_succ,List.countP_cons]
   have:=ih (i:=i) (by simpa using hi) (by simpa using hl)
   omega
theorem SY (l:List Int):pY l<=l.length:=List.countP_le_length
def pT (m:List Int) (n:Nat):Prop:=m.length=4*n/\ ∀i,i<4*n->0<=m.getD i 0/\m.getD i 0<4*n
def Bg (n:Nat) (q:List Int):Prop:= ∀x∈q,0<=x/\x<n
def v8 (n:Nat) (p:Int) (l:List Int):Prop:=l.length=n/\ ∀i,i<n-> -1<=l.getD i 0/\l.getD i 0<=p
theorem RB {m:List Int} {n:Nat} (hm:pT m n) {c p:Int} (hc:0<=c/\c<n) (hp:0<=p) {s:Nat} (hs:s<4) {st:List Int×List Int} (h1:v8 n p st.1) (h2:Bg n st.2):
  v8 n p (p7 m c p s st).1/\Bg n (p7 m c p s st).2/\2*pY (p7 m c p s st).1+(p7 m c p s st).2.length<=2*pY st.1+st.2.length/\(p7 m c p s st).2.length<=st.2.length+1:=by
 have KH:=hm.2 (4*c+s).toNat (by omega);unfold p7;simp only;have Px:0<=m.getD (4*c+s).toNat 0/4/\m.getD (4*c+s).toNat 0/4<n:=by omega
 generalize m.getD (4*c+s).toNat 0/4=to at*
 split
 ·rename_i tz
  have aD:to.toNat<st.1.length:=by rw [h1.1];omega
  have hn:=M3 aD tz hp;refine ⟨⟨by simp [h1.1],fun i hi=>?_⟩,fun x hx=>?_,?_,by simp⟩
  ·by_cases e:to.toNat=i
   ·subst e;rw [nY aD];omega
   ·rw [nZ e];exact h1.2 i hi
  ·rcases List.mem_append.1 hx with hx|hx
   ·exact h2 x hx
   ·rw [List.mem_singleton.1 hx];exact Px
  ·simp only [zzF,List.length_singleton];omega
 ·exact ⟨h1,h2,zzA _,by omega⟩
theorem Jb {m:List Int} {n:Nat} (hm:pT m n) {c p:Int} (hc:0<=c/\c<n) (hp:0<=p) {st:List Int×List Int} (h1:v8 n p st.1) (h2:Bg n st.2): ∀s,s<=4->
  v8 n p (lb4 m c p st s).1/\Bg n (lb4 m c p st s).2/\2*pY (lb4 m c p st s).1+(lb4 m c p st s).2.length<=2*pY st.1+st.2.length/\(lb4 m c p st s).2.length<=st.2.length+s
 |0,_=>⟨h1,h2,zzA _,by simp [lb4]⟩
 |s+1,hs=>by
  obtain ⟨g1,g2,g3,g5⟩:=Jb hm hc hp h1 h2 s (by omega);obtain ⟨k1,k2,k3,k5⟩:=RB hm hc hp (show s<4 by omega) g1 g2;exact ⟨k1,k2,by simp only [lb4];omega,by simp only [lb4];omega⟩
theorem LU {m:List Int} {n:Nat} (hm:pT m n) {p:Int} (hp:0<=p): ∀(f:Nat) (part q:List Int),v8 n p part->Bg n q->v8 n p (bfs m p f part q)
 |_,part,[],h,_=>by unfold bfs;exact h
 |0,part,_::_,h,_=>by simpa [bfs] using h
 |f+1,part,c::q,h,hq=>by
  simp only [bfs];obtain ⟨g1,g2,_⟩:=Jb hm (hq c (by simp)) hp (st:=(part,q)) h (fun x hx=>hq x (by simp [hx])) 4 (zzA _);exact LU hm hp f _ _ g1 g2
theorem E7 {m:List Int} {n:Nat} (hm:pT m n): ∀k,k<=n->v8 n (cj m n k).2 (cj m n k).1/\0<=(cj m n k).2/\(cj m n k).2<=k
 |0,_=>⟨⟨by simp [cj],fun i hi=>by simp [cj,hi]⟩,by simp [cj],by simp [cj]⟩
 |k+1,hk=>by
  obtain ⟨h1,h2,h3⟩:=E7 hm k (by omega);simp only [cj,Eo]
  split
  ·exact ⟨h1,h2,by omega⟩
  ·refine ⟨?_,by omega,by omega⟩
   have:v8 n ((cj m n k).2) (bfs m (cj m n k).2 (2*n+1) ((cj m n k).1.set k (cj m n k).2) [(k:Int)]):=by
    refine LU hm h2 _ _ _ ⟨by simp [h1.1],fun i hi=>?_⟩ (fun x hx=>by simp at hx;omega);have cJ:k<(cj m n k).1.length:=by rw [h1.1];omega
    by_cases e:k=i
    ·subst e;rw [nY cJ];omega
    ·rw [nZ e];exact h1.2 i hi
   exact ⟨this.1,fun i hi=>by have:=this.2 i hi;simp only;omega⟩
def iJ (h b:Int):Int:=h-h % 4+(h % 4+b.tmod 4+4)% 4
theorem FE {h b:Int} {n:Nat} (h0:0<=h) (h1:h<4*n):0<=iJ h b/\iJ h b<4*n:=by
 have: -4<b.tmod 4/\b.tmod 4<4:=⟨Int.lt_tmod_of_pos b (by decide),Int.tmod_lt_of_pos b (by decide)⟩
 unfold iJ;omega
theorem y4o {m:List Int} {c p:Int} {s:Nat} {st:List Int×List Int} {i:Nat} (h:0<=st.1.getD i 0):(p7 m c p s st).1.getD i 0=st.1.getD i 0:=by
 unfold p7;simp only
 split
 ·rename_i hn
  by_cases e:(m.getD (4*c+s).toNat 0/4).toNat=i
  ·subst e;omega
  ·simp only;rw [nZ e]
 ·rfl
theorem T5 {m:List Int} {c p:Int} {st:List Int×List Int} {i:Nat} (h:0<=st.1.getD i 0): ∀s,(lb4 m c p st s).1.getD i 0=st.1.getD i 0
 |0=>rfl
 |s+1=>by
  have:=T5 (m:=m) (c:=c) (p:=p) h s
  simp only [lb4];rw [y4o (by omega),this]
theorem MZ {m:List Int} {p:Int} {i:Nat}: ∀(f:Nat) (part q:List Int),0<=part.getD i 0->(bfs m p f part q).getD i 0=part.getD i 0
 |_,part,[],h=>by unfold bfs;rfl
 |0,part,_::_,h=>by simp [bfs]
 |f+1,part,c::q,h=>by
  simp only [bfs]
  have:=T5 (m:=m) (c:=c) (p:=p) (st:=(part,q)) h 4
  rw [MZ f _ _ (by rw [this];exact h),this]
theorem E6 {m:List Int} {n:Nat} (hm:pT m n): ∀k,k<=n-> ∀i,i<n->(cj m n k).1.getD i 0<(cj m n k).2/\(i<k->0<=(cj m n k).1.getD i 0)
 |0,_,i,hi=>by simp [cj,hi]
 |k+1,hk,i,hi=>by
  obtain ⟨h1,h2⟩:=E6 hm k (by omega) i hi;obtain ⟨g1,g2,g3⟩:=E7 hm k (by omega);simp only [cj,Eo]
  split
  ·rename_i h0
   refine ⟨h1,fun hik=>?_⟩;rcases zzV i k with g|g
   ·exact h2 g
   ·rwa [show i=k by omega]
  ·rename_i h0
   have cJ:k<(cj m n k).1.length:=by rw [g1.1];omega
   have hset:v8 n (cj m n k).2 ((cj m n k).1.set k (cj m n k).2):=⟨by simp [g1.1],fun i hi=>by
    by_cases e:k=i
    ·subst e;rw [nY cJ];omega
    ·rw [nZ e];exact g1.2 i hi⟩
   have hb:=LU hm g2 (2*n+1) _ [(k:Int)] hset (fun x hx=>by simp at hx;omega);have hbi:=hb.2 i hi;refine ⟨by simp only;omega,fun hik=>?_⟩;have Ey:0<=((cj m n k).1.set k (cj m n k).2).getD i 0:=by
    by_cases e:k=i
    ·subst e;rw [nY cJ];exact g2
    ·rw [nZ e];exact h2 (by omega)
   simp only;rw [MZ _ _ _ Ey];exact Ey
theorem NC {m:List Int} {n:Nat} (hm:pT m n):(jw m n).1.length=n/\0<=(jw m n).2/\(jw m n).2<=n/\ ∀i,i<n->0<=(jw m n).1.getD i 0/\(jw m n).1.getD i 0<(jw m n).2:=by
 obtain ⟨g1,g2,g3⟩:=E7 hm n (zzA _);exact ⟨g1.1,g2,g3,fun i hi=>⟨(E6 hm n (zzA _) i hi).2 hi,(E6 hm n (zzA _) i hi).1⟩⟩
def kr (part:List Int) (np:Nat):Nat->List Int
 |0=>List.replicate np 0
 |k+1=>let e:=kr part np k;let p:=(part.getD k 0).toNat;e.set p (e.getD p 0-1)
theorem JJ (part:List Int) (np:Nat): ∀k,(kr part np k).length=np/\ ∀i,-(k:Int)<=(kr part np k).getD i 0/\(kr part np k).getD i 0<=0
 |0=>⟨by simp [kr],fun i=>by
   by_cases h:i<np
   ·simp [kr,h]
   ·simp [kr,h]⟩
 |k+1=>by
  obtain ⟨h1,h2⟩:=JJ part np k;refine ⟨by simp [kr,h1],fun i=>?_⟩;simp only [kr];by_cases e:(part.getD k 0).toNat=i
  ·by_cases hl:i<(kr part np k).length
   ·subst e;rw [nY hl];have:=h2 (part.getD k 0).toNat;omega
   ·have:=h2 i;rw [List.set_eq_of_length_le (by omega)];omega
  ·rw [nZ e];have:=h2 i;omega
def mark (m:List Int):Nat->List Bool->Int->List Bool
 |0,s,_=>s
 |f+1,s,g=>if s.getD g.toNat false then s else mark m f (s.set g.toNat true) (iJ (m.getD g.toNat 0) (-1))
def wX (m part:List Int) (h:Nat) (st:List Int×List Bool):List Int×List Bool:=
 if st.2.getD h false then st else
  let p:=(part.getD (h/4) 0).toNat
  (st.1.set p (st.1.getD p 0+1),mark m (m.length+1) st.2 h)
def b7 (m part:List Int) (np:Nat):Nat->List Int×List Bool
 |0=>(kr part np part.length,List.replicate m.length false)
 |h+1=>wX m part h (b7 m part np h)
def qJ (m:List Int) (n:Nat):Bool:=(b7 m (jw m n).1 (jw m n).2.toNat m.length).1.all (· ==2)
def wT (s:List Bool):Nat:=s.countP fun x=> !x
theorem SJ {l:List Bool} {i:Nat} (hi:i<l.length) (hl:l.getD i false=false):wT (l.set i true)+1=wT l:=by
 unfold wT
 induction l generalizing i with
 |nil=>simp at hi
 |cons x l ih=>
  cases i with
  |zero=>
   simp at hl;simp [hl]
  |succ i=>
   simp only [List.set_cons_succ,List.countP_cons]
   have:=ih (i:=i) (by simpa using hi) (by simpa using hl)
   omega
theorem Ov (l:List Bool):wT l<=l.length:=List.countP_le_length
theorem Ul (m:List Int): ∀(f:Nat) (s:List Bool) (g:Int),(mark m f s g).length=s.length
 |0,_,_=>rfl
 |f+1,s,g=>by
  simp only [mark]
  split
  ·rfl
  ·rw [Ul m f];simp
theorem D8 (m part:List Int) (np:Nat): ∀h,(b7 m part np h).1.length=np/\(b7 m part np h).2.length=m.length/\ ∀i,-(part.length:Int)<=(b7 m part np h).1.getD i 0/\(b7 m part np h).1.getD i 0<=h
 |0=>by
  obtain ⟨h1,h2⟩:=JJ part np part.length;exact ⟨h1,by simp [b7],fun i=>by have:=h2 i;simp only [b7];omega⟩
 |h+1=>by
  obtain ⟨h1,h2,h3⟩:=D8 m part np h;simp only [b7,wX]
  split
  ·exact ⟨h1,h2,fun i=>by have:=h3 i;omega⟩
  ·refine ⟨by simp [h1],by simp only;rw [Ul];exact h2,fun i=>?_⟩;simp only;by_cases e:(part.getD (h/4) 0).toNat=i
   ·by_cases hl:i<(b7 m part np h).1.length
    ·subst e;rw [nY hl];have:=h3 (part.getD (h/4) 0).toNat;omega
    ·have:=h3 i;rw [List.set_eq_of_length_le (by omega)];omega
   ·rw [nZ e];have:=h3 i;omega
def aj (s:List Int) (h:Int):Bool:=if h % 4=1 then s.getD (h/4).toNat 0==1 else if h % 4=2 then true else if h % 4=3 then s.getD (h/4).toNat 0== -1 else false
def ta (s:List Int) (k:Nat):Prop:= ∀i,i<k->s.getD i 0=1\/s.getD i 0= -1
def yX (s m:List Int) (k:Nat):Prop:= ∀h:Nat,h<k->0<=m.getD h 0/\m.getD h 0<4*s.length/\m.getD h 0≠h/\m.getD (m.getD h 0).toNat 0=h/\aj s h≠aj s (m.getD h 0)
instance (s:List Int) (k:Nat):Decidable (ta s k):=inferInstanceAs (Decidable (∀i,i<k->s.getD i 0=1\/s.getD i 0= -1))
instance (s m:List Int) (k:Nat):Decidable (yX s m k):=inferInstanceAs (Decidable (∀h:Nat,h<k->0<=m.getD h 0/\m.getD h 0<4*s.length/\m.getD h 0≠h/\m.getD (m.getD h 0).toNat 0=h/\aj s h≠aj s (m.getD h 0)))
def rz (s m:List Int) (L:Int):Bool:=decide (s.length<=64/\m.length=4*s.length/\0<=L/\L<=64/\ta s s.length/\yX s m (4*s.length))
def bf (s m:List Int) (L:Int):Bool:=rz s m L&&qJ m s.length
theorem uv {s m:List Int} {L:Int} (h: ¬(s.length<=64/\m.length=4*s.length/\0<=L/\L<=64/\ta s s.length/\yX s m (4*s.length))):false=bf s m L:=by
 unfold bf rz;rw [decide_eq_false h];rfl
theorem vbT {s m:List Int} {L:Int} (h:s.length<=64/\m.length=4*s.length/\0<=L/\L<=64/\ta s s.length/\yX s m (4*s.length)):qJ m s.length=bf s m L:=by
 unfold bf rz;rw [decide_eq_true h];rfl
theorem ZY {s m:List Int} {L:Int}:bf s m L=true↔(s.length<=64/\m.length=4*s.length/\0<=L/\L<=64/\ta s s.length/\yX s m (4*s.length))/\qJ m s.length=true:=by
 unfold bf rz;rw [zzS,decide_eq_true_iff]
theorem NK {s:List Int} {k:Nat} (h:ta s k) (hx:s.getD k 0=1\/s.getD k 0= -1):ta s (k+1):=fun i hi=>by
 rcases zzV i k with g|g
 ·exact h i g
 ·rw [show i=k by omega];exact hx
theorem VC {s m:List Int} {k:Nat} (h:yX s m k) (hx:0<=m.getD k 0/\m.getD k 0<4*s.length/\m.getD k 0≠k/\m.getD (m.getD k 0).toNat 0=k/\aj s k≠aj s (m.getD k 0)):yX s m (k+1):=fun i hi=>by
 rcases zzV i k with g|g
 ·exact h i g
 ·rw [show i=k by omega];exact hx
theorem O6 {b:Bool} (h:b=false): ¬b=true:=by simp [h]
theorem ZX {l:List Int} {k:Nat} (hk:k<l.length) (h: ¬l.getD k 0=2):l.all (· ==2)=false:=by
 cases ha:l.all (· ==2) with
 |false=>rfl
 |true=>
  have:=List.all_eq_true.1 ha _ (List.getElem_mem hk)
  simp only [beq_iff_eq] at this;simp [hk,this] at h
theorem ZB {l:List Int} (h: ∀i,i<l.length->l.getD i 0=2):l.all (· ==2)=true:=by
 rw [List.all_eq_true];intro x hx;obtain ⟨i,hi,rfl⟩:=List.mem_iff_getElem.1 hx
 have:=h i hi
 simpa [hi] using this
def it (nx:Int->Int):Nat->Int->Int
 |0,x=>x
 |j+1,x=>nx (it nx j x)
def its (nx:Int->Int) (x:Int) (k:Nat):List Int:=(List.range k).map fun j=>it nx j x
theorem Uk (nx:Int->Int) (x:Int) (k:Nat):its nx x (k+1)=its nx x k++[it nx k x]:=by simp [its,List.range_succ]
theorem Mt (nx:Int->Int) (x:Int) (k:Nat):(its nx x k).length=k:=by simp [its]
structure uW (nx:Int->Int) (x:Int) (k:Nat):Prop where
 pos:0<k
 back:it nx k x=x
 first: ∀j,0<j->j<k->it nx j x≠x
def oF (seen:List Bool):List Int->List Bool
 |[]=>seen
 |g::r=>oF (seen.set g.toNat true) r
theorem Fw (l:List Int): ∀seen,(oF seen l).length=seen.length:=by
 induction l with
 |nil=>intro s;rfl
 |cons g r ih=>intro s;simp [oF,ih]
theorem NJ (a:List Int): ∀(seen:List Bool) (b:List Int),oF seen (a++b)=oF (oF seen a) b:=by
 induction a with
 |nil=>intro s b;rfl
 |cons g r ih=>intro s b;simp [oF,ih]
theorem Ef (l:List Int): ∀(seen:List Bool) (i:Nat),(∀g∈l,0<=g/\g.toNat<seen.length)->(oF seen l).getD i false=(seen.getD i false||decide ((i:Int)∈l)):=by
 induction l with
 |nil=>intro s i _;simp [oF]
 |cons g r ih=>
  intro s i h;have hg:=h g (by simp);rw [oF,ih _ _ (fun x hx=>by simpa using h x (by simp [hx]))];by_cases e:g.toNat=i
  ·subst e;rw [nY hg.2]
   have:((g.toNat:Nat):Int)=g:=by omega
   simp [this]
  ·rw [nZ e]
   have:(i:Int)≠g:=by omega
   simp [this]
def jI (want:Int->Bool) (orb:Int->List Int) (h:Nat) (st:List (List Int)×List Bool):List (List Int)×List Bool:=
 if st.2.getD h false|| !want h then st else (st.1++[orb h],oF st.2 (orb h))
def aT (N:Nat) (want:Int->Bool) (orb:Int->List Int):Nat->List (List Int)×List Bool
 |0=>([],List.replicate N false)
 |h+1=>jI want orb h (aT N want orb h)
theorem JX (N:Nat) (want:Int->Bool) (orb:Int->List Int): ∀h,(aT N want orb h).2.length=N/\(aT N want orb h).1.length<=h
 |0=>by simp [aT]
 |h+1=>by
  obtain ⟨h1,h2⟩:=JX N want orb h;simp only [aT,jI]
  split
  ·exact ⟨h1,by omega⟩
  ·exact ⟨by simp only;rw [Fw];exact h1,by simp;omega⟩
theorem LY: ∀(N:Nat) (f:Nat->Nat),(∀i,i<=N->f i<N)-> ∃i j,i<j/\j<=N/\f i=f j
 |0,f,h=>absurd (h 0 (zzA _)) (by omega)
 |N+1,f,h=>by
  by_cases hx: ∃i,i<=N/\f i=f (N+1)
  ·obtain ⟨i,hi,e⟩:=hx;exact ⟨i,N+1,by omega,by omega,e⟩
  ·have aA: ∀i,i<=N->f i≠f (N+1):=fun i hi e=>hx ⟨i,hi,e⟩;have hg: ∀i,i<=N->(if f i=N then f (N+1) else f i)<N:=by
    intro i hi;have h1:=h i (by omega);have h2:=h (N+1) (by omega);have h3:=aA i hi
    split<;>omega
   obtain ⟨i,j,kB,hj,e⟩:=LY N (fun i=>if f i=N then f (N+1) else f i) hg;refine ⟨i,j,kB,by omega,?_⟩;have h1:=aA i (by omega);have h2:=aA j hj
   split at e<;>split at e<;>omega
theorem Ja {p:Nat->Prop}: ∀n,p n-> ∃k,k<=n/\p k/\ ∀m,m<k-> ¬p m:=by
 intro n
 induction n using Nat.strongRecOn with
 |_ n ih=>
  intro hn;by_cases hx: ∃m,m<n/\p m
  ·obtain ⟨m,hm,hp⟩:=hx;obtain ⟨k,h1,h2,h3⟩:=ih m hm hp;exact ⟨k,by omega,h2,h3⟩
  ·exact ⟨n,zzA _,hn,fun m hm hp=>hx ⟨m,hm,hp⟩⟩
theorem BU (nx:Int->Int) (i j:Nat) (x:Int):it nx (i+j) x=it nx i (it nx j x):=by
 induction i with
 |zero=>simp [it]
 |succ i ih=>rw [Nat.add_right_comm];simp [it,ih]
structure Perm (nx:Int->Int) (N:Nat) (S:Int->Prop):Prop where
 iP: ∀x,S x->0<=x/\x<N
 closed: ∀x,S x->S (nx x)
 inj: ∀x y,S x->S y->nx x=nx y->x=y
section
variable {nx:Int->Int} {N:Nat} {S:Int->Prop}
theorem Perm.it (h:Perm nx N S) {x:Int} (hx:S x): ∀j,S (it nx j x)
 |0=>hx
 |j+1=>h.closed _ (h.it hx j)
theorem Perm.cancel (h:Perm nx N S) {x:Int} (hx:S x): ∀i d,Proofs.YtjpbeacamoijhaaGreatDoor.it nx (i+d) x=Proofs.YtjpbeacamoijhaaGreatDoor.it nx i x->Proofs.YtjpbeacamoijhaaGreatDoor.it nx d x=x
 |0,d,e=>by simpa [Proofs.YtjpbeacamoijhaaGreatDoor.it] using e
 |i+1,d,e=>by
  rw [Nat.add_right_comm] at e;exact h.cancel hx i d (h.inj _ _ (h.it hx _) (h.it hx _) e)
theorem Perm.Gb (h:Perm nx N S) {x:Int} (hx:S x): ∃k,k<=N/\uW nx x k:=by
 obtain ⟨i,j,kB,hj,e⟩:=LY N (fun j=>(Proofs.YtjpbeacamoijhaaGreatDoor.it nx j x).toNat) (fun i _=>by have:=h.iP _ (h.it hx i);omega);have r1:=h.iP _ (h.it hx i);have r2:=h.iP _ (h.it hx j);have e':Proofs.YtjpbeacamoijhaaGreatDoor.it nx (i+(j-i)) x=Proofs.YtjpbeacamoijhaaGreatDoor.it nx i x:=by rw [show i+(j-i)=j by omega];omega
 have hd:=h.cancel hx i (j-i) e';obtain ⟨k,h1,⟨h2,h3⟩,h4⟩:=Ja (p:=fun d=>0<d/\Proofs.YtjpbeacamoijhaaGreatDoor.it nx d x=x) (j-i) ⟨by omega,hd⟩;exact ⟨k,by omega,h2,h3,fun m hm aD e=>h4 m aD ⟨hm,e⟩⟩
theorem RA {x:Int} {k:Nat} (h:uW nx x k): ∀j,it nx j x=it nx (j % k) x:=by
 intro j
 induction j using Nat.strongRecOn with
 |_ j ih=>
  rcases zzV j k with g|g
  ·rw [Nat.mod_eq_of_lt g]
  ·have h0:=h.pos
   have:it nx j x=it nx (j-k) x:=by
    conv=>lhs;rw [show j=(j-k)+k by omega]
    rw [BU,h.back]
   rw [this,ih (j-k) (by omega),<-Nat.mod_eq_sub_mod g]
theorem Fk {x y:Int} {k:Nat}:y∈its nx x k↔ ∃j,j<k/\it nx j x=y:=by simp [its]
theorem Vp {x y:Int} {k:Nat} (h:uW nx x k):y∈its nx x k↔ ∃j,it nx j x=y:=by
 rw [Fk];constructor
 ·rintro ⟨j,_,e⟩;exact ⟨j,e⟩
 ·rintro ⟨j,e⟩;exact ⟨j % k,Nat.mod_lt _ h.pos,by rw [<-RA h,e]⟩
theorem ZW {x y:Int} {k:Nat} (h:uW nx x k) (hy: ∃j,it nx j x=y): ∃j,it nx j y=x:=by
 obtain ⟨j,e⟩:=hy;have h0:=h.pos;refine ⟨k-j % k,?_⟩;have aD:=Nat.mod_lt j h0;rw [<-e,RA h j,<-BU,show k-j % k+j % k=k by omega,h.back]
theorem yul {x y z:Int} (h1: ∃j,it nx j x=y) (h2: ∃j,it nx j y=z): ∃j,it nx j x=z:=by
 obtain ⟨i,rfl⟩:=h1;obtain ⟨j,rfl⟩:=h2;exact ⟨j+i,BU nx j i x⟩
theorem ZA (h:Perm nx N S) {x:Int} {k:Nat} (hx:S x) (hp:uW nx x k):(its nx x k).Nodup:=by
 unfold its;rw [List.nodup_iff_pairwise_ne,List.pairwise_map];refine List.Pairwise.imp_of_mem ?_ (List.pairwise_lt_range);intro a b ha hb aD e;have hb:=List.mem_range.1 hb
 have:=h.cancel hx a (b-a) (by rw [show a+(b-a)=b by omega];exact e.symm)
 exact hp.first (b-a) (by omega) (by omega) this
end
def mZ (x:Int) (l:List Int):Bool:=l.all fun y=>decide (x<=y)
theorem zO {x:Int} {l:List Int}:mZ x l=true↔ ∀y∈l,x<=y:=by simp [mZ]
theorem Ms {N:Nat} {want:Int->Bool} {orb:Int->List Int} (hr: ∀x:Nat,x<N->want x=true-> ∀y∈orb x,0<=y/\y<N) (hx: ∀x:Nat,x<N->want x=true->(x:Int)∈orb x)
  (hs: ∀x y:Nat,x<N->y<N->want x=true->(y:Int)∈orb x->want y=true/\(x:Int)∈orb y)
  (ht: ∀x y z:Nat,x<N->y<N->z<N->want x=true->(y:Int)∈orb x->(z:Int)∈orb y->(z:Int)∈orb x): ∀h,h<=N->
  (aT N want orb h).1=((List.range h).filter fun i:Nat=>want i&&mZ i (orb i)).map (fun i:Nat=>orb i)/\
  ∀g,g<N->((aT N want orb h).2.getD g false=true↔ ∃x:Nat,x<h/\want x=true/\(g:Int)∈orb x)
 |0,_=>⟨by simp [aT],fun g hg=>by simp [aT,hg]⟩
 |h+1,hh=>by
  obtain ⟨h1,h2⟩:=Ms hr hx hs ht h (by omega);obtain ⟨hl,_⟩:=JX N want orb h;have h3:=h2 h (by omega);simp only [aT,jI];by_cases hc:(aT N want orb h).2.getD h false=true\/want h=false
  ·rw [zzJ (by rcases hc with hc|hc<;>rw [hc]<;>simp)];have hf:(want h&&mZ h (orb h))=false:=by
    rcases hc with hc|hc
    ·obtain ⟨x,X3,hwx,hm⟩:=h3.1 hc;cases hw:want h with
     |false=>simp
     |true=>
      have uC:=(hs x h (by omega) (by omega) hwx hm).2;cases Ha:mZ h (orb h) with
      |false=>simp
      |true=>have:=zO.1 Ha _ uC;omega
    ·simp [hc]
   refine ⟨by rw [h1,List.range_succ,List.filter_append];simp [hf],fun g hg=>?_⟩;rw [h2 g hg];constructor
   ·rintro ⟨x,h4,h5⟩;exact ⟨x,by omega,h5⟩
   ·rintro ⟨x,h4,h5,h6⟩;rcases zzV x h with q|q
    ·exact ⟨x,q,h5,h6⟩
    ·obtain rfl:x=h:=by omega
     rcases hc with hc|hc
     ·obtain ⟨z,hz,X6,hm⟩:=h3.1 hc;exact ⟨z,hz,X6,ht z x g (by omega) (by omega) hg X6 hm h6⟩
     ·simp [hc] at h5
  ·have hw:want h=true:=by cases hw:want h<;>simp_all
   have hn: ¬(aT N want orb h).2.getD h false=true:=fun e=>hc (.inl e);have Ha:mZ h (orb h)=true:=zO.2 fun y hy=>by
    have hry:=hr h (by omega) hw y hy;obtain ⟨n,rfl⟩: ∃n:Nat,y=n:=⟨y.toNat,by omega⟩;rcases zzV n h with q|q
    ·have:=hs h n (by omega) (by omega) hw hy
     exact absurd (h3.2 ⟨n,q,this.1,this.2⟩) hn
    ·omega
   rw [zzI (by simp only [Bool.not_eq_true] at hn;rw [hn,hw];simp)];refine ⟨by simp only [h1];rw [List.range_succ,List.filter_append];simp [hw,Ha],fun g hg=>?_⟩;simp only;rw [Ef _ _ _ (fun y hy=>by have:=hr h (by omega) hw y hy;exact ⟨this.1,by omega⟩),Bool.or_eq_true,h2 g hg,decide_eq_true_iff];constructor
   ·rintro (⟨x,h4,h5⟩|h4)
    ·exact ⟨x,by omega,h5⟩
    ·exact ⟨h,by omega,hw,h4⟩
   ·rintro ⟨x,h4,h5,h6⟩;rcases zzV x h with q|q
    ·exact .inl ⟨x,q,h5,h6⟩
    ·obtain rfl:x=h:=by omega
     exact .inr h6
def nb (m:List Int) (a s:Nat):Nat:=(m.getD (4*a+s) 0/4).toNat
inductive bT (m:List Int):Nat->Nat->Prop
 |refl (a:Nat):bT m a a
 |step {a b:Nat} (s:Nat) (hs:s<4) (h:bT m a b):bT m a (nb m b s)
structure iv (m:List Int) (n:Nat):Prop where
 ok:pT m n
 inv: ∀h:Nat,h<4*n->m.getD (m.getD h 0).toNat 0=h
section
variable {m:List Int} {n:Nat}
theorem bT.trans {a b c:Nat} (h1:bT m a b) (h2:bT m b c):bT m a c:=by
 induction h2 with
 |refl=>exact h1
 |step s hs _ ih=>exact .step s hs ih
theorem iv.nQ (hp:iv m n) {a s:Nat} (ha:a<n) (hs:s<4):nb m a s<n:=by
 have:=hp.ok.2 (4*a+s) (by omega);unfold nb;omega
theorem iv.back (hp:iv m n) {a s:Nat} (ha:a<n) (hs:s<4): ∃t,t<4/\nb m (nb m a s) t=a:=by
 have h1:=hp.ok.2 (4*a+s) (by omega);have h2:=hp.inv (4*a+s) (by omega);refine ⟨(m.getD (4*a+s) 0 % 4).toNat,by omega,?_⟩;unfold nb;rw [show 4*(m.getD (4*a+s) 0/4).toNat+(m.getD (4*a+s) 0 % 4).toNat=(m.getD (4*a+s) 0).toNat by omega,h2];omega
theorem bT.lt (hp:iv m n) {a b:Nat} (h:bT m a b) (ha:a<n):b<n:=by
 induction h with
 |refl=>exact ha
 |step s hs _ ih=>exact hp.nQ ih hs
theorem bT.symm (hp:iv m n) {a b:Nat} (h:bT m a b) (ha:a<n):bT m b a:=by
 induction h with
 |refl=>exact .refl _
 | @step b s hs h ih=>
   obtain ⟨t,ht,e⟩:=hp.back (h.lt hp ha) hs;have h1:=bT.step t ht (bT.refl (m:=m) (nb m b s));rw [e] at h1;exact h1.trans ih
theorem bT.closed (hp:iv m n) {S:Nat->Prop} (hc: ∀a s,a<n->s<4->S a->S (nb m a s)) {a b:Nat} (h:bT m a b) (ha:a<n) (hS:S a):S b:=by
 induction h with
 |refl=>exact hS
 |step s hs h ih=>exact hc _ s (h.lt hp ha) hs ih
structure BJ (m:List Int) (n:Nat) (p:Int) (c:Nat) (part q:List Int) (at':Nat) (s:Nat):Prop where
 pok:v8 n p part
 qok:Bg n q
 y9: ∀a,a<n->0<=part.getD a 0->part.getD a 0≠p-> ∀s,s<4->part.getD (nb m a s) 0=part.getD a 0
 cur: ∀a,a<n->part.getD a 0=p->(a:Int)∉q->a≠at'-> ∀s,s<4->part.getD (nb m a s) 0=p
 con: ∀a,a<n->part.getD a 0=p->bT m c a
 que: ∀x∈q,part.getD x.toNat 0=p
 hd:at'<n->part.getD at' 0=p/\ ∀s',s'<s->part.getD (nb m at' s') 0=p
theorem BJ.one (hp:iv m n) {p:Int} (h0:0<=p) {c a s:Nat} {st:List Int×List Int} (h:BJ m n p c st.1 st.2 a s) (ha:a<n) (hs:s<4):BJ m n p c (p7 m a p s st).1 (p7 m a p s st).2 a (s+1):=by
 have aD:=hp.nQ ha hs;have iL:=RB hp.ok (c:=(a:Int)) (p:=p) ⟨by omega,by omega⟩ h0 hs h.pok h.qok;obtain ⟨EE,C9⟩:=h.hd ha;have e0:m.getD (4*(a:Int)+s).toNat 0/4=(nb m a s:Int):=by
  have:=hp.ok.2 (4*a+s) (by omega)
  unfold nb;rw [show (4*(a:Int)+s).toNat=4*a+s by omega];omega
 have ng:=h.pok.1;by_cases hn:st.1.getD (nb m a s) 0<0
 ·have e:p7 m a p s st=(st.1.set (nb m a s) p,st.2++[(nb m a s:Int)]):=by
   unfold p7;simp only;rw [e0];simp only [zzC];rw [zzJ hn]
  rw [e] at iL⊢;have hg: ∀b,(st.1.set (nb m a s) p).getD b 0=if b=nb m a s then p else st.1.getD b 0:=by
   intro b;by_cases eb:nb m a s=b
   ·subst eb;rw [zzJ rfl,nY (by omega)]
   ·rw [nZ eb,zzI (Ne.symm eb)]
  refine ⟨iL.1,iL.2.1,?_,?_,?_,?_,?_⟩
  ·intro b hb h1 h2 t ht;simp only [hg] at h1 h2⊢;by_cases eb:b=nb m a s
   ·rw [zzJ eb] at h2;omega
   ·rw [zzI eb] at h1 h2⊢;have h3:=h.y9 b hb h1 h2 t ht;rw [zzI ?_,h3];intro e';rw [e'] at h3;omega
  ·intro b hb h1 h2 h3 t ht;simp only [hg] at h1⊢;have eb:b≠nb m a s:=fun e'=>h2 (by simp [e']);rw [zzI eb] at h1
   have:=h.cur b hb h1 (fun hm=>h2 (by simp [hm])) h3 t ht
   split
   ·rfl
   ·exact this
  ·intro b hb h1;simp only [hg] at h1;by_cases eb:b=nb m a s
   ·subst eb;exact .step s hs (h.con a ha EE)
   ·rw [zzI eb] at h1;exact h.con b hb h1
  ·intro x hx;rcases List.mem_append.1 hx with hx|hx
   ·have:=h.que x hx
    simp only [hg];split
    ·rfl
    ·exact this
   ·rw [List.mem_singleton.1 hx];simp only [hg,zzC,zzJ]
  ·intro _;simp only [hg];refine ⟨?_,fun s' bJ=>?_⟩
   ·split
    ·rfl
    ·exact EE
   ·rcases zzV s' s with g|g
    ·split
     ·rfl
     ·exact C9 s' g
    ·rw [show s'=s by omega,zzJ rfl]
 ·have e:p7 m a p s st=st:=by
   unfold p7;simp only;rw [e0];simp only [zzC];rw [zzI hn]
  rw [e];refine ⟨h.pok,h.qok,h.y9,h.cur,h.con,h.que,fun _=>⟨EE,fun s' bJ=>?_⟩⟩;rcases zzV s' s with g|g
  ·exact C9 s' g
  ·obtain rfl:s'=s:=by omega
   by_cases ep:st.1.getD (nb m a s') 0=p
   ·exact ep
   ·obtain ⟨t,ht,eb⟩:=hp.back ha hs
    have:=h.y9 (nb m a s') aD (by omega) ep t ht
    rw [eb] at this;omega
theorem BJ.four (hp:iv m n) {p:Int} (h0:0<=p) {c a:Nat} {st:List Int×List Int} (h:BJ m n p c st.1 st.2 a 0) (ha:a<n): ∀s,s<=4->BJ m n p c (lb4 m a p st s).1 (lb4 m a p st s).2 a s
 |0,_=>h
 |s+1,hs=>(BJ.four hp h0 h ha s (by omega)).one hp h0 ha (by omega)
theorem Rz (hp:iv m n) {p:Int} (h0:0<=p) {c:Nat}: ∀(f:Nat) (part q:List Int),BJ m n p c part q n 0->2*pY part+q.length<=f->BJ m n p c (bfs m p f part q) [] n 0
 |f,part,[],h,_=>by unfold bfs;exact h
 |0,part,_::_,_,hf=>by simp at hf
 |f+1,part,x::q,h,hf=>by
  obtain ⟨oU,KF⟩:=h.qok x (by simp);have CF:=h.que x (by simp);obtain ⟨a,rfl⟩: ∃a:Nat,x=a:=⟨x.toNat,by omega⟩;have ha:a<n:=by omega
  simp only [zzC] at CF;have h1:BJ m n p c (part,q).1 (part,q).2 a 0:=⟨h.pok,fun y hy=>h.qok y (by simp [hy]),h.y9,fun b hb Qx Qw aA s hs=>h.cur b hb Qx (by simp only [List.mem_cons,not_or];exact ⟨by omega,Qw⟩) (by omega) s hs,h.con,fun y hy=>h.que y (by simp [hy]),fun _=>⟨CF,fun s' bJ=>by omega⟩⟩;have h2:=BJ.four hp h0 h1 ha 4 (zzA _)
  obtain ⟨_,_,h3,_⟩:=Jb hp.ok (c:=(a:Int)) (p:=p) ⟨by omega,by omega⟩ h0 (st:=(part,q)) h1.pok h1.qok 4 (zzA _);simp only [bfs];simp only [zzG] at hf;simp only at h3;refine Rz hp h0 f _ _ ⟨h2.pok,h2.qok,h2.y9,fun b hb Qx Qw _ s hs=>?_,h2.con,h2.que,fun hh=>by omega⟩ (by omega);by_cases e:b=a
  ·subst e;exact (h2.hd ha).2 s hs
  ·exact h2.cur b hb Qx Qw e s hs
theorem Ou (m:List Int) (c p:Int) (s:Nat) (st:List Int×List Int) (i:Nat):(p7 m c p s st).1.getD i 0=st.1.getD i 0\/(p7 m c p s st).1.getD i 0=p:=by
 unfold p7;simp only
 split
 ·by_cases e:(m.getD (4*c+s).toNat 0/4).toNat=i
  ·subst e;by_cases hl:(m.getD (4*c+s).toNat 0/4).toNat<st.1.length
   ·right;simp only;rw [nY hl]
   ·left;simp only;rw [List.set_eq_of_length_le (by omega)]
  ·left;simp only;rw [nZ e]
 ·exact .inl rfl
theorem Ry (m:List Int) (c p:Int) (st:List Int×List Int) (i:Nat): ∀s,(lb4 m c p st s).1.getD i 0=st.1.getD i 0\/(lb4 m c p st s).1.getD i 0=p
 |0=> .inl rfl
 |s+1=>by
  rcases Ou m c p s (lb4 m c p st s) i with h|h
  ·rcases Ry m c p st i s with g|g
   ·exact .inl (by simp only [lb4];rw [h,g])
   ·exact .inr (by simp only [lb4];rw [h,g])
  ·exact .inr h
theorem Rx (m:List Int) (p:Int) (i:Nat): ∀(f:Nat) (part q:List Int),(bfs m p f part q).getD i 0=part.getD i 0\/(bfs m p f part q).getD i 0=p
 |_,part,[]=>by unfold bfs;exact .inl rfl
 |0,part,_::_=>by simp [bfs]
 |f+1,part,c::q=>by
  simp only [bfs];rcases Rx m p i f (lb4 m c p (part,q) 4).1 (lb4 m c p (part,q) 4).2 with h|h
  ·rcases Ry m c p (part,q) i 4 with g|g
   ·exact .inl (h.trans g)
   ·exact .inr (h.trans g)
  ·exact .inr h
structure LI (m:List Int) (n:Nat) (st:List Int×Int):Prop where
 clo: ∀a,a<n->0<=st.1.getD a 0-> ∀s,s<4->st.1.getD (nb m a s) 0=st.1.getD a 0
 con: ∀a b,a<n->b<n->0<=st.1.getD a 0->st.1.getD a 0=st.1.getD b 0->bT m a b
 att: ∀p:Nat,(p:Int)<st.2-> ∃a,a<n/\st.1.getD a 0=p
theorem LX (hp:iv m n): ∀k,k<=n->LI m n (cj m n k)
 |0,_=>⟨fun a ha h=>by simp [cj,ha] at h,fun a b ha _ h=>by simp [cj,ha] at h,fun p h=>by simp [cj] at h;omega⟩
 |k+1,hk=>by
  have ih:=LX hp k (by omega);obtain ⟨g1,g2,g3⟩:=E7 hp.ok k (by omega);have Y8:=fun i hi=>(E6 hp.ok k (by omega) i hi).1;simp only [cj,Eo]
  split
  ·exact ih
  ·rename_i tz
   have tz:(cj m n k).1.getD k 0<0:=by omega
   generalize cj m n k=st at*;obtain ⟨part,p⟩:=st;simp only at*;have og:=g1.1;have hset: ∀b,(part.set k p).getD b 0=if b=k then p else part.getD b 0:=by
    intro b;by_cases eb:k=b
    ·subst eb;rw [zzJ rfl,nY (by omega)]
    ·rw [nZ eb,zzI (Ne.symm eb)]
   have oj:BJ m n p k (part.set k p) [(k:Int)] n 0:=by
    refine ⟨⟨by simp [og],fun i hi=>by rw [hset];have:=g1.2 i hi;split<;>omega⟩,fun x hx=>by simp at hx;omega,?_,?_,?_,fun x hx=>by simp at hx;subst hx;simp only [zzC];rw [hset,zzJ rfl],fun hh=>by omega⟩
    ·intro a ha h1 h2 s hs;simp only [hset] at h1 h2⊢;by_cases e:a=k
     ·rw [zzJ e] at h2;omega
     ·rw [zzI e] at h1 h2⊢
      have:part.getD (nb m a s) 0=part.getD a 0:=ih.clo a ha h1 s hs
      rw [zzI ?_,this];intro e';rw [e'] at this;omega
    ·intro a ha h1 h2 _ s hs;simp only [hset] at h1;by_cases e:a=k
     ·subst e;simp at h2
     ·rw [zzI e] at h1;have:=Y8 a ha;omega
    ·intro a ha h1;simp only [hset] at h1;by_cases e:a=k
     ·subst e;exact .refl _
     ·rw [zzI e] at h1;have:=Y8 a ha;omega
   have jS:=M3 (i:=k) (p:=p) (by omega) tz g2;have ju:=SY part;have hb:=Rz hp g2 (2*n+1) _ _ oj (by simp only [List.length_singleton];omega);have Bx:=fun i=>MZ (m:=m) (p:=p) (i:=i) (2*n+1) (part.set k p) [(k:Int)];have jT:(bfs m p (2*n+1) (part.set k p) [(k:Int)]).getD k 0=p:=by
    rw [Bx k (by rw [hset,zzJ rfl];exact g2),hset,zzJ rfl]
   have sW:=fun i=>Rx m p i (2*n+1) (part.set k p) [(k:Int)];generalize bfs m p (2*n+1) (part.set k p) [(k:Int)]=res at*;have hold: ∀a,a<n->0<=part.getD a 0->res.getD a 0=part.getD a 0:=by
    intro a ha h1;have e:a≠k:=fun e=>by subst e;omega
    have h2:=Bx a;rw [hset,zzI e] at h2;exact h2 h1
   have hnew: ∀a,a<n->0<=res.getD a 0->res.getD a 0≠p->0<=part.getD a 0:=by
    intro a ha h1 h2;have h3:=sW a;rw [hset] at h3;rcases h3 with h3|h3
    ·split at h3
     ·omega
     ·omega
    ·omega
   have c1: ∀a,a<n->0<=res.getD a 0-> ∀s,s<4->res.getD (nb m a s) 0=res.getD a 0:=fun a ha h1 s hs=>by
    by_cases e:res.getD a 0=p
    ·rw [e];exact hb.cur a ha e (by simp) (by omega) s hs
    ·exact hb.y9 a ha h1 e s hs
   have c2: ∀a b,a<n->b<n->0<=res.getD a 0->res.getD a 0=res.getD b 0->bT m a b:=fun a b ha KV h1 h2=>by
    by_cases e:res.getD a 0=p
    ·exact (bT.symm hp (hb.con a ha e) (by omega)).trans (hb.con b KV (by omega))
    ·have cG:=hnew a ha h1 e;have nW:=hnew b KV (by omega) (by omega);exact ih.con a b ha KV cG (by show part.getD a 0=part.getD b 0;rw [<-hold a ha cG,<-hold b KV nW];exact h2)
   have c3: ∀q:Nat,(q:Int)<p+1-> ∃a,a<n/\res.getD a 0=q:=fun q hq=>by
    rcases Int.lt_or_le q p with g|g
    ·obtain ⟨a,ha,e⟩:=ih.att q g;have e:part.getD a 0=q:=e;exact ⟨a,ha,by rw [hold a ha (by omega),e]⟩
    ·exact ⟨k,by omega,by rw [jT];omega⟩
   exact ⟨c1,c2,c3⟩
theorem U6 (hp:iv m n) {a b:Nat} (ha:a<n) (hb:b<n):(jw m n).1.getD a 0=(jw m n).1.getD b 0↔bT m a b:=by
 have h:=LX hp n (zzA _);have h0:=fun i hi=>(E6 hp.ok n (zzA _) i hi).2 hi;constructor
 ·exact fun e=>h.con a b ha hb (h0 a ha) e
 ·intro hc;refine (bT.closed hp (S:=fun x=>x<n/\(jw m n).1.getD x 0=(jw m n).1.getD a 0) ?_ hc ha ⟨ha,rfl⟩).2.symm;intro x s hx hs ⟨_,e⟩;exact ⟨hp.nQ hx hs,by rw [<-e];exact h.clo x hx (h0 x hx) s hs⟩
theorem yx0 (hp:iv m n) {p:Nat} (h:(p:Int)<(jw m n).2): ∃a,a<n/\(jw m n).1.getD a 0=p:=(LX hp n (zzA _)).att p h
def v7 (m:List Int) (h:Nat) (l:List Int):List Int:=(l.set (h/4) (min (l.getD (h/4) 0) (l.getD (m.getD h 0/4).toNat 0))).set (m.getD h 0/4).toNat (min (l.getD (h/4) 0) (l.getD (m.getD h 0/4).toNat 0))
def rB (m l:List Int):Nat->List Int
 |0=>l
 |h+1=>v7 m h (rB m l h)
def bX (m:List Int) (n:Nat):Nat->List Int
 |0=>(List.range n).map fun (i:Nat)=>(i:Int)
 |k+1=>rB m (bX m n k) (4*n)
def RI (m:List Int) (n:Nat) (l:List Int):Prop:=l.length=n/\ ∀c,c<n->0<=l.getD c 0/\l.getD c 0<=c/\bT m c (l.getD c 0).toNat
theorem SI (hp:iv m n) {l:List Int} (hl:l.length=n) {h:Nat} (hh:h<4*n) (c:Nat):(v7 m h l).getD c 0=if c=h/4\/c=nb m (h/4) (h % 4) then min (l.getD (h/4) 0) (l.getD (nb m (h/4) (h % 4)) 0) else l.getD c 0:=by
 have e:(m.getD h 0/4).toNat=nb m (h/4) (h % 4):=by unfold nb;rw [show 4*(h/4)+h % 4=h by omega]
 have aD:=hp.nQ (a:=h/4) (s:=h % 4) (by omega) (by omega);unfold v7;rw [e];by_cases e1:nb m (h/4) (h % 4)=c
 ·subst e1;rw [nY (by simp;omega),zzJ (.inr rfl)]
 ·rw [nZ e1];by_cases e2:h/4=c
  ·subst e2;rw [nY (by omega),zzJ (.inl rfl)]
  ·rw [nZ e2,zzI (by omega)]
theorem y74 (l:List Int) (h:Nat):(v7 m h l).length=l.length:=by simp [v7]
theorem Rw (hp:iv m n) {l:List Int} (hl:RI m n l) {h:Nat} (hh:h<4*n):RI m n (v7 m h l)/\ ∀c,c<n->(v7 m h l).getD c 0<=l.getD c 0:=by
 have aD:=hp.nQ (a:=h/4) (s:=h % 4) (by omega) (by omega);have h1:=hl.2 (h/4) (by omega);have h2:=hl.2 _ aD;have hc:bT m (h/4) (nb m (h/4) (h % 4)):= .step _ (by omega) (.refl _);have dE:=hc.symm hp (by omega);have key: ∀c,c<n->(0<=(v7 m h l).getD c 0/\(v7 m h l).getD c 0<=c/\bT m c ((v7 m h l).getD c 0).toNat)/\(v7 m h l).getD c 0<=l.getD c 0:=by
  intro c hcn;rw [SI hp hl.1 hh];by_cases e:c=h/4\/c=nb m (h/4) (h % 4)
  ·rw [zzJ e];rw [Int.min_def]
   split
   ·rcases e with e|e
    ·subst e;exact ⟨⟨h1.1,h1.2.1,h1.2.2⟩,Int.le_refl _⟩
    ·subst e;exact ⟨⟨h1.1,by omega,dE.trans h1.2.2⟩,by omega⟩
   ·rcases e with e|e
    ·subst e;exact ⟨⟨h2.1,by omega,hc.trans h2.2.2⟩,by omega⟩
    ·subst e;exact ⟨⟨h2.1,h2.2.1,h2.2.2⟩,Int.le_refl _⟩
  ·rw [zzI e];exact ⟨hl.2 c hcn,Int.le_refl _⟩
 exact ⟨⟨by rw [y74];exact hl.1,fun c hc=>(key c hc).1⟩,fun c hc=>(key c hc).2⟩
theorem I9 (hp:iv m n) {l:List Int} (hl:RI m n l): ∀h,h<=4*n->RI m n (rB m l h)/\ ∀c,c<n->(rB m l h).getD c 0<=l.getD c 0
 |0,_=>⟨hl,fun c _=>Int.le_refl _⟩
 |h+1,hh=>by
  obtain ⟨h1,h2⟩:=I9 hp hl h (by omega);obtain ⟨h3,h4⟩:=Rw hp h1 (h:=h) (by omega);exact ⟨h3,fun c hc=>Int.le_trans (h4 c hc) (h2 c hc)⟩
theorem Rv (hp:iv m n) {l:List Int} (hl:RI m n l): ∀h,h<=4*n-> ∀c s,4*c+s<h->s<4->(rB m l h).getD (nb m c s) 0<=l.getD c 0
 |0,_,c,s,Hu,_=>by omega
 |h+1,hh,c,s,Hu,hs=>by
  obtain ⟨h1,h2⟩:=I9 hp hl h (by omega);obtain ⟨h3,h4⟩:=Rw hp h1 (h:=h) (by omega);rcases zzV (4*c+s) h with q|q
  ·exact Int.le_trans (h4 _ (hp.nQ (by omega) hs)) (Rv hp hl h (by omega) c s q hs)
  ·have e1:h/4=c:=by omega
   have e2:h % 4=s:=by omega
   simp only [rB];rw [SI hp h1.1 (by omega),e1,e2,zzJ (.inr rfl)]
   have:=h2 c (by omega)
   omega
theorem BS (hp:iv m n): ∀k,RI m n (bX m n k)
 |0=>⟨by simp [bX],fun c hc=>by simp [bX,hc];exact .refl _⟩
 |k+1=>(I9 hp (BS hp k) (4*n) (zzA _)).1
theorem yr4 {p q:Nat->Bool} (l:List Nat) (h: ∀x∈l,p x=true->q x=true):l.countP p<=l.countP q:=by
 induction l with
 |nil=>simp
 |cons x l ih=>
  have:=ih (fun y hy=>h y (by simp [hy]))
  have hx:=h x (by simp);simp only [List.countP_cons];cases zk:p x<;>cases hqx:q x<;>simp_all<;>omega
theorem VB {p q:Nat->Bool} (l:List Nat) (h: ∀x∈l,p x=true->q x=true) {y:Nat} (hy:y∈l) (h1:p y=false) (h2:q y=true):l.countP p<l.countP q:=by
 induction l with
 |nil=>simp at hy
 |cons x l ih=>
  have h3:=yr4 l (fun y hy=>h y (by simp [hy]));have hx:=h x (by simp);simp only [List.countP_cons];rcases List.mem_cons.1 hy with e|e
  ·subst e;simp [h1,h2];omega
  ·have:=ih (fun y hy=>h y (by simp [hy])) e
   cases zk:p x<;>cases hqx:q x<;>simp_all<;>omega
theorem Zz (hp:iv m n) {u:Nat} (hu:u<n) (xB: ∀b,bT m u b->u<=b) {b:Nat} (hb:bT m u b):(bX m n n).getD b 0=u:=by
 have Hh: ∀k c,bT m u c->(u:Int)<=(bX m n k).getD c 0:=fun k c hc=>by
  have hr:=(BS hp k).2 c (hc.lt hp hu)
  have:=xB _ (hc.trans hr.2.2);omega
 have nR: ∀k,(bX m n k).getD u 0=u:=fun k=>by
  have hr:=(BS hp k).2 u hu
  have:=Hh k u (.refl _);omega
 have mN: ∀k c,c<n->(bX m n (k+1)).getD c 0<=(bX m n k).getD c 0:=fun k c hc=>(I9 hp (BS hp k) (4*n) (zzA _)).2 c hc;have wm: ∀k c s,c<n->s<4->(bX m n (k+1)).getD (nb m c s) 0<=(bX m n k).getD c 0:=fun k c s hc hs=>Rv hp (BS hp k) (4*n) (zzA _) c s (by omega) hs;have dA: ∀k c,c<n->(bX m n k).getD c 0=u->bT m u c:=fun k c hc e=>by
  have hr:=(BS hp k).2 c hc;have h1:=hr.2.2;rw [e] at h1;exact (by simpa using h1:bT m c u).symm hp hc
 have key: ∀k,(∀c,bT m u c->(bX m n k).getD c 0=u)\/k+1<=(List.range n).countP (fun c=>decide ((bX m n k).getD c 0=u)):=by
  intro k
  induction k with
  |zero=>
   right;exact List.countP_pos_iff.2 ⟨u,List.mem_range.2 hu,by simp only [nR 0,decide_true]⟩
  |succ k ih=>
   rcases ih with ih|ih
   ·left;intro c hc;have h1:=mN k c (hc.lt hp hu);have h2:=Hh (k+1) c hc;rw [ih c hc] at h1;omega
   ·by_cases bF: ∀c s,c<n->s<4->(bX m n k).getD c 0=u->(bX m n k).getD (nb m c s) 0=u
    ·left;intro c hc;have h0:=(bT.closed hp (S:=fun c=>c<n/\(bX m n k).getD c 0=u) (fun a s ha hs h=>⟨hp.nQ ha hs,bF a s ha hs h.2⟩) hc hu ⟨hu,nR k⟩).2;have h1:=mN k c (hc.lt hp hu);have h2:=Hh (k+1) c hc;rw [h0] at h1;omega
    ·right;have hex: ∃c s,c<n/\s<4/\(bX m n k).getD c 0=u/\(bX m n k).getD (nb m c s) 0≠u:=by
      apply zzT;intro aA;exact bF fun c s hc hs e=>zzT fun e'=>aA ⟨c,s,hc,hs,e,e'⟩
     obtain ⟨c,s,hc,hs,e1,e2⟩:=hex;have hcu:=dA k c hc e1;have aD:=hp.nQ hc hs;have h3:(bX m n (k+1)).getD (nb m c s) 0=u:=by
      have h1:=wm k c s hc hs;have h2:=Hh (k+1) (nb m c s) (.step s hs hcu);omega
     have:=VB (p:=fun c=>decide ((bX m n k).getD c 0=u)) (q:=fun c=>decide ((bX m n (k+1)).getD c 0=u)) (List.range n) (fun x hx zk=>by
      have hx:=List.mem_range.1 hx;have e:=of_decide_eq_true zk;have h1:=mN k x hx;have h2:=Hh (k+1) x (dA k x hx e);exact decide_eq_true (by omega)) (List.mem_range.2 aD) (decide_eq_false e2) (decide_eq_true h3)
     omega
 rcases key n with h|h
 ·exact h b hb
 ·have:=List.countP_le_length (p:=fun c=>decide ((bX m n n).getD c 0=u)) (l:=List.range n)
  rw [List.length_range] at this;omega
theorem Mr (hp:iv m n) {a:Nat} (ha:a<n): ∃u,u<n/\bT m u a/\(∀b,b<n->((bX m n n).getD b 0=u↔bT m a b)):=by
 obtain ⟨u,h1,h2,h3⟩:=Ja (p:=fun b=>bT m a b) a (.refl _);have hu:u<n:=by omega
 have xB: ∀b,bT m u b->u<=b:=fun b hb=>Nat.le_of_not_lt fun aD=>h3 b aD (h2.trans hb);have KG:=h2.symm hp ha;refine ⟨u,hu,KG,fun b hb=>⟨fun e=>?_,fun mQ=>Zz hp hu xB (KG.trans mQ)⟩⟩;have hr:=(BS hp n).2 b hb;have h4:=hr.2.2;rw [e] at h4;exact h2.trans ((by simpa using h4:bT m b u).symm hp hb)
end
def iz (nx:Int->Int) (x:Int):Nat->Int->List Int
 |0,_=>[]
 |f+1,g=>if g=x then [] else g::iz nx x f (nx g)
def af (nx:Int->Int) (N:Nat) (x:Int):List Int:=x::iz nx x N (nx x)
theorem SH {nx:Int->Int} {x:Int} {k:Nat} (h:uW nx x k): ∀f j,0<j->j<=k->k<=f+j->iz nx x f (it nx j x)=(List.range (k-j)).map fun i=>it nx (j+i) x
 |0,j,h0,h1,h2=>by obtain rfl:j=k:=by omega
                   simp [iz]
 |f+1,j,h0,h1,h2=>by
  unfold iz;by_cases e:j=k
  ·subst e;rw [zzJ h.back];simp
  ·rw [zzI (h.first j h0 (by omega)),show k-j=(k-(j+1))+1 by omega,List.range_succ_eq_map];rw [show nx (it nx j x)=it nx (j+1) x from rfl,SH h f (j+1) (by omega) (by omega) (by omega)];simp only [List.map_cons,Nat.add_zero,List.map_map,List.cons.injEq,true_and];refine List.map_congr_left fun i _=>?_;simp only [Function.comp];rw [show j+i.succ=j+1+i by omega]
theorem SF {nx:Int->Int} {x:Int} {k N:Nat} (h:uW nx x k) (hk:k<=N+1):af nx N x=its nx x k:=by
 have h0:=h.pos;unfold af its;rw [show nx x=it nx 1 x from rfl,SH h N 1 (by omega) (by omega) (by omega)]
 conv=>rhs;rw [show k=(k-1)+1 by omega,List.range_succ_eq_map]
 simp only [List.map_cons,List.map_map];refine congrArg (List.cons x) (List.map_congr_left fun i _=>?_);simp only [Function.comp];rw [show i.succ=1+i by omega]
def cm (m:List Int) (g:Int):Int:=iJ (m.getD g.toNat 0) (-1)
def av (n:Nat) (x:Int):Prop:=0<=x/\x<4*n
theorem y0a {n:Nat} {x y b:Int} (hx:av n x) (hy:av n y) (e:iJ x b=iJ y b):x=y:=by
 have: -4<b.tmod 4/\b.tmod 4<4:=⟨Int.lt_tmod_of_pos b (by decide),Int.tmod_lt_of_pos b (by decide)⟩
 unfold iJ av at*;omega
section
variable {m:List Int} {n:Nat}
theorem iv.inj (hp:iv m n) {x y:Int} (hx:av n x) (hy:av n y) (e:m.getD x.toNat 0=m.getD y.toNat 0):x=y:=by
 unfold av at*;have h1:=hp.inv x.toNat (by omega);have h2:=hp.inv y.toNat (by omega);rw [e,h2] at h1;omega
theorem iv.iP (hp:iv m n) {x:Int} (hx:av n x):av n (m.getD x.toNat 0):=by
 unfold av at*;have:=hp.ok.2 x.toNat (by omega);omega
theorem UO (hp:iv m n) (b:Int):Perm (fun g=>iJ (m.getD g.toNat 0) b) (4*n) (av n):=
 ⟨fun x hx=>by unfold av at hx;omega,fun x hx=>by have:=hp.iP hx;unfold av at*;exact FE this.1 this.2,
  fun x y hx hy e=>hp.inj hx hy (y0a (hp.iP hx) (hp.iP hy) e)⟩
theorem Kc (hp:iv m n):Perm (cm m) (4*n) (av n):=UO hp (-1)
theorem A5 {nx:Int->Int} {N:Nat} {S:Int->Prop} (h:Perm nx N S) {x:Int} (hx:S x):
  (∀y,y∈af nx N x↔ ∃j,it nx j x=y)/\(∀y∈af nx N x,S y)/\(∀y∈af nx N x,x∈af nx N y)/\(∀y∈af nx N x,∀z∈af nx N y,z∈af nx N x)/\x∈af nx N x/\(af nx N x).length<=N/\(af nx N x).Nodup/\ ∃k,k<=N/\uW nx x k/\af nx N x=its nx x k:=by
 obtain ⟨k,hk,hp⟩:=h.Gb hx;have e:=SF hp (N:=N) (by omega);have hm: ∀y,y∈af nx N x↔ ∃j,it nx j x=y:=fun y=>by rw [e];exact Vp hp
 have hS: ∀y∈af nx N x,S y:=fun y hy=>by obtain ⟨j,rfl⟩:=(hm y).1 hy;exact h.it hx j
 have C0: ∀y,S y-> ∀z,z∈af nx N y↔ ∃j,it nx j y=z:=fun y hy z=>by
  obtain ⟨l,hl,hq⟩:=h.Gb hy;rw [SF hq (N:=N) (by omega)];exact Vp hq
 refine ⟨hm,hS,fun y hy=>?_,fun y hy z hz=>?_,by simp [af],by rw [e,Mt];exact hk,by rw [e];exact ZA h hx hp,k,hk,hp,e⟩
 ·exact (C0 y (hS y hy) x).2 (ZW hp ((hm y).1 hy))
 ·exact (hm z).2 (yul ((hm y).1 hy) ((C0 y (hS y hy) z).1 hz))
theorem y75 (hp:iv m n) (hn:m.length=4*n) {seen:List Bool} (hl:seen.length=4*n) {x:Int} (hx:av n x) {k:Nat} (hk:uW (cm m) x k) (hu: ∀j,j<k->seen.getD (it (cm m) j x).toNat false=false):
  ∀d j f,d=k-j->j<=k->d<f->mark m f (oF seen (its (cm m) x j)) (it (cm m) j x)=oF seen (its (cm m) x k):=by
 have jL:=Kc hp;have hR: ∀j,av n (it (cm m) j x):=fun j=>jL.it hx j;have Yo: ∀j,∀g∈its (cm m) x j,0<=g/\g.toNat<seen.length:=fun j g hg=>by
  obtain ⟨i,_,rfl⟩:=Fk.1 hg
  have:=hR i;unfold av at this;omega
 have xE:=hk.pos;intro d
 induction d with
 |zero=>
  intro j f hd hj hf;obtain rfl:j=k:=by omega
  obtain ⟨f',rfl⟩: ∃f',f=f'+1:=⟨f-1,by omega⟩;simp only [mark];rw [hk.back,zzJ];rw [Ef _ _ _ (Yo j),Bool.or_eq_true,decide_eq_true_iff];right;have jD:=hx;unfold av at jD;rw [show ((x.toNat:Nat):Int)=x by omega];exact Fk.2 ⟨0,xE,rfl⟩
 |succ d ih=>
  intro j f hd hj hf;obtain ⟨f',rfl⟩: ∃f',f=f'+1:=⟨f-1,by omega⟩;have hRj:=hR j;unfold av at hRj;simp only [mark];rw [zzI]
  ·have e1:(oF seen (its (cm m) x j)).set (it (cm m) j x).toNat true=oF seen (its (cm m) x (j+1)):=by
    rw [Uk,NJ];rfl
   rw [e1];exact ih (j+1) f' (by omega) (by omega) (by omega)
  ·rw [Ef _ _ _ (Yo j),hu j (by omega),Bool.false_or,decide_eq_true_iff];rw [show (((it (cm m) j x).toNat:Nat):Int)=it (cm m) j x by omega];intro hm;obtain ⟨i,hi,e⟩:=Fk.1 hm
   have:=jL.cancel hx i (j-i) (by rw [show i+(j-i)=j by omega];exact e.symm)
   exact hk.first (j-i) (by omega) (by omega) this
def fl (m:List Int) (h:Nat):Bool:=mZ h (af (cm m) m.length h)
def dF (l:List Int) (n:Nat) (p:Int):Nat:=(List.range n).countP fun c=>l.getD c 0==p
def jl (m l:List Int) (h:Nat) (p:Int):Nat:=(List.range h).countP fun i=>fl m i&&l.getD (i/4) 0==p
theorem UN (l:List Int) (n:Nat) (p:Int):dF l (n+1) p=dF l n p+if l.getD n 0=p then 1 else 0:=by
 unfold dF;rw [List.range_succ,List.countP_append];simp [List.countP_cons]
theorem UH (m l:List Int) (h:Nat) (p:Int):jl m l (h+1) p=jl m l h p+if fl m h=true/\l.getD (h/4) 0=p then 1 else 0:=by
 unfold jl;rw [List.range_succ,List.countP_append];simp [List.countP_cons]
theorem SE {part:List Int} {np:Nat} (Ag: ∀c,c<part.length->0<=part.getD c 0/\part.getD c 0<np) {p:Nat} (h:p<np): ∀k,k<=part.length->(kr part np k).getD p 0= -(dF part k p:Int)
 |0,_=>by simp [kr,dF,h]
 |k+1,hk=>by
  have ih:=SE Ag h k (by omega);have hl:=(JJ part np k).1;have hr:=Ag k (by omega);simp only [kr];rw [UN];by_cases e:(part.getD k 0).toNat=p
  ·rw [e,nY (by omega),zzJ (by omega),ih];omega
  ·rw [nZ e,zzI (by omega),ih];omega
theorem SD (hp:iv m n) (hm:m.length=4*n) {part:List Int} {np:Nat} (og:part.length=n) (Ag: ∀c,c<n->0<=part.getD c 0/\part.getD c 0<np): ∀h,h<=4*n->
  (∀p:Nat,p<np->(b7 m part np h).1.getD p 0=(jl m part h p:Int)-dF part n p)/\
  ∀g:Nat,g<4*n->((b7 m part np h).2.getD g false=true↔ ∃x:Nat,x<h/\(g:Int)∈af (cm m) m.length x)
 |0,_=>by
  refine ⟨fun p aD=>?_,fun g hg=>by simp [b7,hm,hg]⟩;simp only [b7];rw [SE (fun c hc=>Ag c (by omega)) aD _ (zzA _),og];simp [jl]
 |h+1,hh=>by
  obtain ⟨h1,h2⟩:=SD hp hm og Ag h (by omega);obtain ⟨l1,l2,_⟩:=D8 m part np h;have hR: ∀x:Nat,x<4*n->av n (x:Int):=fun x hx=>by unfold av;omega
  have se:=fun (x:Nat) (hx:x<4*n)=>by
   have:=A5 (Kc hp) (hR x hx)
   rw [<-hm] at this;exact this
  have CP:=h2 h (by omega);simp only [b7,wX];by_cases hs:(b7 m part np h).2.getD h false=true
  ·rw [zzJ hs];obtain ⟨x,hx,X2⟩:=CP.1 hs;have uL:fl m h=false:=by
    cases hf:fl m h with
    |false=>rfl
    |true=>
     have:=zO.1 hf x ((se x (by omega)).2.2.1 h X2);omega
   refine ⟨fun p aD=>by rw [UH,zzI (by simp [uL]),h1 p aD];omega,fun g hg=>?_⟩;rw [h2 g hg];constructor
   ·rintro ⟨y,hy,h3⟩;exact ⟨y,by omega,h3⟩
   ·rintro ⟨y,hy,h3⟩;rcases zzV y h with q|q
    ·exact ⟨y,q,h3⟩
    ·obtain rfl:y=h:=by omega
     exact ⟨x,hx,(se x (by omega)).2.2.2.1 y X2 g h3⟩
  ·rw [zzI hs];obtain ⟨o1,o2,o3,o4,o5,o6,o7,k,hk,vA,iL⟩:=se h (by omega);have uL:fl m h=true:=zO.2 fun y hy=>by
    have hr:=o2 y hy;unfold av at hr;obtain ⟨z,rfl⟩: ∃z:Nat,y=z:=⟨y.toNat,by omega⟩;rcases zzV z h with q|q
    ·exact absurd (CP.2 ⟨z,q,o3 z hy⟩) hs
    ·omega
   have xA:mark m (m.length+1) (b7 m part np h).2 h=oF (b7 m part np h).2 (af (cm m) m.length h):=by
    rw [iL];refine y75 hp hm (by omega) (hR h (by omega)) vA (fun j hj=>?_) k 0 (m.length+1) (by omega) (by omega) (by omega);have uI:it (cm m) j h∈af (cm m) m.length h:=(o1 _).2 ⟨j,rfl⟩;have hjr:=o2 _ uI;unfold av at hjr;cases KS:(b7 m part np h).2.getD (it (cm m) j h).toNat false with
    |false=>rfl
    |true=>
     obtain ⟨y,hy,h3⟩:=(h2 _ (by omega)).1 KS;rw [show (((it (cm m) j h).toNat:Nat):Int)=it (cm m) j h by omega] at h3;exact absurd (CP.2 ⟨y,hy,(se y (by omega)).2.2.2.1 _ h3 _ (o3 _ uI)⟩) hs
   have PL:=Ag (h/4) (by omega);refine ⟨fun p aD=>?_,fun g hg=>?_⟩
   ·rw [UH];simp only;by_cases e:(part.getD (h/4) 0).toNat=p
    ·rw [e,nY (by omega),zzJ ⟨uL,by omega⟩,h1 p aD];omega
    ·rw [nZ e,zzI (by omega),h1 p aD];omega
   ·simp only;rw [xA,Ef _ _ _ (fun y hy=>by have:=o2 y hy;unfold av at this;omega),Bool.or_eq_true,h2 g hg,decide_eq_true_iff];constructor
    ·rintro (⟨x,h4,h5⟩|h4)
     ·exact ⟨x,by omega,h5⟩
     ·exact ⟨h,by omega,h4⟩
    ·rintro ⟨x,h4,h6⟩;rcases zzV x h with q|q
     ·exact .inl ⟨x,q,h6⟩
     ·obtain rfl:x=h:=by omega
      exact .inr h6
theorem y4p (hp:iv m n):qJ m n=true↔ ∀p:Nat,(p:Int)<(jw m n).2->jl m (jw m n).1 (4*n) p=dF (jw m n).1 n p+2:=by
 obtain ⟨p1,p2,p3,p4⟩:=NC hp.ok;have hm:=hp.ok.1;have h1:=(SD hp hm p1 (np:=(jw m n).2.toNat) (fun c hc=>by have:=p4 c hc;omega) (4*n) (zzA _)).1;have hlen:=(D8 m (jw m n).1 (jw m n).2.toNat (4*n)).1;unfold qJ;rw [hm,List.all_eq_true];constructor
 ·intro h p aD;have h2:=h1 p (by omega);have nA:(b7 m (jw m n).1 (jw m n).2.toNat (4*n)).1.getD p 0∈(b7 m (jw m n).1 (jw m n).2.toNat (4*n)).1:=by
   rw [zzB,zzH (by omega)];exact List.getElem_mem _
  have:=h _ nA
  simp only [beq_iff_eq] at this;omega
 ·intro h x hx;obtain ⟨i,hi,rfl⟩:=List.mem_iff_getElem.1 hx;have h2:=h1 i (by omega);have h3:=h i (by omega);rw [zzB,zzH hi] at h2;simp only [Option.getD_some] at h2;simp only [beq_iff_eq];omega
def qI (m:List Int) (n:Nat):Bool:=(List.range n).all fun c=> !((bX m n n).getD c 0==(c:Int))||jl m (bX m n n) (4*n) c==dF (bX m n n) n c+2
theorem JW:qI m n=true↔ ∀c,c<n->(bX m n n).getD c 0=c->jl m (bX m n n) (4*n) c=dF (bX m n n) n c+2:=by
 unfold qI;rw [List.all_eq_true];constructor
 ·intro h c hc e
  have:=h c (List.mem_range.2 hc)
  rw [e] at this;simpa using this
 ·intro h c hc;by_cases e:(bX m n n).getD c 0=(c:Int)
  ·rw [h c (List.mem_range.1 hc) e];simp
  ·have:((bX m n n).getD c 0==(c:Int))=false:=by simpa using e
   rw [this];rfl
theorem y0b {l l':List Int} {p p':Int} (h: ∀b,b<n->(l.getD b 0=p↔l'.getD b 0=p')):dF l n p=dF l' n p'/\jl m l (4*n) p=jl m l' (4*n) p':=by
 constructor
 ·unfold dF;refine List.countP_congr fun b hb=>?_;simp only [beq_iff_eq];exact h b (List.mem_range.1 hb)
 ·unfold jl;refine List.countP_congr fun b hb=>?_
  have:=List.mem_range.1 hb
  simp only [zzS,beq_iff_eq];rw [h (b/4) (by omega)]
theorem Ot (hp:iv m n):qJ m n=qI m n:=by
 obtain ⟨p1,p2,p3,p4⟩:=NC hp.ok;have key: ∀a,a<n-> ∃u,u<n/\(bX m n n).getD u 0=u/\dF (jw m n).1 n ((jw m n).1.getD a 0)=dF (bX m n n) n u/\jl m (jw m n).1 (4*n) ((jw m n).1.getD a 0)=jl m (bX m n n) (4*n) u/\(bX m n n).getD a 0=u:=by
  intro a ha;obtain ⟨u,hu,KG,o8⟩:=Mr hp ha;have KU:=y0b (m:=m) (n:=n) (l:=(jw m n).1) (l':=bX m n n) (p:=(jw m n).1.getD a 0) (p':=u) (fun b hb=>by
   rw [o8 b hb];constructor
   ·intro e;exact (U6 hp ha hb).1 e.symm
   ·intro e;exact ((U6 hp ha hb).2 e).symm)
  exact ⟨u,hu,(o8 u hu).2 (KG.symm hp hu),KU.1,KU.2,(o8 a ha).2 (.refl _)⟩
 rw [Bool.eq_iff_iff,y4p hp,JW];constructor
 ·intro h c hc e;obtain ⟨u,hu,_,h1,h2,h3⟩:=key c hc
  have:u=c:=by omega
  subst this;have h4:=p4 u hc;have h5:=h ((jw m n).1.getD u 0).toNat (by omega);rw [show (((jw m n).1.getD u 0).toNat:Int)=(jw m n).1.getD u 0 by omega,h1,h2] at h5;exact h5
 ·intro h p aD;obtain ⟨a,ha,e⟩:=yx0 hp aD;obtain ⟨u,hu,h0,h1,h2,_⟩:=key a ha;have h5:=h u hu h0;rw [e] at h1 h2;omega
end
theorem y0c {s m:List Int} {L:Int} (h:rz s m L=true):iv m s.length:=by
 unfold rz at h;obtain ⟨_,h2,_,_,_,h6⟩:=of_decide_eq_true h;exact ⟨⟨h2,fun i hi=>⟨(h6 i hi).1,(h6 i hi).2.1⟩⟩,fun i hi=>(h6 i hi).2.2.2.1⟩
def zH (s m:List Int) (L:Int):Bool:=rz s m L&&qI m s.length
theorem Cf (s m:List Int) (L:Int):bf s m L=zH s m L:=by
 unfold bf zH;cases h:rz s m L with
 |false=>rfl
 |true=>rw [Ot (y0c h)]
theorem s6 (h:Int):iJ h 1=h-h % 4+(h % 4+5)% 4:=by
 have:(1:Int).tmod 4=1:=by decide
 unfold iJ;rw [this];omega
theorem sQ (h:Int):iJ h (-1)=h-h % 4+(h % 4+3)% 4:=by
 have:(-1:Int).tmod 4= -1:=by decide
 unfold iJ;rw [this];omega
def aI (b:Bool) (h:Int):Int:=if decide (h % 2=1)=b then iJ h 1 else iJ h (-1)
theorem qG (b:Bool) (h:Int):aI b h/4=h/4:=by
 unfold aI;rw [s6,sQ];split<;>omega
theorem u9 (b:Bool) (h:Int):aI b (aI b h)=h:=by
 unfold aI;rw [s6,sQ];cases b
 ·by_cases e:h % 2=1
  ·simp only [e,decide_true,Bool.true_eq_false,if_false]
   have: ¬(h-h % 4+(h % 4+3)% 4)% 2=1:=by omega
   simp only [this,decide_false,if_true];rw [s6];omega
  ·simp only [e,decide_false,if_true]
   have:(h-h % 4+(h % 4+5)% 4)% 2=1:=by omega
   simp only [this,decide_true,Bool.true_eq_false,if_false];rw [sQ];omega
 ·by_cases e:h % 2=1
  ·simp only [e,decide_true,if_true]
   have: ¬(h-h % 4+(h % 4+5)% 4)% 2=1:=by omega
   simp only [this,decide_false,Bool.false_eq_true,if_false];rw [sQ];omega
  ·simp only [e,decide_false,Bool.false_eq_true,if_false]
   have:(h-h % 4+(h % 4+3)% 4)% 2=1:=by omega
   simp only [this,decide_true,if_true];rw [s6];omega
theorem LW (b:Bool) (h:Int):aI b h≠h:=by
 unfold aI;rw [s6,sQ];split<;>omega
def dn (m:List Int) (b:Bool) (c:Int):Nat->Int->Int
 |0,x=>x
 |f+1,x=>if x/4=c then dn m b c f (m.getD (aI b x).toNat 0) else x
def mv (u:Int->Bool) (x y:Int):Int->Bool:=fun z=>u z||z==x||z==y
def thrU (m:List Int) (b:Bool) (c:Int):Nat->Int->(Int->Bool)->(Int->Bool)
 |0,_,u=>u
 |f+1,x,u=>if x/4=c then thrU m b c f (m.getD (aI b x).toNat 0) (mv u x (aI b x)) else u
theorem Fj {m:List Int} {b:Bool} {c:Int} {f:Nat} {x:Int} (h:x/4=c):dn m b c (f+1) x=dn m b c f (m.getD (aI b x).toNat 0):=by simp only [dn,h,if_true]
theorem BX {m:List Int} {b:Bool} {c:Int} {f:Nat} {x:Int} (h: ¬x/4=c):dn m b c f x=x:=by cases f<;>simp only [dn,h,if_false]
theorem SB {m:List Int} {b:Bool} {c:Int} {f:Nat} {x:Int} {u:Int->Bool} (h:x/4=c):thrU m b c (f+1) x u=thrU m b c f (m.getD (aI b x).toNat 0) (mv u x (aI b x)):=by simp only [thrU,h,if_true]
theorem SA {m:List Int} {b:Bool} {c:Int} {f:Nat} {x:Int} {u:Int->Bool} (h: ¬x/4=c):thrU m b c f x u=u:=by cases f<;>simp only [thrU,h,if_false]
section
variable {m:List Int} {n:Nat} {b:Bool} {c:Nat}
def cH (m:List Int) (b:Bool) (x:Int):Int:=m.getD (aI b x).toNat 0
theorem y76 (hp:iv m n) (hc:c<n) {x y:Int} (hx:x/4=c) (hy:y/4=c) (e:cH m b x=cH m b y):x=y:=by
 have h1:=qG b x;have h2:=qG b y
 have:=hp.inj (x:=aI b x) (y:=aI b y) (by unfold av;omega) (by unfold av;omega) e
 have h3:=congrArg (aI b) this;rwa [u9,u9] at h3
theorem y77 (f:Nat) (x:Int) (h:dn m b c f x/4=c): ∀i,i<=f->it (cH m b) i x/4=(c:Int):=by
 induction f generalizing x with
 |zero=>
  intro i hi;obtain rfl:i=0:=by omega
  exact h
 |succ f ih=>
  intro i hi;unfold dn at h;by_cases e:x/4=(c:Int)
  ·rw [zzJ e] at h;cases i with
   |zero=>exact e
   |succ i=>
    have:=ih _ h i (by omega)
    have e2:it (cH m b) (i+1) x=it (cH m b) i (cH m b x):=by rw [BU];rfl
    rw [e2];exact this
  ·rw [zzI e] at h;exact absurd h e
theorem Eb (hp:iv m n) (hc:c<n) {h:Nat} (hh:h<4*n) (ho:h/4≠c):dn m b c 5 (m.getD h 0)/4≠(c:Int):=by
 intro dA;have Am:=y77 5 (m.getD h 0) dA;obtain ⟨i,j,kB,hj,e⟩:=LY 4 (fun i=>(it (cH m b) i (m.getD h 0)-4*c).toNat) (fun i hi=>by have:=Am i (by omega);omega);have oK:=Am i (by omega);have jh:=Am j (by omega);have e':it (cH m b) i (m.getD h 0)=it (cH m b) j (m.getD h 0):=by omega
 have key: ∀i j,i<j->j<=5->it (cH m b) i (m.getD h 0)=it (cH m b) j (m.getD h 0)->m.getD h 0=it (cH m b) (j-i) (m.getD h 0):=by
  intro i
  induction i with
  |zero=>intro j _ _ e;simpa [it] using e
  |succ i ih=>
   intro j kB hj e
   have:=ih (j-1) (by omega) (by omega) (y76 hp hc (Am i (by omega)) (Am (j-1) (by omega)) (by
    have:it (cH m b) j (m.getD h 0)=cH m b (it (cH m b) (j-1) (m.getD h 0)):=by
     conv=>lhs;rw [show j=(j-1)+1 by omega]
     rfl
    rw [<-this,<-e];rfl))
   rw [show j-(i+1)=j-1-i by omega];exact this
 have h0:=key i j kB (by omega) e';have h1:it (cH m b) (j-i) (m.getD h 0)=cH m b (it (cH m b) (j-i-1) (m.getD h 0)):=by
  conv=>lhs;rw [show j-i=(j-i-1)+1 by omega]
  rfl
 rw [h1] at h0;have h2:=Am (j-i-1) (by omega);have h3:=qG b (it (cH m b) (j-i-1) (m.getD h 0));have hr:=hp.ok.2 h hh;have h4:=hp.inv h hh;unfold cH at h0;have h5:=hp.inv (aI b (it (cH m b) (j-i-1) (m.getD h 0))).toNat (by omega);unfold cH at h5;rw [<-h0,h4] at h5;unfold cH at h3 h2;omega
def fv (m:List Int) (b:Bool) (c:Nat):Nat->List Int
 |0=>m
 |h+1=>if h/4=c then fv m b c h else (fv m b c h).set h (dn m b c 5 (m.getD h 0))
def nf (m:List Int) (b:Bool) (c:Nat):Nat->Int->Bool
 |0=>fun _=>false
 |h+1=>if h/4=c then nf m b c h else thrU m b c 5 (m.getD h 0) (nf m b c h)
theorem Mq (h:Nat):(fv m b c h).length=m.length:=by
 induction h with
 |zero=>rfl
 |succ h ih=>simp only [fv];split<;>simp [ih]
theorem MY (hp:iv m n) (hc:c<n): ∀f x,av n x->av n (dn m b c f x):=by
 intro f
 induction f with
 |zero=>intro x h;exact h
 |succ f ih=>
  intro x h;unfold dn
  split
  ·rename_i e
   have:=qG b x
   exact ih _ (hp.iP (by unfold av;omega))
  ·exact h
theorem Oq (hp:iv m n) (hc:c<n): ∀h,h<=4*n->pT (fv m b c h) n:=by
 intro h
 induction h with
 |zero=>intro _;exact hp.ok
 |succ h ih=>
  intro hh;have ih:=ih (by omega);simp only [fv]
  split
  ·exact ih
  ·refine ⟨by simp [ih.1],fun i hi=>?_⟩;have hl:=ih.1;by_cases e:h=i
   ·subst e;rw [nY (by omega)]
    have:=MY (b:=b) hp hc 5 (m.getD h 0) (by have:=hp.ok.2 h hi;unfold av;omega)
    unfold av at this;exact this
   ·rw [nZ e];exact ih.2 i hi
theorem UG (f:Nat): ∀(x:Int) (u:Int->Bool) (y:Int),u y=true->thrU m b c f x u y=true:=by
 induction f with
 |zero=>intro x u y h;exact h
 |succ f ih=>
  intro x u y h;unfold thrU
  split
  ·exact ih _ _ _ (by simp [mv,h])
  ·exact h
def Cd (b:Bool) (u:Int->Bool):Prop:= ∀x,u x=u (aI b x)
theorem U5 {u:Int->Bool} (h:Cd b u) (x:Int):Cd b (mv u x (aI b x)):=by
 intro y;simp only [mv];rw [h y];by_cases e1:y=x
 ·subst e1;simp
 ·by_cases e2:y=aI b x
  ·subst e2;rw [u9];simp
  ·have e3:aI b y≠x:=fun e=>e2 (by rw [<-e,u9]);have e4:aI b y≠aI b x:=fun e=>e1 (by have:=congrArg (aI b) e;rwa [u9,u9] at this);have q1:(y==x)=false:=by simpa using e1
   have q2:(y==aI b x)=false:=by simpa using e2
   have q3:(aI b y==x)=false:=by simpa using e3
   have q4:(aI b y==aI b x)=false:=by simpa using e4
   rw [q1,q2,q3,q4]
theorem yum (f:Nat): ∀(x:Int) (u:Int->Bool),Cd b u->Cd b (thrU m b c f x u):=by
 induction f with
 |zero=>intro x u h;exact h
 |succ f ih=>
  intro x u h;unfold thrU
  split
  ·exact ih _ _ (U5 h x)
  ·exact h
theorem yx1 (k:Nat):Cd b (nf m b c k):=by
 induction k with
 |zero=>intro x;rfl
 |succ k ih=>
  simp only [nf];split
  ·exact ih
  ·exact yum 5 _ _ ih
theorem y4q (y:Int): ∀d k,nf m b c k y=true->nf m b c (k+d) y=true:=by
 intro d
 induction d with
 |zero=>intro k h;exact h
 |succ d ih=>
  intro k h
  have:=ih k h
  rw [<-Nat.add_assoc];simp only [nf];split
  ·exact this
  ·exact UG 5 _ _ _ this
theorem Xo (hp:iv m n) (hc:c<n) {x:Int} (hx:x/4=c) (hu:nf m b c (4*n) x=false):cH m b x/4=(c:Int):=by
 apply zzT;intro aA;have h1:=qG b x;have hr:=hp.iP (x:=aI b x) (by unfold av;omega);unfold cH at aA;unfold av at hr;have hi:=hp.inv (aI b x).toNat (by omega);generalize hy:m.getD (aI b x).toNat 0=y at*;obtain ⟨h,rfl⟩: ∃h:Nat,y=h:=⟨y.toNat,by omega⟩;simp only [zzC] at hi;have h2:nf m b c (h+1) x=true:=by
  have wq:h/4≠c:=by omega
  simp only [nf,wq,if_false];rw [hi];unfold thrU;have e1:(((aI b x).toNat:Nat):Int)=aI b x:=by omega
  rw [e1,zzJ (by omega)];refine UG 4 _ _ _ ?_;simp [mv,u9]
 have h3:=y4q (m:=m) (b:=b) (c:=c) x (4*n-(h+1)) (h+1) h2;rw [show h+1+(4*n-(h+1))=4*n by omega,hu] at h3;cases h3
def qw (m:List Int) (b:Bool):Nat->Int->(Int->Bool)->(Int->Bool)
 |0,_,u=>u
 |f+1,h,u=>if u h then u else qw m b f (cH m b h) (mv u h (aI b h))
theorem VZ {f:Nat} {h:Int} {u:Int->Bool} (e:u h=true):qw m b f h u=u:=by cases f<;>simp only [qw,e,if_true]
theorem IQ {f:Nat} {h:Int} {u:Int->Bool} (e:u h=false):qw m b (f+1) h u=qw m b f (cH m b h) (mv u h (aI b h)):=by simp only [qw,e,Bool.false_eq_true,if_false]
def DM (c:Nat) (u:Int->Bool):Nat:=(List.range 4).countP fun (i:Nat)=> !u (4*c+i)
theorem y4r (u:Int->Bool):DM c u<=4:=by
 have:=List.countP_le_length (p:=fun i:Nat=> !u (4*c+i)) (l:=List.range 4);unfold DM;simpa using this
theorem y0e {u:Int->Bool} {x y:Int} (hx:x/4=c) (hu:u x=false):DM c (mv u x y)<DM c u:=by
 unfold DM;refine VB _ (fun i _ h=>?_) (y:=(x-4*c).toNat) (by simp;omega) ?_ ?_
 ·simp only [mv,Bool.not_or,zzS] at h⊢;exact h.1.1
 ·have e:(4*(c:Int)+((x-4*c).toNat:Nat))=x:=by omega
  rw [e];simp [mv]
 ·have e:(4*(c:Int)+((x-4*c).toNat:Nat))=x:=by omega
  rw [e,hu];rfl
def n9 (m:List Int) (b:Bool) (c n:Nat):Int:=
 let u0:=nf m b c (4*n)
 let u1:=if u0 (4*c) then u0 else qw m b 5 (4*c) u0
 (if u0 (4*c) then 0 else 1)+(if u1 (if b then 4*c+1 else 4*c+3) then 0 else 1)
end
def jz (s:List Int) (c:Nat):Nat->List Int
 |0=>[]
 |k+1=>if k=c then jz s c k else jz s c k++[s.getD k 0]
def dq (m:List Int) (c:Nat) (h:Nat):Int:=if (c:Int)<m.getD h 0/4 then m.getD h 0-4 else m.getD h 0
def dP (m:List Int) (c k:Nat) (l:List Int):Nat->List Int
 |0=>l
 |x+1=>dP m c k l x++[dq m c (4*k+x)]
def cO (m:List Int) (c:Nat):Nat->List Int
 |0=>[]
 |k+1=>if k=c then cO m c k else dP m c k (cO m c k) 4
theorem Sz (s:List Int) (c:Nat): ∀k,(jz s c k).length<=k
 |0=>by simp [jz]
 |k+1=>by have:=Sz s c k;simp only [jz];split<;>simp<;>omega
theorem JV (m:List Int) (c k:Nat) (l:List Int): ∀x,(dP m c k l x).length=l.length+x
 |0=>by simp [dP]
 |x+1=>by have:=JV m c k l x;simp [dP];omega
theorem Sy (m:List Int) (c:Nat): ∀k,(cO m c k).length<=4*k
 |0=>by simp [cO]
 |k+1=>by have:=Sy m c k;simp only [cO];split<;>(try rw [JV])<;>omega
def aS (m:List Int) (g:Int):Int:=iJ (m.getD g.toNat 0) 2
def dr (s m:List Int):List (List Int):=(aT m.length (aj s) (af (aS m) m.length) m.length).1
structure iV (s m:List Int) (L:Int):Prop where
 s64:s.length<=64
 len:m.length=4*s.length
 l0:0<=L
 l64:L<=64
 sg:ta s s.length
 mt:yX s m (4*s.length)
 dw:iv m s.length
theorem bV {s m:List Int} {L:Int} (h:bf s m L=true):iV s m L:=by
 obtain ⟨⟨h1,h2,h3,h4,h5,h6⟩,_⟩:=ZY.1 h;exact ⟨h1,h2,h3,h4,h5,h6,⟨h2,fun i hi=>⟨(h6 i hi).1,(h6 i hi).2.1⟩⟩,fun i hi=>(h6 i hi).2.2.2.1⟩
theorem Ba {m:List Int} {n:Nat} (hp:iv m n):Perm (aS m) (4*n) (av n):=UO hp 2
theorem FF (s m:List Int):(dr s m).length<=m.length:=(JX _ _ _ _).2
theorem MX {N:Nat} {want:Int->Bool} {orb:Int->List Int}: ∀h,∀l∈(aT N want orb h).1,∃x:Nat,x<h/\want x=true/\l=orb x
 |0,l,hl=>by simp [aT] at hl
 |h+1,l,hl=>by
  simp only [aT,jI] at hl
  split at hl
  ·obtain ⟨x,h1,h2⟩:=MX h l hl;exact ⟨x,by omega,h2⟩
  ·rename_i hc
   rcases List.mem_append.1 hl with hl|hl
   ·obtain ⟨x,h1,h2⟩:=MX h l hl;exact ⟨x,by omega,h2⟩
   ·refine ⟨h,by omega,?_,List.mem_singleton.1 hl⟩;cases hw:want h with
    |true=>rfl
    |false=>rw [hw] at hc;simp at hc
theorem NI {s m:List Int} {n:Nat} (hp:iv m n) {l:List Int} (hl:l∈dr s m):l.length<=4*n/\ ∀x∈l,0<=x/\x<4*n:=by
 obtain ⟨x,hx,_,rfl⟩:=MX _ l hl;have hm:=hp.ok.1;have hR:av n (x:Int):=by unfold av;omega
 have se:=A5 (Ba hp) hR;rw [<-hm] at se;exact ⟨by have:=se.2.2.2.2.2.1;omega,fun y hy=>by have:=se.2.1 y hy;unfold av at this;omega⟩
def dG (v:List Bool):List Int->Option Int×List Bool
 |[]=>(none,v)
 |h::t=>if v.getD (h/4).toNat false=false/\h % 2=0 then (some (h/4),v) else dG (v.set (h/4).toNat true) t
def uo (v:List Bool):List (List Int)->Option Int
 |[]=>none
 |l::r=>match dG v l with
  |(some c,_)=>some c
  |(none,v')=>uo v' r
def nJ (s m:List Int):Option Int:=uo (List.replicate s.length false) (dr s m)
def xb (m:List Int) (to:Int->Int):Nat->List Int
 |0=>List.replicate m.length 0
 |k+1=>(xb m to k).set (to k).toNat (to (m.getD k 0))
theorem JI (m:List Int) (to:Int->Int): ∀k,(xb m to k).length=m.length
 |0=>by simp [xb]
 |k+1=>by simp [xb,JI m to k]
def w6 (s:List Int) (sg:Int->Int) (k:Nat):List Int:=(List.range k).map fun (c:Nat)=>s.getD c 0*sg c
theorem JH (s:List Int) (sg:Int->Int) (k:Nat):(w6 s sg k).length=k:=by simp [w6]
theorem y78 (s:List Int) (sg:Int->Int) (n k:Nat) (h:k<n):(w6 s sg k++List.replicate (n-k) 0).set k (s.getD k 0*sg k)=w6 s sg (k+1)++List.replicate (n-(k+1)) 0:=by
 rw [List.set_append_right _ _ (by rw [JH];omega),JH,Nat.sub_self];obtain ⟨d,hd⟩: ∃d,n-k=d+1:=⟨n-k-1,by omega⟩;rw [hd,List.replicate_succ,List.set_cons_zero,show n-(k+1)=d by omega];simp [w6,List.range_succ]
def tL (s:List Int) (ch:Int->Bool) (c:Int):Int:=if ch c then (if s.getD c.toNat 0=1 then-3 else-1) else 0
def vJ (ch:Int->Bool) (c:Int):Int:=if ch c then-1 else 1
def HT (s:List Int) (ch:Int->Bool):List Int:=w6 s (vJ ch) s.length
def Ld (s m:List Int) (ch:Int->Bool):List Int:=xb m (fun h=>iJ h (tL s ch (h/4))) m.length
theorem Uj: ∀(l:List Int) (v:List Bool) (c:Int),(dG v l).1=some c-> ∃h∈l,c=h/4
 |[],v,c,h=>by simp [dG] at h
 |x::l,v,c,h=>by
  simp only [dG] at h
  split at h
  ·simp only [Option.some.injEq] at h;exact ⟨x,by simp,h.symm⟩
  ·obtain ⟨y,h1,h2⟩:=Uj l _ c h;exact ⟨y,by simp [h1],h2⟩
theorem UE: ∀(ls:List (List Int)) (v:List Bool) (c:Int),uo v ls=some c-> ∃l∈ls,∃h∈l,c=h/4
 |[],v,c,h=>by simp [uo] at h
 |l::ls,v,c,h=>by
  simp only [uo] at h
  split at h
  ·rename_i c' v' e
   simp only [Option.some.injEq] at h;obtain ⟨y,h1,h2⟩:=Uj l v c (by rw [e,h]);exact ⟨l,by simp,y,h1,h2⟩
  ·obtain ⟨l',h1,h2⟩:=UE ls _ c h;exact ⟨l',by simp [h1],h2⟩
theorem Ui {s m:List Int} (hp:iv m s.length) {c:Int} (h:nJ s m=some c):0<=c/\c<s.length:=by
 obtain ⟨l,h1,x,h2,rfl⟩:=UE _ _ c h
 have:=(NI hp h1).2 x h2
 omega
def kf (s:List Int) (c:Nat):List Int:=HT s (· ==(c:Int))
def jA (s m:List Int) (c:Nat):List Int:=Ld s m (· ==(c:Int))
def dz (s:List Int) (c:Nat):List Int:=jz s c s.length
def fk (s m:List Int) (c:Nat):List Int:=cO (fv m (s.getD c 0== -1) c (4*s.length)) c s.length
def im (s m:List Int) (c:Nat) (L:Int):Int:=L+n9 m (s.getD c 0== -1) c s.length
end Go.Proofs.YtjpbeacamoijhaaGreatDoor
