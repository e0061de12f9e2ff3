/- Laurent polynomials as functions of the exponent, plain. -/
import Derived.Test.YtmdjdekgakidhaaDoorZh
set_option linter.unusedSimpArgs false
set_option linter.unusedVariables false
namespace Go.Proofs.YtmdjdekgakidhaaDoor
def cfL:List (Int×Int)->Int->Int
 |[],_=>0
 |t::p,e=>(if t.1=e then t.2 else 0)+cfL p e
structure AscN (p:List (Int×Int)):Prop where
 asc:p.Pairwise fun a b=>a.1<b.1
 nz: ∀t∈p,t.2≠0
theorem y21 (p q:List (Int×Int)) (e:Int):cfL (p++q) e=cfL p e+cfL q e:=by
 induction p with
 |nil=>simp [cfL]
 |cons t p ih=>simp only [List.cons_append,cfL,ih];omega
theorem yku {p:List (Int×Int)} {e:Int} (h: ∀t∈p,t.1≠e):cfL p e=0:=by
 induction p with
 |nil=>rfl
 |cons t p ih=>
  simp only [cfL]
  rw [if_neg (h t (List.mem_cons_self ..)),ih fun u hu=>h u (List.mem_cons_of_mem _ hu)];rfl
theorem AscN.tail {t:Int×Int} {p:List (Int×Int)} (h:AscN (t::p)):AscN p:=⟨(List.pairwise_cons.1 h.asc).2,fun u hu=>h.nz u (List.mem_cons_of_mem _ hu)⟩
theorem AscN.head {t:Int×Int} {p:List (Int×Int)} (h:AscN (t::p)): ∀u∈p,t.1<u.1:=(List.pairwise_cons.1 h.asc).1
theorem AscN.nil:AscN []:=⟨.nil,fun _ h=>by cases h⟩
theorem yfj {p:List (Int×Int)} (h:AscN p) {t:Int×Int} (ht:t∈p):cfL p t.1=t.2:=by
 induction p with
 |nil=>cases ht
 |cons u p ih=>
  simp only [cfL]
  rcases List.mem_cons.1 ht with rfl|ht
  ·rw [if_pos rfl,yku fun v hv=>by have:=h.head v hv;omega];omega
  ·rw [if_neg (by have:=h.head t ht;omega),ih h.tail ht];omega
theorem yp2 {p:List (Int×Int)} {e:Int} (h:cfL p e≠0): ∃t∈p,t.1=e:=by
 induction p with
 |nil=>exact absurd rfl h
 |cons t p ih=>
  by_cases ht:t.1=e
  ·exact ⟨t,List.mem_cons_self ..,ht⟩
  ·simp only [cfL,if_neg ht,Int.zero_add] at h
   obtain ⟨u,hu,e2⟩:=ih h
   exact ⟨u,List.mem_cons_of_mem _ hu,e2⟩
theorem AscN.ext: ∀{p q:List (Int×Int)},AscN p->AscN q->(∀e,cfL p e=cfL q e)->p=q
 |[],[],_,_,_=>rfl
 |[],t::q,_,hq,h=>by
  have:=h t.1
  rw [yfj hq (List.mem_cons_self ..)] at this
  exact absurd this.symm (hq.nz t (List.mem_cons_self ..))
 |t::p,[],hp,_,h=>by
  have:=h t.1
  rw [yfj hp (List.mem_cons_self ..)] at this
  exact absurd this (hp.nz t (List.mem_cons_self ..))
 |t::p,u::q,hp,hq,h=>by
  have m1:cfL (t::p) t.1=t.2:=yfj hp (List.mem_cons_self ..)
  have m2:cfL (u::q) u.1=u.2:=yfj hq (List.mem_cons_self ..)
  have n1:=hp.nz t (List.mem_cons_self ..)
  have n2:=hq.nz u (List.mem_cons_self ..)
  have e1:t.1=u.1:=by
   obtain ⟨v,hv,ev⟩:=yp2 (p:=u::q) (e:=t.1) (by rw [←h,m1];exact n1)
   obtain ⟨w,hw,ew⟩:=yp2 (p:=t::p) (e:=u.1) (by rw [h,m2];exact n2)
   rcases List.mem_cons.1 hv with rfl|hv
   ·exact ev.symm
   ·rcases List.mem_cons.1 hw with rfl|hw
    ·exact ew
    ·have:=hq.head v hv
     have:=hp.head w hw
     omega
  have e2:t.2=u.2:=by rw [←m1,←m2,h,e1]
  have et:t=u:=Prod.ext e1 e2
  subst et
  rw [AscN.ext hp.tail hq.tail fun e=>by have:=h e;simp only [cfL] at this;omega]
theorem ysc: ∀(e:Int) (l:List Int),∀t∈tmI e l,e<=t.1/\t.1<e+l.length
 |_,[],t,ht=>by cases ht
 |e,c::r,t,ht=>by
  simp only [tmI] at ht
  have key:t∈tmI (e+1) r->e<=t.1/\t.1<e+(c::r).length:=fun h=>by
   have:=ysc (e+1) r t h
   simp only [List.length_cons];omega
  split at ht
  ·exact key ht
  ·rcases List.mem_cons.1 ht with rfl|ht
   ·simp only [List.length_cons];omega
   ·exact key ht
theorem yfk: ∀(e:Int) (l:List Int),AscN (tmI e l)
 |_,[]=> .nil
 |e,c::r=>by
  have ih:=yfk (e+1) r
  simp only [tmI]
  split
  ·exact ih
  ·rename_i h
   refine ⟨List.pairwise_cons.2 ⟨fun u hu=>by have:=ysc (e+1) r u hu;show e<u.1;omega,ih.asc⟩,fun u hu=>?_⟩
   rcases List.mem_cons.1 hu with rfl|hu
   ·exact h
   ·exact ih.nz u hu
theorem yfl: ∀(e:Int) (l:List Int) (x:Int),cfL (tmI e l) x=if e<=x then l.getD (x-e).toNat 0 else 0
 |e,[],x=>by simp [tmI,cfL]
 |e,c::r,x=>by
  have ih:=yfl (e+1) r x
  by_cases hx:e=x
  ·subst hx
   rw [if_neg (by omega)] at ih
   simp only [tmI]
   split
   ·rename_i h;rw [ih,if_pos (Int.le_refl _)];simp [h]
   ·simp only [cfL,ih];simp
  ·have k:cfL (tmI e (c::r)) x=cfL (tmI (e+1) r) x:=by
    simp only [tmI]
    split
    ·rfl
    ·simp only [cfL];rw [if_neg hx];omega
   rw [k,ih]
   by_cases hl:e+1<=x
   ·rw [if_pos hl,if_pos (by omega)]
    obtain ⟨d,hd⟩: ∃d:Nat,x=e+1+d:=⟨(x-e-1).toNat,by omega⟩
    rw [hd,show (e+1+(d:Int)-e).toNat=d+1 by omega,show (e+1+(d:Int)-(e+1)).toNat=d by omega,List.getD_cons_succ]
   ·rw [if_neg hl,if_neg (by omega)]
def cvL (p:List (Int×Int)) (g:Int->Int) (e:Int):Int:=match p with
 |[]=>0
 |t::p=>t.2*g (e-t.1)+cvL p g e
theorem yv7 (l:List Int) (i j:Nat) (v:Int) (hi:i<l.length):(l.set i v).getD j 0=if i=j then v else l.getD j 0:=by
 by_cases h:i=j
 ·subst h;simp [hi]
 ·rw [if_neg h];simp [List.getD_eq_getElem?_getD,List.getElem?_set_ne h]
theorem yzh (p:List (Int×Int)) (t:Int×Int) (e:Int):cfL (p++[t]) e=cfL p e+if t.1=e then t.2 else 0:=by
 rw [y21];simp [cfL]
theorem yl4 {α:Type} {l:List α} {k:Nat} (d:α) (h:k<l.length):l.take (k+1)=l.take k++[l.getD k d]:=by
 rw [List.take_succ_eq_append_getElem h];simp [h]
theorem ysd (q:List (Int×Int)) (low e c:Int) (zs:List Int) (hr: ∀j,j<q.length->low<=e+(q.getD j (0,0)).1/\e+(q.getD j (0,0)).1<low+zs.length):
  ∀j,j<=q.length-> ∀x:Nat,x<zs.length->(pz2 q low e c j zs).getD x 0=zs.getD x 0+c*cfL (q.take j) (low+x-e)
 |0,_,x,_=>by simp [pz2,cfL]
 |j+1,hj,x,hx=>by
  have ih:=ysd q low e c zs hr j (by omega)
  have h1:=hr j (by omega)
  have hl:=yjc q low e c j zs
  rw [yl4 (0,0) (by omega),yzh]
  simp only [pz2]
  rw [yv7 _ _ _ _ (by omega)]
  by_cases h:(e+(q.getD j (0,0)).1-low).toNat=x
  ·rw [if_pos h,h,ih x hx,if_pos (by omega),Int.mul_add];omega
  ·rw [if_neg h,ih x hx,if_neg (by omega),Int.add_zero]
theorem yzi (p:List (Int×Int)) (t:Int×Int) (g:Int->Int) (e:Int):cvL (p++[t]) g e=cvL p g e+t.2*g (e-t.1):=by
 induction p with
 |nil=>simp [cvL]
 |cons u p ih=>simp only [List.cons_append,cvL,ih];omega
theorem yse (p q:List (Int×Int)) (low:Int) (zs:List Int) (hr: ∀i j,i<p.length->j<q.length->low<=(p.getD i (0,0)).1+(q.getD j (0,0)).1/\(p.getD i (0,0)).1+(q.getD j (0,0)).1<low+zs.length):
  ∀i,i<=p.length-> ∀x:Nat,x<zs.length->(pz1 p q low i zs).getD x 0=zs.getD x 0+cvL (p.take i) (cfL q) (low+x)
 |0,_,x,_=>by simp [pz1,cvL]
 |i+1,hi,x,hx=>by
  have ih:=yse p q low zs hr i (by omega)
  have hl:=ygu p q low i zs
  simp only [pz1]
  rw [ysd q low _ _ _ (fun j hj=>by have:=hr i j (by omega) hj;rw [hl];exact this) q.length (Nat.le_refl _) x (by omega),ih x hx,yl4 (0,0) (by omega),yzi,List.take_length]
  omega
theorem yzj {p:List (Int×Int)} {g:Int->Int} {e:Int} (h: ∀t∈p,g (e-t.1)=0):cvL p g e=0:=by
 induction p with
 |nil=>rfl
 |cons t p ih=>simp only [cvL,h t (List.mem_cons_self ..),ih fun u hu=>h u (List.mem_cons_of_mem _ hu)];simp
theorem yfm {p:List (Int×Int)} (h:AscN p) {t:Int×Int} (ht:t∈p):lowE p<=t.1/\t.1<=ya2 p:=by
 obtain ⟨i,hi,rfl⟩:=List.mem_iff_getElem.1 ht
 have P:=List.pairwise_iff_getElem.1 h.asc
 unfold lowE ya2
 simp only [List.getD_eq_getElem?_getD,List.getElem?_eq_getElem (show 0<p.length by omega),List.getElem?_eq_getElem (show p.length-1<p.length by omega),Option.getD_some]
 constructor
 ·by_cases h0:i=0
  ·subst h0;exact Int.le_refl _
  ·have:=P 0 i (by omega) hi (by omega);omega
 ·by_cases h0:i=p.length-1
  ·subst h0;exact Int.le_refl _
  ·have:=P i (p.length-1) hi (by omega) (by omega);omega
theorem yb0 {p:List (Int×Int)} {i:Nat} (hi:i<p.length):p.getD i (0,0)∈p:=by
 simp [List.getD_eq_getElem?_getD,List.getElem?_eq_getElem hi]
theorem y22 {p q:List (Int×Int)} (hp:AscN p) (hq:AscN q) (e:Int):cfL (tmI (lowE p+lowE q) (mulZ p q)) e=cvL p (cfL q) e:=by
 rw [yfl]
 unfold mulZ
 obtain ⟨N,hN⟩: ∃N:Nat,(ya2 p+ya2 q-(lowE p+lowE q)+1).toNat=N:=⟨_,rfl⟩
 rw [hN]
 have out: ∀e,(∀t∈p,∀u∈q,t.1+u.1≠e)->cvL p (cfL q) e=0:=fun e h=>yzj fun t ht=>yku fun u hu=>by have:=h t ht u hu;omega
 by_cases h1:lowE p+lowE q<=e
 ·rw [if_pos h1]
  obtain ⟨x,hx⟩: ∃x:Nat,e=lowE p+lowE q+x:=⟨(e-(lowE p+lowE q)).toNat,by omega⟩
  rw [hx,show (lowE p+lowE q+(x:Int)-(lowE p+lowE q)).toNat=x by omega]
  have hl:=ygu p q (lowE p+lowE q) p.length (List.replicate N 0)
  rw [List.length_replicate] at hl
  by_cases h2:x<N
  ·rw [yse p q _ _ (fun i j hi hj=>?_) p.length (Nat.le_refl _) x (by simpa using h2),List.take_length]
   ·simp [List.getD_eq_getElem?_getD,h2]
   ·have a:=yfm hp (yb0 hi)
    have b:=yfm hq (yb0 hj)
    rw [List.length_replicate];omega
  ·rw [List.getD_eq_getElem?_getD,List.getElem?_eq_none (by omega)]
   exact (out _ fun t ht u hu=>by have a:=yfm hp ht;have b:=yfm hq hu;omega).symm
 ·rw [if_neg h1]
  exact (out _ fun t ht u hu=>by have a:=yfm hp ht;have b:=yfm hq hu;omega).symm
end Go.Proofs.YtmdjdekgakidhaaDoor
namespace Go.Proofs.YtmdjdekgakidhaaDoor
set_option linter.unusedSimpArgs false
set_option linter.unusedVariables false
def dml (f:Int->Int) (e:Int):Int:= -(f (e+2))-f (e-2)
def dpw:Nat->Int->Int
 |0,e=>if e=0 then 1 else 0
 |j+1,e=>dml (dpw j) e
theorem ydi: ∀(j:Nat) (e:Int),dpw j e≠0-> -(2*(j:Int))<=e/\e<=2*j
 |0,e,h=>by
  have:e=0:=by
   by_cases h0:e=0
   ·exact h0
   ·simp [dpw,h0] at h
  omega
 |j+1,e,h=>by
  by_cases h1:dpw j (e+2)=0
  ·by_cases h2:dpw j (e-2)=0
   ·exact absurd (by simp [dpw,dml,h1,h2]) h
   ·have:=ydi j _ h2;omega
  ·have:=ydi j _ h1;omega
theorem yje: ∀(j:Nat) (e:Int),-((2^j:Nat):Int)<=dpw j e/\dpw j e<=((2^j:Nat):Int)
 |0,e=>by simp only [dpw];split<;>simp
 |j+1,e=>by
  have h1:=yje j (e+2)
  have h2:=yje j (e-2)
  simp only [dpw,dml,Nat.pow_succ]
  omega
theorem y6l (p:List (Int×Int)) (e:Int):cvL p (cfL [(-2,-1),(2,-1)]) e=dml (cfL p) e:=by
 induction p with
 |nil=>rfl
 |cons t p ih=>
  have key:t.2*cfL [(-2,-1),(2,-1)] (e-t.1)= -(if t.1=e+2 then t.2 else 0)-(if t.1=e-2 then t.2 else 0):=by
   simp only [cfL]
   by_cases h1:t.1=e+2
   ·rw [if_pos (by omega),if_neg (by omega),if_pos h1,if_neg (by omega)];omega
   ·rw [if_neg (by omega),if_neg h1]
    by_cases h2:t.1=e-2
    ·rw [if_pos (by omega),if_pos h2];omega
    ·rw [if_neg (by omega),if_neg h2];omega
  show t.2*cfL [(-2,-1),(2,-1)] (e-t.1)+cvL p (cfL [(-2,-1),(2,-1)]) e=_
  rw [key,ih]
  simp only [dml,cfL]
  omega
def hrT (K:Nat) (c:Nat->Nat) (w:Nat->Int) (j:Nat) (e:Int):Int:=sm (fun k=>if j<=c k then dpw (c k-j) (e-w k) else 0) K
def hrR (K:Nat) (c:Nat->Nat) (w:Nat->Int) (j:Nat) (e:Int):Int:=sm (fun k=>if c k=j/\e=w k then 1 else 0) K
section
variable {K:Nat} {c:Nat->Nat} {w:Nat->Int}
theorem yp3 (j:Nat) (e:Int):hrT K c w j e=dml (hrT K c w (j+1)) e+hrR K c w j e:=by
 induction K with
 |zero=>rfl
 |succ K ih=>
  unfold hrT hrR dml at ih⊢
  simp only [sm]
  rw [ih]
  have key:(if j<=c K then dpw (c K-j) (e-w K) else 0)= -(if j+1<=c K then dpw (c K-(j+1)) (e+2-w K) else 0)-(if j+1<=c K then dpw (c K-(j+1)) (e-2-w K) else 0)+(if c K=j/\e=w K then 1 else 0):=by
   by_cases h1:j+1<=c K
   ·rw [if_pos (by omega),if_pos h1,if_pos h1,if_neg (by omega),show c K-j=(c K-(j+1))+1 by omega]
    simp only [dpw,dml]
    rw [show e-w K+2=e+2-w K by omega,show e-w K-2=e-2-w K by omega];omega
   ·rw [if_neg h1,if_neg h1]
    by_cases h2:c K=j
    ·rw [if_pos (by omega),show c K-j=0 by omega]
     simp only [dpw]
     by_cases h3:e=w K
     ·rw [if_pos (by omega),if_pos ⟨h2,h3⟩];omega
     ·rw [if_neg (by omega),if_neg (by omega)];omega
    ·rw [if_neg (by omega),if_neg (by omega)];omega
  dsimp only
  omega
theorem y0m {f:Nat->Int}: ∀{n:Nat},sm f n≠0-> ∃k,k<n/\f k≠0
 |0,h=>absurd rfl h
 |n+1,h=>by
  by_cases h1:f n=0
  ·simp only [sm,h1,Int.add_zero] at h
   obtain ⟨k,h2,h3⟩:=y0m h
   exact ⟨k,by omega,h3⟩
  ·exact ⟨n,by omega,h1⟩
theorem yv8 {f:Nat->Int} {b:Int}: ∀{n:Nat},(∀k,k<n-> -b<=f k/\f k<=b)-> -(b*n)<=sm f n/\sm f n<=b*n
 |0,_=>by simp [sm]
 |n+1,h=>by
  have h1:=yv8 (n:=n) fun k hk=>h k (by omega)
  have h2:=h n (by omega)
  simp only [sm,Int.natCast_add,Int.mul_add]
  omega
theorem yzk {j:Nat} {e:Int} (h:hrT K c w j e≠0): ∃k,k<K/\j<=c k/\w k-2*((c k:Int)-j)<=e/\e<=w k+2*((c k:Int)-j):=by
 obtain ⟨k,hk,h2⟩:=y0m h
 by_cases hj:j<=c k
 ·rw [if_pos hj] at h2
  have:=ydi _ _ h2
  exact ⟨k,hk,hj,by omega,by omega⟩
 ·rw [if_neg hj] at h2;exact absurd rfl h2
theorem y23 {j M:Nat} (hM: ∀k,k<K->c k-j<=M) (e:Int): -((2^M:Nat):Int)*K<=hrT K c w j e/\hrT K c w j e<=((2^M:Nat):Int)*K:=by
 have:=yv8 (f:=fun k=>if j<=c k then dpw (c k-j) (e-w k) else 0) (b:=((2^M:Nat):Int)) (n:=K) fun k hk=>by
  have h1:=hM k hk
  have h2:2^(c k-j)<=2^M:=Nat.pow_le_pow_right (by omega) h1
  have h3:=yje (c k-j) (e-w k)
  split<;>omega
 rw [Int.neg_mul]
 exact this
end
def dmn:Nat->(Int->Int)->Int->Int
 |0,g=>g
 |i+1,g=>dml (dmn i g)
def FinS (g:Int->Int):Prop:= ∃b:Nat,∀e:Int,g e≠0-> -(b:Int)<=e/\e<=b
theorem FinS.dml {g:Int->Int} (h:FinS g):FinS (dml g):=by
 obtain ⟨b,hb⟩:=h
 refine ⟨b+2,fun e he=>?_⟩
 by_cases h1:g (e+2)=0
 ·by_cases h2:g (e-2)=0
  ·exact absurd (by simp [Proofs.YtmdjdekgakidhaaDoor.dml,h1,h2]) he
  ·have:=hb _ h2;omega
 ·have:=hb _ h1;omega
theorem FinS.dmn {g:Int->Int} (h:FinS g): ∀i,FinS (dmn i g)
 |0=>h
 |i+1=>(FinS.dmn h i).dml
theorem FinS.mul {g:Int->Int} (h:FinS g) (a:Int):FinS fun e=>(e-a)*g e:=by
 obtain ⟨b,hb⟩:=h
 exact ⟨b,fun e he=>hb e fun h0=>he (by simp [h0])⟩
theorem FinS.add {g f:Int->Int} (h:FinS g) (h2:FinS f):FinS fun e=>g e+f e:=by
 obtain ⟨b,hb⟩:=h
 obtain ⟨b2,hb2⟩:=h2
 refine ⟨b+b2,fun e he=>?_⟩
 by_cases h0:g e=0
 ·have:=hb2 e fun h1=>he (by simp [h0,h1]);omega
 ·have:=hb e h0;omega
def dsh (g:Int->Int) (e:Int):Int:=2*g (e+2)-2*g (e-2)
theorem FinS.dsh {g:Int->Int} (h:FinS g):FinS (dsh g):=by
 obtain ⟨b,hb⟩:=h
 refine ⟨b+2,fun e he=>?_⟩
 by_cases h1:g (e+2)=0
 ·by_cases h2:g (e-2)=0
  ·exact absurd (by simp [Proofs.YtmdjdekgakidhaaDoor.dsh,h1,h2]) he
  ·have:=hb _ h2;omega
 ·have:=hb _ h1;omega
theorem ysf (g:Int->Int): ∀i e,dmn i (dsh g) e=dsh (dmn i g) e
 |0,e=>rfl
 |i+1,e=>by
  simp only [dmn,dml,ysf g i,dsh]
  rw [show e+2-2=e-2+2 by omega];omega
theorem yfn (g f:Int->Int): ∀i e,dmn i (fun e=>g e+f e) e=dmn i g e+dmn i f e
 |0,e=>rfl
 |i+1,e=>by simp only [dmn,dml,yfn g f i];omega
theorem y24 (a:Int) (g:Int->Int) (e:Int):(e-a)*dml g e=dml (fun e=>(e-a)*g e) e+dsh g e:=by
 simp only [dml,dsh]
 have h1:(e+2-a)*g (e+2)=(e-a)*g (e+2)+2*g (e+2):=by rw [←Int.add_mul];congr 1;omega
 have h2:(e-2-a)*g (e-2)=(e-a)*g (e-2)-2*g (e-2):=by rw [←Int.sub_mul];congr 1;omega
 rw [h1,h2,Int.mul_sub,Int.mul_neg]
 omega
theorem ysg (a:Int) {g:Int->Int} (hg:FinS g): ∀i,∃g',FinS g'/\ ∀e,(e-a)*dmn (i+1) g e=dmn i g' e
 |0=>⟨fun e=>(e-a)*dmn 1 g e,(hg.dmn 1).mul a,fun e=>rfl⟩
 |i+1=>by
  obtain ⟨g',h1,h2⟩:=ysg a hg i
  refine ⟨fun e=>g' e+dsh g e,h1.add hg.dsh,fun e=>?_⟩
  have h3:dmn (i+1+1) g e=dml (dmn (i+1) g) e:=rfl
  rw [h3,y24,yfn,ysf]
  congr 1
  simp only [dmn,dml] at h2⊢
  rw [←h2,←h2]
theorem AscN.len {p:List (Int×Int)} (h:AscN p): ∀{a b:Int},(∀t∈p,a<=t.1/\t.1<=b)->(p.length:Int)<=max 0 (b-a+1):=by
 induction p with
 |nil=>intro a b _;simp;omega
 |cons t p ih=>
  intro a b hb
  have h1:=hb t (List.mem_cons_self ..)
  have:=ih h.tail (a:=t.1+1) (b:=b) fun u hu=>by
   have h2:=h.head u hu
   have h3:=hb u (List.mem_cons_of_mem _ hu)
   omega
  simp only [List.length_cons]
  omega
theorem yp4 (a:Int): ∀(p:List (Int×Int)) (e:Int),cfL (p.map fun t=>(t.1,(t.1-a)*t.2)) e=(e-a)*cfL p e
 |[],e=>by simp [cfL]
 |t::p,e=>by
  simp only [List.map_cons,cfL,yp4 a p e,Int.mul_add]
  by_cases h:t.1=e
  ·rw [if_pos h,if_pos h,h]
  ·rw [if_neg h,if_neg h];omega
theorem yl5: ∀(i:Nat) (p:List (Int×Int)) (g:Int->Int),AscN p->FinS g->(∀e,cfL p e=dmn i g e)->p≠[]->i+1<=p.length
 |0,p,g,_,_,_,hne=>by
  have:=List.length_pos_iff.2 hne;omega
 |i+1,[],g,_,_,_,hne=>absurd rfl hne
 |i+1,t::p,g,hp,hg,hc,_=>by
  obtain ⟨g',h1,h2⟩:=ysg t.1 hg i
  have hq:AscN (p.map fun u=>(u.1,(u.1-t.1)*u.2)):=by
   refine ⟨?_,fun u hu=>?_⟩
   ·rw [List.pairwise_map];exact hp.tail.asc
   ·obtain ⟨v,hv,rfl⟩:=List.mem_map.1 hu
    have a1:=hp.head v hv
    have a2:=hp.nz v (List.mem_cons_of_mem _ hv)
    exact Int.mul_ne_zero (by omega) a2
  have hcq: ∀e,cfL (p.map fun u=>(u.1,(u.1-t.1)*u.2)) e=dmn i g' e:=fun e=>by
   rw [yp4,←h2,←hc]
   simp only [cfL]
   by_cases h:t.1=e
   ·rw [if_pos h,h];simp
   ·rw [if_neg h];simp
  by_cases hne:p=[]
  ·exfalso
   subst hne
   obtain ⟨b,hb⟩:=hg.dmn i
   have h3: ∀e,dml (dmn i g) e=if t.1=e then t.2 else 0:=fun e=>by
    have:=hc e;simp only [cfL,dmn,Int.add_zero] at this;exact this.symm
   have t2:=hp.nz t (List.mem_cons_self ..)
   have lo: ∀d:Nat,∀e:Int,e<t.1+2->e<= -(b:Int)-1+d->dmn i g e=0:=by
    intro d
    induction d using Nat.strongRecOn with
    |_ d ih=>
     intro e h4 h5
     by_cases h6:e<= -(b:Int)-1
     ·by_cases h7:dmn i g e=0
      ·exact h7
      ·have:=hb e h7;omega
     ·have h8:=h3 (e-2)
      rw [if_neg (by omega)] at h8
      have h9:dmn i g (e-2-2)=0:=by
       by_cases h10:d<=3
       ·by_cases h11:dmn i g (e-2-2)=0
        ·exact h11
        ·have:=hb _ h11;omega
       ·exact ih (d-4) (by omega) _ (by omega) (by omega)
      simp only [dml] at h8
      rw [h9,show e-2+2=e by omega] at h8;omega
   have hi: ∀d:Nat,∀e:Int,t.1-2<e->(b:Int)+1-d<=e->dmn i g e=0:=by
    intro d
    induction d using Nat.strongRecOn with
    |_ d ih=>
     intro e h4 h5
     by_cases h6:(b:Int)+1<=e
     ·by_cases h7:dmn i g e=0
      ·exact h7
      ·have:=hb e h7;omega
     ·have h8:=h3 (e+2)
      rw [if_neg (by omega)] at h8
      have h9:dmn i g (e+2+2)=0:=by
       by_cases h10:d<=3
       ·by_cases h11:dmn i g (e+2+2)=0
        ·exact h11
        ·have:=hb _ h11;omega
       ·exact ih (d-4) (by omega) _ (by omega) (by omega)
      simp only [dml] at h8
      rw [h9,show e+2-2=e by omega] at h8;omega
   have e1:=h3 t.1
   rw [if_pos rfl] at e1
   simp only [dml] at e1
   rw [lo (t.1-2+b+1).toNat (t.1-2) (by omega) (by omega),hi (b+1-(t.1+2)).toNat (t.1+2) (by omega) (by omega)] at e1
   omega
  ·have:=yl5 i _ g' hq h1 hcq (by simpa using hne)
   simp only [List.length_map,List.length_cons] at this⊢
   omega
end Go.Proofs.YtmdjdekgakidhaaDoor
namespace Go.Proofs.YtmdjdekgakidhaaDoor
set_option linter.unusedSimpArgs false
set_option linter.unusedVariables false
structure PmOk (m:List Int) (n:Nat):Prop where
 ok:yba m n
 inv: ∀x:Nat,x<4*n->m.getD (m.getD x 0).toNat 0=x
 ne: ∀x:Nat,x<4*n->m.getD x 0≠x
theorem pmOk {s m:List Int} {L:Int} (h:ybb s m L=true):PmOk m s.length:=by
 have v:=yin h
 refine ⟨v.prd.ok,v.prd.inv,fun x hx=>?_⟩
 have:=v.mt x hx
 omega
abbrev cirS (m:List Int) (n:Nat) (ch:Nat->Bool):Nat:=roots (mgB m ch n)
theorem yir {m:List Int} {ch ch':Nat->Bool}: ∀{n:Nat},(∀c,c<n->ch c=ch' c)->mgB m ch n=mgB m ch' n
 |0,_=>rfl
 |n+1,h=>by
  have:=yir (m:=m) (n:=n) fun c hc=>h c (by omega)
  simp only [mgB,h n (by omega),this]
def nb01 (b:Bool):Nat:=if b then 1 else 0
theorem yzl (ch:Nat->Bool):st3 (fun c=>nb01 (ch c))=fun x=>jnB (ch (x/4).toNat) x:=by
 funext x
 unfold st3 nb01
 dsimp only
 cases ch (x/4).toNat<;>rfl
section
variable {m:List Int} {n:Nat} (hp:PmOk m n)
include hp
theorem yl6 (ch:Nat->Bool):CirR n (fun x=>m.getD x.toNat 0) (st3 (fun c=>nb01 (ch c))) (mgB m ch n):=by
 rw [yzl];exact y0g hp.ok hp.inv hp.ne
theorem yv9 (s:Nat->Nat):CirR n (fun x=>m.getD x.toNat 0) (st3 s) (crN (fun x=>m.getD x.toNat 0) (st3 s) (4*n) (4*n)):=yhv (yjb hp.ok hp.inv hp.ne s)
theorem ywa (ch:Nat->Bool):cirS m n ch=cir3 m n (fun c=>nb01 (ch c)):=yhu (yl6 hp ch) (yv9 hp _)
theorem yt6 (s:Nat->Nat) {c:Nat} (hc:c<n): ∃K t0,t0<3/\ ∀t,t<3->cir3 m n (fun x=>if x=c then t else s x)=if t=t0 then K+1 else K:=by
 refine y6k (c:=c) (j:=fun t=>st3 (fun x=>if x=c then t else s x)) hc (fun t _=>yjb hp.ok hp.inv hp.ne _) (fun t _=>y6j _) (fun t _ x hx=>?_) (fun t _ x h0 hx=>?_) (fun t _=>yv9 hp _)
 ·simp only [st3];rw [if_pos (by omega)]
 ·simp only [st3]
  rw [if_neg (by omega),if_neg (by omega)]
theorem yzm {ch ch':Nat->Bool} {c:Nat} (hc:c<n) (h: ∀x,x≠c->ch x=ch' x):cirS m n ch<=cirS m n ch'+1:=by
 obtain ⟨K,t0,_,h3⟩:=yt6 hp (fun x=>nb01 (ch x)) hc
 have e1:(fun x=>nb01 (ch x))=fun x=>if x=c then nb01 (ch c) else nb01 (ch x):=by
  funext x;by_cases e:x=c
  ·rw [if_pos e,e]
  ·rw [if_neg e]
 have e2:(fun x=>nb01 (ch' x))=fun x=>if x=c then nb01 (ch' c) else nb01 (ch x):=by
  funext x;by_cases e:x=c
  ·rw [if_pos e,e]
  ·rw [if_neg e,h x e]
 have l01: ∀b,nb01 b<3:=fun b=>by cases b<;>decide
 rw [ywa hp,ywa hp,e1,e2,h3 _ (l01 _),h3 _ (l01 _)]
 split<;>split<;>omega
def difS (b:Bool) (ch:Nat->Bool):Nat->Nat
 |0=>0
 |c+1=>difS b ch c+if ch c=b then 0 else 1
omit hp in
theorem ykv (ch:Nat->Bool): ∀c,difS false ch c+difS true ch c=c
 |0=>rfl
 |c+1=>by have:=ykv ch c;simp only [difS];cases ch c<;>simp<;>omega
theorem yp5 (b:Bool) (ch:Nat->Bool): ∀i,i<=n->cirS m n (fun c=>if c<i then ch c else b)<=cirS m n (fun _=>b)+difS b ch i
 |0,_=>by simp [difS]
 |i+1,hi=>by
  have ih:=yp5 b ch i (by omega)
  simp only [difS]
  by_cases hb:ch i=b
  ·rw [if_pos hb]
   have:(fun c=>if c<i+1 then ch c else b)=fun c=>if c<i then ch c else b:=by
    funext c
    by_cases e:c=i
    ·subst e;rw [if_pos (by omega),if_neg (by omega),hb]
    ·by_cases e2:c<i
     ·rw [if_pos (by omega),if_pos e2]
     ·rw [if_neg (by omega),if_neg e2]
   rw [this];exact ih
  ·rw [if_neg hb]
   have:=yzm hp (c:=i) (by omega) (ch:=fun c=>if c<i+1 then ch c else b) (ch':=fun c=>if c<i then ch c else b) fun x hx=>by
    by_cases e2:x<i
    ·rw [if_pos (by omega),if_pos e2]
    ·rw [if_neg (by omega),if_neg e2]
   omega
theorem yjf (b:Bool) (ch:Nat->Bool):cirS m n ch<=cirS m n (fun _=>b)+difS b ch n:=by
 have:=yp5 hp b ch n (Nat.le_refl _)
 have e:cirS m n (fun c=>if c<n then ch c else b)=cirS m n ch:=by
  unfold cirS;rw [yir fun c hc=>by rw [if_pos hc]]
 omega
theorem yp6:cirS m n (fun _=>false)+cirS m n (fun _=>true)<=3*n:=by
 have h0:=yl6 hp (fun _=>false)
 have h1:=yl6 hp (fun _=>true)
 refine yy5 (yjb hp.ok hp.inv hp.ne _) (yjb hp.ok hp.inv hp.ne _) h0 h1 fun x hx=>?_
 have V:=ypw (x/4)
 show pr3 0 x≠pr3 1 x
 rcases (show x=4*(x/4)\/x=4*(x/4)+1\/x=4*(x/4)+2\/x=4*(x/4)+3 by omega) with h|h|h|h<;>(rw [h];omega)
theorem yc4 (ch:Nat->Bool):cirS m n ch<=2*n:=by
 have h1:=yjf hp false ch
 have h2:=yjf hp true ch
 have h3:=yp6 hp
 have h4:=ykv ch n
 omega
theorem ykw (ch:Nat->Bool) (hn:0<n):1<=cirS m n ch:=y2v n (yl6 hp ch) hn
end
def chB (b:Nat) (c:Nat):Bool:=b/2^c % 2==1
def cntB (b:Nat):Nat->Nat
 |0=>0
 |c+1=>cntB b c+b/2^c % 2
theorem ykx (b:Nat): ∀c,cntB b c=difS false (chB b) c
 |0=>rfl
 |c+1=>by
  simp only [cntB,difS,ykx b c,chB]
  by_cases h:b/2^c % 2=1
  ·simp [h]
  ·have:b/2^c % 2=0:=by omega
   simp [this]
def cN (m:List Int) (n L:Nat) (b:Nat):Nat:=cirS m n (chB b)+L
def wB (n:Nat) (b:Nat):Int:=(n:Int)-2*cntB b n
def brT (m:List Int) (n L:Nat) (j:Nat) (e:Int):Int:=hrT (2^n) (cN m n L) (wB n) j e
section
variable {m:List Int} {n L:Nat} (hp:PmOk m n)
include hp
theorem yh4 {j:Nat} {e:Int} (h:brT m n L j e≠0): -(n:Int)-2*(cirS m n (fun _=>true)+L)+2*j<=e/\e<=n+2*(cirS m n (fun _=>false)+L)-2*j:=by
 obtain ⟨k,_,hj,h1,h2⟩:=yzk h
 have a1:=yjf hp false (chB k)
 have a2:=yjf hp true (chB k)
 have a3:=ykv (chB k) n
 have a4:=ykx k n
 unfold wB cN at*
 omega
theorem y6m (b:Nat):cN m n L b<=2*n+L:=by have:=yc4 hp (chB b);unfold cN;omega
theorem y25 {j M:Nat} (hM:2*n+L<=M+j) (e:Int): -((2^(M+n):Nat):Int)<=brT m n L j e/\brT m n L j e<=((2^(M+n):Nat):Int):=by
 have:=y23 (K:=2^n) (c:=cN m n L) (w:=wB n) (j:=j) (M:=M) (fun k _=>by have:=y6m hp (L:=L) k;omega) e
 rw [Nat.pow_add,Int.natCast_mul,←Int.neg_mul]
 exact this
omit hp in
theorem ysh: ∀i,i<=L-> ∀e,brT m n L (L-i) e=dmn i (brT m n L L) e
 |0,_,e=>rfl
 |i+1,hi,e=>by
  have h1:=yp3 (K:=2^n) (c:=cN m n L) (w:=wB n) (L-(i+1)) e
  rw [show L-(i+1)+1=L-i by omega] at h1
  have h0:hrR (2^n) (cN m n L) (wB n) (L-(i+1)) e=0:=by
   have:hrR (2^n) (cN m n L) (wB n) (L-(i+1)) e=sm (fun _=>0) (2^n):=yc3 fun k _=>by
    rw [if_neg]
    rintro ⟨h2,_⟩
    unfold cN at h2;omega
   rw [this,yeb];omega
  rw [h0] at h1
  show hrT _ _ _ _ _=dml (dmn i (brT m n L L)) e
  rw [h1]
  simp only [dml,←ysh i (by omega),Int.add_zero]
  rfl
omit hp in
theorem ym0 {p:List (Int×Int)} (ha:AscN p) {f:Int->Int} (hf: ∀e,cfL p e=f e) {a b:Int} (hs: ∀e,f e≠0->a<=e/\e<=b): ∀t∈p,a<=t.1/\t.1<=b:=fun t ht=>hs _ (by rw [←hf,yfj ha ht];exact ha.nz t ht)
end
end Go.Proofs.YtmdjdekgakidhaaDoor
