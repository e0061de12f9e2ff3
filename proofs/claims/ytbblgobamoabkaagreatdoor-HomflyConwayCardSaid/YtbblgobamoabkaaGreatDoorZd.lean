/- Laurent polynomials as functions of the exponent, plain. -/
import Derived.Test.YtbblgobamoabkaaGreatDoorZc
import Derived.Test.YtbblgobamoabkaaGreatDoorZb
import Derived.Test.YtbblgobamoabkaaGreatDoorZa
set_option linter.unusedSimpArgs false
set_option linter.unusedVariables false
namespace Go.Proofs.YtbblgobamoabkaaGreatDoor
def cfL:List (Int×Int)->Int->Int
 |[],_=>0
 |t::p,e=>(if t.1=e then t.2 else 0)+cfL p e
structure AscN (p:List (Int×Int)):Prop where
 asc:p.Pairwise fun a b=>a.1<b.1
 nz: ∀t∈p,t.2≠0
theorem ydu (p q:List (Int×Int)) (e:Int):cfL (p++q) e=cfL p e+cfL q e:=by
 induction p with
 |nil=>simp [cfL]
 |cons t p ih=>simp only [List.cons_append,cfL,ih];omega
theorem ybj {p:List (Int×Int)} {e:Int} (h: ∀t∈p,t.1≠e):cfL p e=0:=by
 induction p with
 |nil=>rfl
 |cons t p ih=>
  simp only [cfL]
  rw [if_neg (h t (List.mem_cons_self ..)),ih fun u hu=>h u (List.mem_cons_of_mem _ hu)];rfl
theorem AscN.tail {t:Int×Int} {p:List (Int×Int)} (h:AscN (t::p)):AscN p:=⟨(List.pairwise_cons.1 h.asc).2,fun u hu=>h.nz u (List.mem_cons_of_mem _ hu)⟩
theorem AscN.head {t:Int×Int} {p:List (Int×Int)} (h:AscN (t::p)): ∀u∈p,t.1<u.1:=(List.pairwise_cons.1 h.asc).1
theorem AscN.nil:AscN []:=⟨.nil,fun _ h=>by cases h⟩
theorem yf2 {p:List (Int×Int)} (h:AscN p) {t:Int×Int} (ht:t∈p):cfL p t.1=t.2:=by
 induction p with
 |nil=>cases ht
 |cons u p ih=>
  simp only [cfL]
  rcases List.mem_cons.1 ht with rfl|ht
  ·rw [if_pos rfl,ybj fun v hv=>by have:=h.head v hv;omega];omega
  ·rw [if_neg (by have:=h.head t ht;omega),ih h.tail ht];omega
theorem yxj {p:List (Int×Int)} {e:Int} (h:cfL p e≠0): ∃t∈p,t.1=e:=by
 induction p with
 |nil=>exact absurd rfl h
 |cons t p ih=>
  by_cases ht:t.1=e
  ·exact ⟨t,List.mem_cons_self ..,ht⟩
  ·simp only [cfL,if_neg ht,Int.zero_add] at h
   obtain ⟨u,hu,e2⟩:=ih h
   exact ⟨u,List.mem_cons_of_mem _ hu,e2⟩
theorem AscN.ext: ∀{p q:List (Int×Int)},AscN p->AscN q->(∀e,cfL p e=cfL q e)->p=q
 |[],[],_,_,_=>rfl
 |[],t::q,_,hq,h=>by
  have:=h t.1
  rw [yf2 hq (List.mem_cons_self ..)] at this
  exact absurd this.symm (hq.nz t (List.mem_cons_self ..))
 |t::p,[],hp,_,h=>by
  have:=h t.1
  rw [yf2 hp (List.mem_cons_self ..)] at this
  exact absurd this (hp.nz t (List.mem_cons_self ..))
 |t::p,u::q,hp,hq,h=>by
  have m1:cfL (t::p) t.1=t.2:=yf2 hp (List.mem_cons_self ..)
  have m2:cfL (u::q) u.1=u.2:=yf2 hq (List.mem_cons_self ..)
  have n1:=hp.nz t (List.mem_cons_self ..)
  have n2:=hq.nz u (List.mem_cons_self ..)
  have e1:t.1=u.1:=by
   obtain ⟨v,hv,ev⟩:=yxj (p:=u::q) (e:=t.1) (by rw [←h,m1];exact n1)
   obtain ⟨w,hw,ew⟩:=yxj (p:=t::p) (e:=u.1) (by rw [h,m2];exact n2)
   rcases List.mem_cons.1 hv with rfl|hv
   ·exact ev.symm
   ·rcases List.mem_cons.1 hw with rfl|hw
    ·exact ew
    ·have:=hq.head v hv
     have:=hp.head w hw
     omega
  have e2:t.2=u.2:=by rw [←m1,←m2,h,e1]
  have et:t=u:=Prod.ext e1 e2
  subst et
  rw [AscN.ext hp.tail hq.tail fun e=>by have:=h e;simp only [cfL] at this;omega]
theorem ysq: ∀(e:Int) (l:List Int),∀t∈tmI e l,e<=t.1/\t.1<e+l.length
 |_,[],t,ht=>by cases ht
 |e,c::r,t,ht=>by
  simp only [tmI] at ht
  have key:t∈tmI (e+1) r->e<=t.1/\t.1<e+(c::r).length:=fun h=>by
   have:=ysq (e+1) r t h
   simp only [List.length_cons];omega
  split at ht
  ·exact key ht
  ·rcases List.mem_cons.1 ht with rfl|ht
   ·simp only [List.length_cons];omega
   ·exact key ht
theorem ym3: ∀(e:Int) (l:List Int),AscN (tmI e l)
 |_,[]=> .nil
 |e,c::r=>by
  have ih:=ym3 (e+1) r
  simp only [tmI]
  split
  ·exact ih
  ·rename_i h
   refine ⟨List.pairwise_cons.2 ⟨fun u hu=>by have:=ysq (e+1) r u hu;show e<u.1;omega,ih.asc⟩,fun u hu=>?_⟩
   rcases List.mem_cons.1 hu with rfl|hu
   ·exact h
   ·exact ih.nz u hu
theorem yjr: ∀(e:Int) (l:List Int) (x:Int),cfL (tmI e l) x=if e<=x then l.getD (x-e).toNat 0 else 0
 |e,[],x=>by simp [tmI,cfL]
 |e,c::r,x=>by
  have ih:=yjr (e+1) r x
  by_cases hx:e=x
  ·subst hx
   rw [if_neg (by omega)] at ih
   simp only [tmI]
   split
   ·rename_i h;rw [ih,if_pos (Int.le_refl _)];simp [h]
   ·simp only [cfL,ih];simp
  ·have k:cfL (tmI e (c::r)) x=cfL (tmI (e+1) r) x:=by
    simp only [tmI]
    split
    ·rfl
    ·simp only [cfL];rw [if_neg hx];omega
   rw [k,ih]
   by_cases hl:e+1<=x
   ·rw [if_pos hl,if_pos (by omega)]
    obtain ⟨d,hd⟩: ∃d:Nat,x=e+1+d:=⟨(x-e-1).toNat,by omega⟩
    rw [hd,show (e+1+(d:Int)-e).toNat=d+1 by omega,show (e+1+(d:Int)-(e+1)).toNat=d by omega,List.getD_cons_succ]
   ·rw [if_neg hl,if_neg (by omega)]
theorem yxk (l:List (Int×Int)) (e:Int):cfL (nz l) e=cfL l e:=by
 induction l with
 |nil=>rfl
 |cons t l ih=>
  unfold nz at ih⊢
  by_cases h:t.2=0
  ·rw [List.filter_cons_of_neg (by simp [h]),ih];simp only [cfL,h];split<;>omega
  ·rw [List.filter_cons_of_pos (by simp [h])];simp only [cfL,ih]
theorem yhi (f:Int->Int->Int) (x:Int): ∀p q:List (Int×Int),(∀t∈p,x<t.1)->(∀t∈q,x<t.1)-> ∀t∈mrg f p q,x<t.1:=by
 intro p q
 induction p,q using mrg.induct with
 |case1=>intro _ _ t ht;simp [mrg] at ht
 |case2 e a p ih=>
  intro hp hq t ht
  unfold mrg at ht
  rcases List.mem_cons.1 ht with rfl|ht
  ·exact hp (e,a) (List.mem_cons_self ..)
  ·exact ih (fun u hu=>hp u (List.mem_cons_of_mem _ hu)) hq t ht
 |case3 e b q ih=>
  intro hp hq t ht
  unfold mrg at ht
  rcases List.mem_cons.1 ht with rfl|ht
  ·exact hq (e,b) (List.mem_cons_self ..)
  ·exact ih hp (fun u hu=>hq u (List.mem_cons_of_mem _ hu)) t ht
 |case4 e a p e' b q h ih=>
  intro hp hq t ht
  unfold mrg at ht
  rw [if_pos h] at ht
  rcases List.mem_cons.1 ht with rfl|ht
  ·exact hp (e,a) (List.mem_cons_self ..)
  ·exact ih (fun u hu=>hp u (List.mem_cons_of_mem _ hu)) hq t ht
 |case5 e a p e' b q h h2 ih=>
  intro hp hq t ht
  unfold mrg at ht
  rw [if_neg h,if_pos h2] at ht
  rcases List.mem_cons.1 ht with rfl|ht
  ·exact hq (e',b) (List.mem_cons_self ..)
  ·exact ih hp (fun u hu=>hq u (List.mem_cons_of_mem _ hu)) t ht
 |case6 e a p e' b q h h2 ih=>
  intro hp hq t ht
  unfold mrg at ht
  rw [if_neg h,if_neg h2] at ht
  rcases List.mem_cons.1 ht with rfl|ht
  ·exact hp (e,a) (List.mem_cons_self ..)
  ·exact ih (fun u hu=>hp u (List.mem_cons_of_mem _ hu)) (fun u hu=>hq u (List.mem_cons_of_mem _ hu)) t ht
theorem y4z (f:Int->Int->Int): ∀p q:List (Int×Int),p.Pairwise (fun a b=>a.1<b.1)->q.Pairwise (fun a b=>a.1<b.1)->(mrg f p q).Pairwise fun a b=>a.1<b.1:=by
 intro p q
 induction p,q using mrg.induct with
 |case1=>intro _ _;simp [mrg]
 |case2 e a p ih=>
  intro hp hq
  unfold mrg
  have h1:=List.pairwise_cons.1 hp
  exact List.pairwise_cons.2 ⟨yhi f e p [] h1.1 (fun _ h=>by cases h),ih h1.2 hq⟩
 |case3 e b q ih=>
  intro hp hq
  unfold mrg
  have h1:=List.pairwise_cons.1 hq
  exact List.pairwise_cons.2 ⟨yhi f e [] q (fun _ h=>by cases h) h1.1,ih hp h1.2⟩
 |case4 e a p e' b q h ih=>
  intro hp hq
  unfold mrg
  rw [if_pos h]
  have h1:=List.pairwise_cons.1 hp
  have h2:=List.pairwise_cons.1 hq
  refine List.pairwise_cons.2 ⟨yhi f e p _ h1.1 (fun t ht=>?_),ih h1.2 hq⟩
  rcases List.mem_cons.1 ht with rfl|ht
  ·exact h
  ·have:=h2.1 t ht;show e<t.1;simp only at this;omega
 |case5 e a p e' b q h h2 ih=>
  intro hp hq
  unfold mrg
  rw [if_neg h,if_pos h2]
  have h3:=List.pairwise_cons.1 hp
  have h4:=List.pairwise_cons.1 hq
  refine List.pairwise_cons.2 ⟨yhi f e' _ q (fun t ht=>?_) h4.1,ih hp h4.2⟩
  rcases List.mem_cons.1 ht with rfl|ht
  ·exact h2
  ·have:=h3.1 t ht;show e'<t.1;simp only at this;omega
 |case6 e a p e' b q h h2 ih=>
  intro hp hq
  unfold mrg
  rw [if_neg h,if_neg h2]
  have h3:=List.pairwise_cons.1 hp
  have h4:=List.pairwise_cons.1 hq
  refine List.pairwise_cons.2 ⟨yhi f e p q h3.1 (fun t ht=>?_),ih h3.2 h4.2⟩
  have:=h4.1 t ht;show e<t.1;simp only at this;omega
theorem y40 (f:Int->Int->Int) (h0:f 0 0=0): ∀p q:List (Int×Int),p.Pairwise (fun a b=>a.1<b.1)->q.Pairwise (fun a b=>a.1<b.1)-> ∀x,cfL (mrg f p q) x=f (cfL p x) (cfL q x):=by
 intro p q
 induction p,q using mrg.induct with
 |case1=>intro _ _ x;simp [mrg,cfL,h0]
 |case2 e a p ih=>
  intro hp hq x
  have h1:=List.pairwise_cons.1 hp
  conv=>lhs;unfold mrg
  simp only [cfL]
  rw [ih h1.2 hq]
  by_cases hx:e=x
  ·have n1:cfL p x=0:=ybj fun t ht=>by have:=h1.1 t ht;simp only at this;omega
   rw [if_pos hx,if_pos hx,n1];simp [cfL,h0]
  ·rw [if_neg hx,if_neg hx];simp [cfL]
 |case3 e b q ih=>
  intro hp hq x
  have h1:=List.pairwise_cons.1 hq
  conv=>lhs;unfold mrg
  simp only [cfL]
  rw [ih hp h1.2]
  by_cases hx:e=x
  ·have n1:cfL q x=0:=ybj fun t ht=>by have:=h1.1 t ht;simp only at this;omega
   rw [if_pos hx,if_pos hx,n1];simp [cfL,h0]
  ·rw [if_neg hx,if_neg hx];simp [cfL]
 |case4 e a p e' b q h ih=>
  intro hp hq x
  have h1:=List.pairwise_cons.1 hp
  have h2:=List.pairwise_cons.1 hq
  conv=>lhs;unfold mrg
  rw [if_pos h]
  simp only [cfL]
  rw [ih h1.2 hq]
  simp only [cfL]
  by_cases hx:e=x
  ·have n1:cfL p x=0:=ybj fun t ht=>by have:=h1.1 t ht;simp only at this;omega
   have n2:cfL q x=0:=ybj fun t ht=>by have:=h2.1 t ht;simp only at this;omega
   rw [if_pos hx,if_pos hx,n1,n2,if_neg (by omega)];simp [h0]
  ·rw [if_neg hx,if_neg hx];simp
 |case5 e a p e' b q h h2 ih=>
  intro hp hq x
  have h3:=List.pairwise_cons.1 hp
  have h4:=List.pairwise_cons.1 hq
  conv=>lhs;unfold mrg
  rw [if_neg h,if_pos h2]
  simp only [cfL]
  rw [ih hp h4.2]
  simp only [cfL]
  by_cases hx:e'=x
  ·have n1:cfL p x=0:=ybj fun t ht=>by have:=h3.1 t ht;simp only at this;omega
   have n2:cfL q x=0:=ybj fun t ht=>by have:=h4.1 t ht;simp only at this;omega
   rw [if_pos hx,if_pos hx,n1,n2,if_neg (by omega)];simp [h0]
  ·rw [if_neg hx,if_neg hx];simp
 |case6 e a p e' b q h h2 ih=>
  intro hp hq x
  have h3:=List.pairwise_cons.1 hp
  have h4:=List.pairwise_cons.1 hq
  conv=>lhs;unfold mrg
  rw [if_neg h,if_neg h2]
  simp only [cfL]
  rw [ih h3.2 h4.2]
  have ee:e'=e:=by omega
  by_cases hx:e=x
  ·have n1:cfL p x=0:=ybj fun t ht=>by have:=h3.1 t ht;simp only at this;omega
   have n2:cfL q x=0:=ybj fun t ht=>by have:=h4.1 t ht;simp only at this;omega
   rw [if_pos hx,if_pos hx,n1,n2,if_pos (by omega)];simp [h0]
  ·rw [if_neg hx,if_neg hx,if_neg (by omega)];simp
theorem yxl {l:List (Int×Int)} (h:l.Pairwise fun a b=>a.1<b.1):AscN (nz l):=by
 refine ⟨List.Pairwise.filter _ h,fun t ht=>?_⟩
 have:=(List.mem_filter.1 ht).2
 simpa using this
def cvL (p:List (Int×Int)) (g:Int->Int) (e:Int):Int:=match p with
 |[]=>0
 |t::p=>t.2*g (e-t.1)+cvL p g e
theorem yxm (l:List Int) (i j:Nat) (v:Int) (hi:i<l.length):(l.set i v).getD j 0=if i=j then v else l.getD j 0:=by
 by_cases h:i=j
 ·subst h;simp [hi]
 ·rw [if_neg h];simp [List.getD_eq_getElem?_getD,List.getElem?_set_ne h]
theorem y1l (p:List (Int×Int)) (t:Int×Int) (e:Int):cfL (p++[t]) e=cfL p e+if t.1=e then t.2 else 0:=by
 rw [ydu];simp [cfL]
theorem yl3 {α:Type} {l:List α} {k:Nat} (d:α) (h:k<l.length):l.take (k+1)=l.take k++[l.getD k d]:=by
 rw [List.take_succ_eq_append_getElem h];simp [h]
theorem ysr (q:List (Int×Int)) (low e c:Int) (zs:List Int) (hr: ∀j,j<q.length->low<=e+(q.getD j (0,0)).1/\e+(q.getD j (0,0)).1<low+zs.length):
  ∀j,j<=q.length-> ∀x:Nat,x<zs.length->(pz2 q low e c j zs).getD x 0=zs.getD x 0+c*cfL (q.take j) (low+x-e)
 |0,_,x,_=>by simp [pz2,cfL]
 |j+1,hj,x,hx=>by
  have ih:=ysr q low e c zs hr j (by omega)
  have h1:=hr j (by omega)
  have hl:=yjq q low e c j zs
  rw [yl3 (0,0) (by omega),y1l]
  simp only [pz2]
  rw [yxm _ _ _ _ (by omega)]
  by_cases h:(e+(q.getD j (0,0)).1-low).toNat=x
  ·rw [if_pos h,h,ih x hx,if_pos (by omega),Int.mul_add];omega
  ·rw [if_neg h,ih x hx,if_neg (by omega),Int.add_zero]
theorem y1m (p:List (Int×Int)) (t:Int×Int) (g:Int->Int) (e:Int):cvL (p++[t]) g e=cvL p g e+t.2*g (e-t.1):=by
 induction p with
 |nil=>simp [cvL]
 |cons u p ih=>simp only [List.cons_append,cvL,ih];omega
theorem yss (p q:List (Int×Int)) (low:Int) (zs:List Int) (hr: ∀i j,i<p.length->j<q.length->low<=(p.getD i (0,0)).1+(q.getD j (0,0)).1/\(p.getD i (0,0)).1+(q.getD j (0,0)).1<low+zs.length):
  ∀i,i<=p.length-> ∀x:Nat,x<zs.length->(pz1 p q low i zs).getD x 0=zs.getD x 0+cvL (p.take i) (cfL q) (low+x)
 |0,_,x,_=>by simp [pz1,cvL]
 |i+1,hi,x,hx=>by
  have ih:=yss p q low zs hr i (by omega)
  have hl:=yhh p q low i zs
  simp only [pz1]
  rw [ysr q low _ _ _ (fun j hj=>by have:=hr i j (by omega) hj;rw [hl];exact this) q.length (Nat.le_refl _) x (by omega),ih x hx,yl3 (0,0) (by omega),y1m,List.take_length]
  omega
theorem y1n {p:List (Int×Int)} {g:Int->Int} {e:Int} (h: ∀t∈p,g (e-t.1)=0):cvL p g e=0:=by
 induction p with
 |nil=>rfl
 |cons t p ih=>simp only [cvL,h t (List.mem_cons_self ..),ih fun u hu=>h u (List.mem_cons_of_mem _ hu)];simp
theorem yf3 {p:List (Int×Int)} (h:AscN p) {t:Int×Int} (ht:t∈p):lowE p<=t.1/\t.1<=yb8 p:=by
 obtain ⟨i,hi,rfl⟩:=List.mem_iff_getElem.1 ht
 have P:=List.pairwise_iff_getElem.1 h.asc
 unfold lowE yb8
 simp only [List.getD_eq_getElem?_getD,List.getElem?_eq_getElem (show 0<p.length by omega),List.getElem?_eq_getElem (show p.length-1<p.length by omega),Option.getD_some]
 constructor
 ·by_cases h0:i=0
  ·subst h0;exact Int.le_refl _
  ·have:=P 0 i (by omega) hi (by omega);omega
 ·by_cases h0:i=p.length-1
  ·subst h0;exact Int.le_refl _
  ·have:=P i (p.length-1) hi (by omega) (by omega);omega
theorem yce {p:List (Int×Int)} {i:Nat} (hi:i<p.length):p.getD i (0,0)∈p:=by
 simp [List.getD_eq_getElem?_getD,List.getElem?_eq_getElem hi]
theorem y41 {p q:List (Int×Int)} (hp:AscN p) (hq:AscN q) (e:Int):cfL (tmI (lowE p+lowE q) (mulZ p q)) e=cvL p (cfL q) e:=by
 rw [yjr]
 unfold mulZ
 obtain ⟨N,hN⟩: ∃N:Nat,(yb8 p+yb8 q-(lowE p+lowE q)+1).toNat=N:=⟨_,rfl⟩
 rw [hN]
 have out: ∀e,(∀t∈p,∀u∈q,t.1+u.1≠e)->cvL p (cfL q) e=0:=fun e h=>y1n fun t ht=>ybj fun u hu=>by have:=h t ht u hu;omega
 by_cases h1:lowE p+lowE q<=e
 ·rw [if_pos h1]
  obtain ⟨x,hx⟩: ∃x:Nat,e=lowE p+lowE q+x:=⟨(e-(lowE p+lowE q)).toNat,by omega⟩
  rw [hx,show (lowE p+lowE q+(x:Int)-(lowE p+lowE q)).toNat=x by omega]
  have hl:=yhh p q (lowE p+lowE q) p.length (List.replicate N 0)
  rw [List.length_replicate] at hl
  by_cases h2:x<N
  ·rw [yss p q _ _ (fun i j hi hj=>?_) p.length (Nat.le_refl _) x (by simpa using h2),List.take_length]
   ·simp [List.getD_eq_getElem?_getD,h2]
   ·have a:=yf3 hp (yce hi)
    have b:=yf3 hq (yce hj)
    rw [List.length_replicate];omega
  ·rw [List.getD_eq_getElem?_getD,List.getElem?_eq_none (by omega)]
   exact (out _ fun t ht u hu=>by have a:=yf3 hp ht;have b:=yf3 hq hu;omega).symm
 ·rw [if_neg h1]
  exact (out _ fun t ht u hu=>by have a:=yf3 hp ht;have b:=yf3 hq hu;omega).symm
end Go.Proofs.YtbblgobamoabkaaGreatDoor
namespace Go.Proofs.YtbblgobamoabkaaGreatDoor
set_option linter.unusedSimpArgs false
set_option linter.unusedVariables false
def bvE (a z:Int):Int:=a*16777216+z
def bvZ (e:Int):Int:=(e+8388608)% 16777216-8388608
def bvA (e:Int):Int:=(e-bvZ e)/16777216
theorem ycx {a z:Int} (h: -8388608<=z/\z<8388608):bvZ (bvE a z)=z:=by unfold bvZ bvE;omega
theorem yee {a z:Int} (h: -8388608<=z/\z<8388608):bvA (bvE a z)=a:=by unfold bvA;rw [ycx h];unfold bvE;omega
theorem ycj (e:Int):bvE (bvA e) (bvZ e)=e:=by unfold bvA bvE bvZ;omega
theorem yjs (e:Int): -8388608<=bvZ e/\bvZ e<8388608:=by unfold bvZ;omega
theorem y6z {a z a' z':Int} (h: -8388608<=z/\z<8388608) (h': -8388608<=z'/\z'<8388608):bvE a z<bvE a' z'↔a<a'\/a=a'/\z<z':=by unfold bvE;omega
theorem y2r (e e':Int):e<e'↔bvA e<bvA e'\/bvA e=bvA e'/\bvZ e<bvZ e':=by
 have:=y6z (yjs e) (yjs e') (a:=bvA e) (a':=bvA e')
 rwa [ycj,ycj] at this
theorem ym4 (a z a' z':Int):bvE a z+bvE a' z'=bvE (a+a') (z+z'):=by unfold bvE;omega
def bvOk (e:Int):Prop:=(-1048576<=bvA e/\bvA e<=1048576)/\ -1048576<=bvZ e/\bvZ e<=1048576
theorem yjt {e e':Int} (h:bvOk e) (h':bvOk e'):bvA (e+e')=bvA e+bvA e'/\bvZ (e+e')=bvZ e+bvZ e':=by
 have h1:=ym4 (bvA e) (bvZ e) (bvA e') (bvZ e')
 rw [ycj,ycj] at h1
 unfold bvOk at h h'
 rw [h1,yee (by omega),ycx (by omega)]
 exact ⟨rfl,rfl⟩
end Go.Proofs.YtbblgobamoabkaaGreatDoor
namespace Go.Proofs.YtbblgobamoabkaaGreatDoor
open Go Go.RowKit
set_option maxRecDepth 100000
set_option maxHeartbeats 8000000
set_option linter.unusedVariables false
set_option linter.unusedSimpArgs false
theorem yb1 (v l:Int) (h0:0<=l) (h1:l<=4611686018427387904):Fn Tryz.prog 50 [I v,I l] (.bool (decide (-l<=v)&&decide (v<=l))):=by
 obtain ⟨b1,e1⟩: ∃b,decide (-l<=v)=b:=⟨_,rfl⟩
 obtain ⟨b2,e2⟩: ∃b,decide (v<=l)=b:=⟨_,rfl⟩
 rw [e1,e2]
 have e3:decide (0-l<=v)=b1:=by rw [←e1];exact decide_eq_decide.2 (by omega)
 refine Fn.intro [.tmp 4] Tryz.func50 rfl rfl (by decide) (by simp [Tryz.ntmps50]) ?_;rw [Tryz.ntmps50]
 cases b1<;>cases b2
 all_goals (repeat' (first|omega|(try apply yaa);simp only [go_sem,sevalprocAttr,e3,e2]|apply yab<;>(intro h_;(try simp only [h_]);revert h_)|apply And.intro|with_reducible intro h_|trivial|simp only [go_sem,la2];omega))
def cmpZ (x y:Int):Int:=if x<y then-1 else if y<x then 1 else 0
theorem yxn (v:Int) (hv:InI v):yil v 33554431=v % 33554432:=by
 unfold yil
 have h1:(BitVec.ofInt 64 v&&&BitVec.ofInt 64 33554431).toNat=(v % 33554432).toNat:=by
  rw [BitVec.toNat_and]
  have e2:(BitVec.ofInt 64 33554431).toNat=2^25-1:=by decide
  have e1:(BitVec.ofInt 64 v).toNat=(v % 18446744073709551616).toNat:=by rw [BitVec.toNat_ofInt];rfl
  rw [e2,Nat.and_two_pow_sub_one_eq_mod,e1]
  omega
 rw [h1,ykl (by unfold InI;omega)]
 omega
theorem yfx (h l v:Int) (hh: -4611686018427387904<=h/\h<=4611686018427387904) (hl:0<=l/\l<=4611686018427387904) (hv:InI v):Fn Tryz.prog 81 [.agg [I h,I l],I v] (.agg [I (h+v/33554432),I (l+v % 33554432)]):=by
 have hv2:=yxn v hv
 unfold InI at hv
 refine Fn.intro [.cell 4 119] Tryz.func81 rfl rfl (by decide) (by simp [Tryz.ntmps81]) ?_;rw [Tryz.ntmps81]
 repeat' (first|omega|(try apply yaa);simp only [go_sem,sevalprocAttr,hv2]|apply yab<;>(intro h_;(try simp only [h_]);revert h_)|apply And.intro|with_reducible intro h_|trivial|simp only [go_sem,la2];omega)
end Go.Proofs.YtbblgobamoabkaaGreatDoor
