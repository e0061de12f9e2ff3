/- Laurent polynomials as functions of the exponent, plain. -/
import Derived.Test.YtphjphpmfflfpaaGreatDoorZc
import Derived.Test.YtphjphpmfflfpaaGreatDoorKb1
set_option linter.unusedSimpArgs false
set_option linter.unusedVariables false
namespace Go.Proofs.YtphjphpmfflfpaaGreatDoor
def cfL:List (Int×Int)->Int->Int
 |[],_=>0
 |t::p,e=>(if t.1=e then t.2 else 0)+cfL p e
structure bG (p:List (Int×Int)):Prop where
 asc:p.Pairwise fun a b=>a.1<b.1
 nz: ∀t∈p,t.2≠0
theorem Ve (p q:List (Int×Int)) (e:Int):cfL (p++q) e=cfL p e+cfL q e:=by
 induction p with
 |nil=>simp [cfL]
 |cons t p ih=>simp only [List.cons_append,cfL,ih];omega
theorem pA {p:List (Int×Int)} {e:Int} (h: ∀t∈p,t.1≠e):cfL p e=0:=by
 induction p with
 |nil=>rfl
 |cons t p ih=>
  simp only [cfL];rw [if_neg (h t (List.mem_cons_self ..)),ih fun u hu=>h u (List.mem_cons_of_mem _ hu)];rfl
theorem bG.tail {t:Int×Int} {p:List (Int×Int)} (h:bG (t::p)):bG p:=⟨(List.pairwise_cons.1 h.asc).2,fun u hu=>h.nz u (List.mem_cons_of_mem _ hu)⟩
theorem bG.head {t:Int×Int} {p:List (Int×Int)} (h:bG (t::p)): ∀u∈p,t.1<u.1:=(List.pairwise_cons.1 h.asc).1
theorem bG.nil:bG []:=⟨.nil,fun _ h=>by cases h⟩
theorem wD {p:List (Int×Int)} (h:bG p) {t:Int×Int} (ht:t∈p):cfL p t.1=t.2:=by
 induction p with
 |nil=>cases ht
 |cons u p ih=>
  simp only [cfL];rcases List.mem_cons.1 ht with rfl|ht
  ·rw [if_pos rfl,pA fun v hv=>by have:=h.head v hv;omega];omega
  ·rw [if_neg (by have:=h.head t ht;omega),ih h.tail ht];omega
theorem you {p:List (Int×Int)} {e:Int} (h:cfL p e≠0): ∃t∈p,t.1=e:=by
 induction p with
 |nil=>exact absurd rfl h
 |cons t p ih=>
  by_cases ht:t.1=e
  ·exact ⟨t,List.mem_cons_self ..,ht⟩
  ·simp only [cfL,if_neg ht,Int.zero_add] at h;obtain ⟨u,hu,e2⟩:=ih h;exact ⟨u,List.mem_cons_of_mem _ hu,e2⟩
theorem bG.ext: ∀{p q:List (Int×Int)},bG p->bG q->(∀e,cfL p e=cfL q e)->p=q
 |[],[],_,_,_=>rfl
 |[],t::q,_,hq,h=>by
  have:=h t.1
  rw [wD hq (List.mem_cons_self ..)] at this;exact absurd this.symm (hq.nz t (List.mem_cons_self ..))
 |t::p,[],hp,_,h=>by
  have:=h t.1
  rw [wD hp (List.mem_cons_self ..)] at this;exact absurd this (hp.nz t (List.mem_cons_self ..))
 |t::p,u::q,hp,hq,h=>by
  have m1:cfL (t::p) t.1=t.2:=wD hp (List.mem_cons_self ..);have m2:cfL (u::q) u.1=u.2:=wD hq (List.mem_cons_self ..);have n1:=hp.nz t (List.mem_cons_self ..);have n2:=hq.nz u (List.mem_cons_self ..);have e1:t.1=u.1:=by
   obtain ⟨v,hv,ev⟩:=you (p:=u::q) (e:=t.1) (by rw [←h,m1];exact n1);obtain ⟨w,hw,ew⟩:=you (p:=t::p) (e:=u.1) (by rw [h,m2];exact n2);rcases List.mem_cons.1 hv with rfl|hv
   ·exact ev.symm
   ·rcases List.mem_cons.1 hw with rfl|hw
    ·exact ew
    ·have:=hq.head v hv
     have:=hp.head w hw
     omega
  have e2:t.2=u.2:=by rw [←m1,←m2,h,e1]
  have et:t=u:=Prod.ext e1 e2;subst et;rw [bG.ext hp.tail hq.tail fun e=>by have:=h e;simp only [cfL] at this;omega]
theorem M8: ∀(e:Int) (l:List Int),∀t∈tmI e l,e<=t.1/\t.1<e+l.length
 |_,[],t,ht=>by cases ht
 |e,c::r,t,ht=>by
  simp only [tmI] at ht;have key:t∈tmI (e+1) r->e<=t.1/\t.1<e+(c::r).length:=fun h=>by
   have:=M8 (e+1) r t h
   simp only [List.length_cons];omega
  split at ht
  ·exact key ht
  ·rcases List.mem_cons.1 ht with rfl|ht
   ·simp only [List.length_cons];omega
   ·exact key ht
theorem D5: ∀(e:Int) (l:List Int),bG (tmI e l)
 |_,[]=> .nil
 |e,c::r=>by
  have ih:=D5 (e+1) r;simp only [tmI]
  split
  ·exact ih
  ·rename_i h
   refine ⟨List.pairwise_cons.2 ⟨fun u hu=>by have:=M8 (e+1) r u hu;show e<u.1;omega,ih.asc⟩,fun u hu=>?_⟩;rcases List.mem_cons.1 hu with rfl|hu
   ·exact h
   ·exact ih.nz u hu
theorem Aj: ∀(e:Int) (l:List Int) (x:Int),cfL (tmI e l) x=if e<=x then l.getD (x-e).toNat 0 else 0
 |e,[],x=>by simp [tmI,cfL]
 |e,c::r,x=>by
  have ih:=Aj (e+1) r x;by_cases hx:e=x
  ·subst hx;rw [if_neg (by omega)] at ih;simp only [tmI]
   split
   ·rename_i h;rw [ih,if_pos (Int.le_refl _)];simp [h]
   ·simp only [cfL,ih];simp
  ·have k:cfL (tmI e (c::r)) x=cfL (tmI (e+1) r) x:=by
    simp only [tmI]
    split
    ·rfl
    ·simp only [cfL];rw [if_neg hx];omega
   rw [k,ih];by_cases hl:e+1<=x
   ·rw [if_pos hl,if_pos (by omega)];obtain ⟨d,hd⟩: ∃d:Nat,x=e+1+d:=⟨(x-e-1).toNat,by omega⟩;rw [hd,show (e+1+(d:Int)-e).toNat=d+1 by omega,show (e+1+(d:Int)-(e+1)).toNat=d by omega,List.getD_cons_succ]
   ·rw [if_neg hl,if_neg (by omega)]
theorem Gl (l:List (Int×Int)) (e:Int):cfL (nz l) e=cfL l e:=by
 induction l with
 |nil=>rfl
 |cons t l ih=>
  unfold nz at ih⊢;by_cases h:t.2=0
  ·rw [List.filter_cons_of_neg (by simp [h]),ih];simp only [cfL,h];split<;>omega
  ·rw [List.filter_cons_of_pos (by simp [h])];simp only [cfL,ih]
theorem Ai (f:Int->Int->Int) (x:Int): ∀p q:List (Int×Int),(∀t∈p,x<t.1)->(∀t∈q,x<t.1)-> ∀t∈mrg f p q,x<t.1:=by
 intro p q
 induction p,q using mrg.induct with
 |case1=>intro _ _ t ht;simp [mrg] at ht
 |case2 e a p ih=>
  intro hp hq t ht;unfold mrg at ht;rcases List.mem_cons.1 ht with rfl|ht
  ·exact hp (e,a) (List.mem_cons_self ..)
  ·exact ih (fun u hu=>hp u (List.mem_cons_of_mem _ hu)) hq t ht
 |case3 e b q ih=>
  intro hp hq t ht;unfold mrg at ht;rcases List.mem_cons.1 ht with rfl|ht
  ·exact hq (e,b) (List.mem_cons_self ..)
  ·exact ih hp (fun u hu=>hq u (List.mem_cons_of_mem _ hu)) t ht
 |case4 e a p e' b q h ih=>
  intro hp hq t ht;unfold mrg at ht;rw [if_pos h] at ht;rcases List.mem_cons.1 ht with rfl|ht
  ·exact hp (e,a) (List.mem_cons_self ..)
  ·exact ih (fun u hu=>hp u (List.mem_cons_of_mem _ hu)) hq t ht
 |case5 e a p e' b q h h2 ih=>
  intro hp hq t ht;unfold mrg at ht;rw [if_neg h,if_pos h2] at ht;rcases List.mem_cons.1 ht with rfl|ht
  ·exact hq (e',b) (List.mem_cons_self ..)
  ·exact ih hp (fun u hu=>hq u (List.mem_cons_of_mem _ hu)) t ht
 |case6 e a p e' b q h h2 ih=>
  intro hp hq t ht;unfold mrg at ht;rw [if_neg h,if_neg h2] at ht;rcases List.mem_cons.1 ht with rfl|ht
  ·exact hp (e,a) (List.mem_cons_self ..)
  ·exact ih (fun u hu=>hp u (List.mem_cons_of_mem _ hu)) (fun u hu=>hq u (List.mem_cons_of_mem _ hu)) t ht
theorem GP (f:Int->Int->Int): ∀p q:List (Int×Int),p.Pairwise (fun a b=>a.1<b.1)->q.Pairwise (fun a b=>a.1<b.1)->(mrg f p q).Pairwise fun a b=>a.1<b.1:=by
 intro p q
 induction p,q using mrg.induct with
 |case1=>intro _ _;simp [mrg]
 |case2 e a p ih=>
  intro hp hq;unfold mrg;have h1:=List.pairwise_cons.1 hp;exact List.pairwise_cons.2 ⟨Ai f e p [] h1.1 (fun _ h=>by cases h),ih h1.2 hq⟩
 |case3 e b q ih=>
  intro hp hq;unfold mrg;have h1:=List.pairwise_cons.1 hq;exact List.pairwise_cons.2 ⟨Ai f e [] q (fun _ h=>by cases h) h1.1,ih hp h1.2⟩
 |case4 e a p e' b q h ih=>
  intro hp hq;unfold mrg;rw [if_pos h];have h1:=List.pairwise_cons.1 hp;have h2:=List.pairwise_cons.1 hq;refine List.pairwise_cons.2 ⟨Ai f e p _ h1.1 (fun t ht=>?_),ih h1.2 hq⟩;rcases List.mem_cons.1 ht with rfl|ht
  ·exact h
  ·have:=h2.1 t ht;show e<t.1;simp only at this;omega
 |case5 e a p e' b q h h2 ih=>
  intro hp hq;unfold mrg;rw [if_neg h,if_pos h2];have h3:=List.pairwise_cons.1 hp;have h4:=List.pairwise_cons.1 hq;refine List.pairwise_cons.2 ⟨Ai f e' _ q (fun t ht=>?_) h4.1,ih hp h4.2⟩;rcases List.mem_cons.1 ht with rfl|ht
  ·exact h2
  ·have:=h3.1 t ht;show e'<t.1;simp only at this;omega
 |case6 e a p e' b q h h2 ih=>
  intro hp hq;unfold mrg;rw [if_neg h,if_neg h2];have h3:=List.pairwise_cons.1 hp;have h4:=List.pairwise_cons.1 hq;refine List.pairwise_cons.2 ⟨Ai f e p q h3.1 (fun t ht=>?_),ih h3.2 h4.2⟩
  have:=h4.1 t ht;show e<t.1;simp only at this;omega
theorem D4 (f:Int->Int->Int) (h0:f 0 0=0): ∀p q:List (Int×Int),p.Pairwise (fun a b=>a.1<b.1)->q.Pairwise (fun a b=>a.1<b.1)-> ∀x,cfL (mrg f p q) x=f (cfL p x) (cfL q x):=by
 intro p q
 induction p,q using mrg.induct with
 |case1=>intro _ _ x;simp [mrg,cfL,h0]
 |case2 e a p ih=>
  intro hp hq x;have h1:=List.pairwise_cons.1 hp
  conv=>lhs;unfold mrg
  simp only [cfL];rw [ih h1.2 hq];by_cases hx:e=x
  ·have n1:cfL p x=0:=pA fun t ht=>by have:=h1.1 t ht;simp only at this;omega
   rw [if_pos hx,if_pos hx,n1];simp [cfL,h0]
  ·rw [if_neg hx,if_neg hx];simp [cfL]
 |case3 e b q ih=>
  intro hp hq x;have h1:=List.pairwise_cons.1 hq
  conv=>lhs;unfold mrg
  simp only [cfL];rw [ih hp h1.2];by_cases hx:e=x
  ·have n1:cfL q x=0:=pA fun t ht=>by have:=h1.1 t ht;simp only at this;omega
   rw [if_pos hx,if_pos hx,n1];simp [cfL,h0]
  ·rw [if_neg hx,if_neg hx];simp [cfL]
 |case4 e a p e' b q h ih=>
  intro hp hq x;have h1:=List.pairwise_cons.1 hp;have h2:=List.pairwise_cons.1 hq
  conv=>lhs;unfold mrg
  rw [if_pos h];simp only [cfL];rw [ih h1.2 hq];simp only [cfL];by_cases hx:e=x
  ·have n1:cfL p x=0:=pA fun t ht=>by have:=h1.1 t ht;simp only at this;omega
   have n2:cfL q x=0:=pA fun t ht=>by have:=h2.1 t ht;simp only at this;omega
   rw [if_pos hx,if_pos hx,n1,n2,if_neg (by omega)];simp [h0]
  ·rw [if_neg hx,if_neg hx];simp
 |case5 e a p e' b q h h2 ih=>
  intro hp hq x;have h3:=List.pairwise_cons.1 hp;have h4:=List.pairwise_cons.1 hq
  conv=>lhs;unfold mrg
  rw [if_neg h,if_pos h2];simp only [cfL];rw [ih hp h4.2];simp only [cfL];by_cases hx:e'=x
  ·have n1:cfL p x=0:=pA fun t ht=>by have:=h3.1 t ht;simp only at this;omega
   have n2:cfL q x=0:=pA fun t ht=>by have:=h4.1 t ht;simp only at this;omega
   rw [if_pos hx,if_pos hx,n1,n2,if_neg (by omega)];simp [h0]
  ·rw [if_neg hx,if_neg hx];simp
 |case6 e a p e' b q h h2 ih=>
  intro hp hq x;have h3:=List.pairwise_cons.1 hp;have h4:=List.pairwise_cons.1 hq
  conv=>lhs;unfold mrg
  rw [if_neg h,if_neg h2];simp only [cfL];rw [ih h3.2 h4.2];have ee:e'=e:=by omega
  by_cases hx:e=x
  ·have n1:cfL p x=0:=pA fun t ht=>by have:=h3.1 t ht;simp only at this;omega
   have n2:cfL q x=0:=pA fun t ht=>by have:=h4.1 t ht;simp only at this;omega
   rw [if_pos hx,if_pos hx,n1,n2,if_pos (by omega)];simp [h0]
  ·rw [if_neg hx,if_neg hx,if_neg (by omega)];simp
theorem Gk {l:List (Int×Int)} (h:l.Pairwise fun a b=>a.1<b.1):bG (nz l):=by
 refine ⟨List.Pairwise.filter _ h,fun t ht=>?_⟩
 have:=(List.mem_filter.1 ht).2
 simpa using this
def cvL (p:List (Int×Int)) (g:Int->Int) (e:Int):Int:=match p with
 |[]=>0
 |t::p=>t.2*g (e-t.1)+cvL p g e
theorem W0 (l:List Int) (i j:Nat) (v:Int) (hi:i<l.length):(l.set i v).getD j 0=if i=j then v else l.getD j 0:=by
 by_cases h:i=j
 ·subst h;simp [hi]
 ·rw [if_neg h];simp [List.getD_eq_getElem?_getD,List.getElem?_set_ne h]
theorem VP (p:List (Int×Int)) (t:Int×Int) (e:Int):cfL (p++[t]) e=cfL p e+if t.1=e then t.2 else 0:=by
 rw [Ve];simp [cfL]
theorem Pw {α:Type} {l:List α} {k:Nat} (d:α) (h:k<l.length):l.take (k+1)=l.take k++[l.getD k d]:=by
 rw [List.take_succ_eq_append_getElem h];simp [h]
theorem M7 (q:List (Int×Int)) (low e c:Int) (zs:List Int) (hr: ∀j,j<q.length->low<=e+(q.getD j (0,0)).1/\e+(q.getD j (0,0)).1<low+zs.length):
  ∀j,j<=q.length-> ∀x:Nat,x<zs.length->(pz2 q low e c j zs).getD x 0=zs.getD x 0+c*cfL (q.take j) (low+x-e)
 |0,_,x,_=>by simp [pz2,cfL]
 |j+1,hj,x,hx=>by
  have ih:=M7 q low e c zs hr j (by omega);have h1:=hr j (by omega);have hl:=D9 q low e c j zs;rw [Pw (0,0) (by omega),VP];simp only [pz2];rw [W0 _ _ _ _ (by omega)];by_cases h:(e+(q.getD j (0,0)).1-low).toNat=x
  ·rw [if_pos h,h,ih x hx,if_pos (by omega),Int.mul_add];omega
  ·rw [if_neg h,ih x hx,if_neg (by omega),Int.add_zero]
theorem VO (p:List (Int×Int)) (t:Int×Int) (g:Int->Int) (e:Int):cvL (p++[t]) g e=cvL p g e+t.2*g (e-t.1):=by
 induction p with
 |nil=>simp [cvL]
 |cons u p ih=>simp only [List.cons_append,cvL,ih];omega
theorem M6 (p q:List (Int×Int)) (low:Int) (zs:List Int) (hr: ∀i j,i<p.length->j<q.length->low<=(p.getD i (0,0)).1+(q.getD j (0,0)).1/\(p.getD i (0,0)).1+(q.getD j (0,0)).1<low+zs.length):
  ∀i,i<=p.length-> ∀x:Nat,x<zs.length->(oO p q low i zs).getD x 0=zs.getD x 0+cvL (p.take i) (cfL q) (low+x)
 |0,_,x,_=>by simp [oO,cvL]
 |i+1,hi,x,hx=>by
  have ih:=M6 p q low zs hr i (by omega);have hl:=Al p q low i zs;simp only [oO];rw [M7 q low _ _ _ (fun j hj=>by have:=hr i j (by omega) hj;rw [hl];exact this) q.length (Nat.le_refl _) x (by omega),ih x hx,Pw (0,0) (by omega),VO,List.take_length];omega
theorem VN {p:List (Int×Int)} {g:Int->Int} {e:Int} (h: ∀t∈p,g (e-t.1)=0):cvL p g e=0:=by
 induction p with
 |nil=>rfl
 |cons t p ih=>simp only [cvL,h t (List.mem_cons_self ..),ih fun u hu=>h u (List.mem_cons_of_mem _ hu)];simp
theorem tK {p:List (Int×Int)} (h:bG p) {t:Int×Int} (ht:t∈p):aI p<=t.1/\t.1<=fm p:=by
 obtain ⟨i,hi,rfl⟩:=List.mem_iff_getElem.1 ht;have P:=List.pairwise_iff_getElem.1 h.asc;unfold aI fm;simp only [List.getD_eq_getElem?_getD,List.getElem?_eq_getElem (show 0<p.length by omega),List.getElem?_eq_getElem (show p.length-1<p.length by omega),Option.getD_some];constructor
 ·by_cases h0:i=0
  ·subst h0;exact Int.le_refl _
  ·have:=P 0 i (by omega) hi (by omega);omega
 ·by_cases h0:i=p.length-1
  ·subst h0;exact Int.le_refl _
  ·have:=P i (p.length-1) hi (by omega) (by omega);omega
theorem lY {p:List (Int×Int)} {i:Nat} (hi:i<p.length):p.getD i (0,0)∈p:=by
 simp [List.getD_eq_getElem?_getD,List.getElem?_eq_getElem hi]
theorem Vd {p q:List (Int×Int)} (hp:bG p) (hq:bG q) (e:Int):cfL (tmI (aI p+aI q) (lC p q)) e=cvL p (cfL q) e:=by
 rw [Aj];unfold lC;obtain ⟨N,hN⟩: ∃N:Nat,(fm p+fm q-(aI p+aI q)+1).toNat=N:=⟨_,rfl⟩;rw [hN];have out: ∀e,(∀t∈p,∀u∈q,t.1+u.1≠e)->cvL p (cfL q) e=0:=fun e h=>VN fun t ht=>pA fun u hu=>by have:=h t ht u hu;omega
 by_cases h1:aI p+aI q<=e
 ·rw [if_pos h1];obtain ⟨x,hx⟩: ∃x:Nat,e=aI p+aI q+x:=⟨(e-(aI p+aI q)).toNat,by omega⟩;rw [hx,show (aI p+aI q+(x:Int)-(aI p+aI q)).toNat=x by omega];have hl:=Al p q (aI p+aI q) p.length (List.replicate N 0);rw [List.length_replicate] at hl;by_cases h2:x<N
  ·rw [M6 p q _ _ (fun i j hi hj=>?_) p.length (Nat.le_refl _) x (by simpa using h2),List.take_length]
   ·simp [List.getD_eq_getElem?_getD,h2]
   ·have a:=tK hp (lY hi);have b:=tK hq (lY hj);rw [List.length_replicate];omega
  ·rw [List.getD_eq_getElem?_getD,List.getElem?_eq_none (by omega)];exact (out _ fun t ht u hu=>by have a:=tK hp ht;have b:=tK hq hu;omega).symm
 ·rw [if_neg h1];exact (out _ fun t ht u hu=>by have a:=tK hp ht;have b:=tK hq hu;omega).symm
def c9 (f:Int->Int) (e:Int):Int:= -(f (e+2))-f (e-2)
def dpw:Nat->Int->Int
 |0,e=>if e=0 then 1 else 0
 |j+1,e=>c9 (dpw j) e
theorem wK: ∀(j:Nat) (e:Int),dpw j e≠0-> -(2*(j:Int))<=e/\e<=2*j
 |0,e,h=>by
  have:e=0:=by
   by_cases h0:e=0
   ·exact h0
   ·simp [dpw,h0] at h
  omega
 |j+1,e,h=>by
  by_cases h1:dpw j (e+2)=0
  ·by_cases h2:dpw j (e-2)=0
   ·exact absurd (by simp [dpw,c9,h1,h2]) h
   ·have:=wK j _ h2;omega
  ·have:=wK j _ h1;omega
theorem D3: ∀(j:Nat) (e:Int),-((2^j:Nat):Int)<=dpw j e/\dpw j e<=((2^j:Nat):Int)
 |0,e=>by simp only [dpw];split<;>simp
 |j+1,e=>by
  have h1:=D3 j (e+2);have h2:=D3 j (e-2);simp only [dpw,c9,Nat.pow_succ];omega
theorem C9 (p:List (Int×Int)) (e:Int):cvL p (cfL [(-2,-1),(2,-1)]) e=c9 (cfL p) e:=by
 induction p with
 |nil=>rfl
 |cons t p ih=>
  have key:t.2*cfL [(-2,-1),(2,-1)] (e-t.1)= -(if t.1=e+2 then t.2 else 0)-(if t.1=e-2 then t.2 else 0):=by
   simp only [cfL];by_cases h1:t.1=e+2
   ·rw [if_pos (by omega),if_neg (by omega),if_pos h1,if_neg (by omega)];omega
   ·rw [if_neg (by omega),if_neg h1];by_cases h2:t.1=e-2
    ·rw [if_pos (by omega),if_pos h2];omega
    ·rw [if_neg (by omega),if_neg h2];omega
  show t.2*cfL [(-2,-1),(2,-1)] (e-t.1)+cvL p (cfL [(-2,-1),(2,-1)]) e=_;rw [key,ih];simp only [c9,cfL];omega
def oU (K:Nat) (c:Nat->Nat) (w:Nat->Int) (j:Nat) (e:Int):Int:=sm (fun k=>if j<=c k then dpw (c k-j) (e-w k) else 0) K
def zk (K:Nat) (c:Nat->Nat) (w:Nat->Int) (j:Nat) (e:Int):Int:=sm (fun k=>if c k=j/\e=w k then 1 else 0) K
section
variable {K:Nat} {c:Nat->Nat} {w:Nat->Int}
theorem On (j:Nat) (e:Int):oU K c w j e=c9 (oU K c w (j+1)) e+zk K c w j e:=by
 induction K with
 |zero=>rfl
 |succ K ih=>
  unfold oU zk c9 at ih⊢;simp only [sm];rw [ih];have key:(if j<=c K then dpw (c K-j) (e-w K) else 0)= -(if j+1<=c K then dpw (c K-(j+1)) (e+2-w K) else 0)-(if j+1<=c K then dpw (c K-(j+1)) (e-2-w K) else 0)+(if c K=j/\e=w K then 1 else 0):=by
   by_cases h1:j+1<=c K
   ·rw [if_pos (by omega),if_pos h1,if_pos h1,if_neg (by omega),show c K-j=(c K-(j+1))+1 by omega];simp only [dpw,c9];rw [show e-w K+2=e+2-w K by omega,show e-w K-2=e-2-w K by omega];omega
   ·rw [if_neg h1,if_neg h1];by_cases h2:c K=j
    ·rw [if_pos (by omega),show c K-j=0 by omega];simp only [dpw];by_cases h3:e=w K
     ·rw [if_pos (by omega),if_pos ⟨h2,h3⟩];omega
     ·rw [if_neg (by omega),if_neg (by omega)];omega
    ·rw [if_neg (by omega),if_neg (by omega)];omega
  dsimp only;omega
theorem FW {f:Nat->Int}: ∀{n:Nat},sm f n≠0-> ∃k,k<n/\f k≠0
 |0,h=>absurd rfl h
 |n+1,h=>by
  by_cases h1:f n=0
  ·simp only [sm,h1,Int.add_zero] at h;obtain ⟨k,h2,h3⟩:=FW h;exact ⟨k,by omega,h3⟩
  ·exact ⟨n,by omega,h1⟩
theorem Q5 {f:Nat->Int} {b:Int}: ∀{n:Nat},(∀k,k<n-> -b<=f k/\f k<=b)-> -(b*n)<=sm f n/\sm f n<=b*n
 |0,_=>by simp [sm]
 |n+1,h=>by
  have h1:=Q5 (n:=n) fun k hk=>h k (by omega);have h2:=h n (by omega);simp only [sm,Int.natCast_add,Int.mul_add];omega
theorem VM {j:Nat} {e:Int} (h:oU K c w j e≠0): ∃k,k<K/\j<=c k/\w k-2*((c k:Int)-j)<=e/\e<=w k+2*((c k:Int)-j):=by
 obtain ⟨k,hk,h2⟩:=FW h;by_cases hj:j<=c k
 ·rw [if_pos hj] at h2
  have:=wK _ _ h2
  exact ⟨k,hk,hj,by omega,by omega⟩
 ·rw [if_neg hj] at h2;exact absurd rfl h2
theorem Vc {j M:Nat} (hM: ∀k,k<K->c k-j<=M) (e:Int): -((2^M:Nat):Int)*K<=oU K c w j e/\oU K c w j e<=((2^M:Nat):Int)*K:=by
 have:=Q5 (f:=fun k=>if j<=c k then dpw (c k-j) (e-w k) else 0) (b:=((2^M:Nat):Int)) (n:=K) fun k hk=>by
  have h1:=hM k hk;have h2:2^(c k-j)<=2^M:=Nat.pow_le_pow_right (by omega) h1;have h3:=D3 (c k-j) (e-w k)
  split<;>omega
 rw [Int.neg_mul];exact this
end
def dmn:Nat->(Int->Int)->Int->Int
 |0,g=>g
 |i+1,g=>c9 (dmn i g)
def dw (g:Int->Int):Prop:= ∃b:Nat,∀e:Int,g e≠0-> -(b:Int)<=e/\e<=b
theorem dw.c9 {g:Int->Int} (h:dw g):dw (c9 g):=by
 obtain ⟨b,hb⟩:=h;refine ⟨b+2,fun e he=>?_⟩;by_cases h1:g (e+2)=0
 ·by_cases h2:g (e-2)=0
  ·exact absurd (by simp [Proofs.YtphjphpmfflfpaaGreatDoor.c9,h1,h2]) he
  ·have:=hb _ h2;omega
 ·have:=hb _ h1;omega
theorem dw.dmn {g:Int->Int} (h:dw g): ∀i,dw (dmn i g)
 |0=>h
 |i+1=>(dw.dmn h i).c9
theorem dw.mul {g:Int->Int} (h:dw g) (a:Int):dw fun e=>(e-a)*g e:=by
 obtain ⟨b,hb⟩:=h;exact ⟨b,fun e he=>hb e fun h0=>he (by simp [h0])⟩
theorem dw.add {g f:Int->Int} (h:dw g) (h2:dw f):dw fun e=>g e+f e:=by
 obtain ⟨b,hb⟩:=h;obtain ⟨b2,lO⟩:=h2;refine ⟨b+b2,fun e he=>?_⟩;by_cases h0:g e=0
 ·have:=lO e fun h1=>he (by simp [h0,h1]);omega
 ·have:=hb e h0;omega
def tv (g:Int->Int) (e:Int):Int:=2*g (e+2)-2*g (e-2)
theorem dw.tv {g:Int->Int} (h:dw g):dw (tv g):=by
 obtain ⟨b,hb⟩:=h;refine ⟨b+2,fun e he=>?_⟩;by_cases h1:g (e+2)=0
 ·by_cases h2:g (e-2)=0
  ·exact absurd (by simp [Proofs.YtphjphpmfflfpaaGreatDoor.tv,h1,h2]) he
  ·have:=hb _ h2;omega
 ·have:=hb _ h1;omega
theorem M5 (g:Int->Int): ∀i e,dmn i (tv g) e=tv (dmn i g) e
 |0,e=>rfl
 |i+1,e=>by
  simp only [dmn,c9,M5 g i,tv];rw [show e+2-2=e-2+2 by omega];omega
theorem D2 (g f:Int->Int): ∀i e,dmn i (fun e=>g e+f e) e=dmn i g e+dmn i f e
 |0,e=>rfl
 |i+1,e=>by simp only [dmn,c9,D2 g f i];omega
theorem Vb (a:Int) (g:Int->Int) (e:Int):(e-a)*c9 g e=c9 (fun e=>(e-a)*g e) e+tv g e:=by
 simp only [c9,tv];have h1:(e+2-a)*g (e+2)=(e-a)*g (e+2)+2*g (e+2):=by rw [←Int.add_mul];congr 1;omega
 have h2:(e-2-a)*g (e-2)=(e-a)*g (e-2)-2*g (e-2):=by rw [←Int.sub_mul];congr 1;omega
 rw [h1,h2,Int.mul_sub,Int.mul_neg];omega
theorem M4 (a:Int) {g:Int->Int} (hg:dw g): ∀i,∃g',dw g'/\ ∀e,(e-a)*dmn (i+1) g e=dmn i g' e
 |0=>⟨fun e=>(e-a)*dmn 1 g e,(hg.dmn 1).mul a,fun e=>rfl⟩
 |i+1=>by
  obtain ⟨g',h1,h2⟩:=M4 a hg i;refine ⟨fun e=>g' e+tv g e,h1.add hg.tv,fun e=>?_⟩;have h3:dmn (i+1+1) g e=c9 (dmn (i+1) g) e:=rfl;rw [h3,Vb,D2,M5];congr 1;simp only [dmn,c9] at h2⊢;rw [←h2,←h2]
theorem bG.len {p:List (Int×Int)} (h:bG p): ∀{a b:Int},(∀t∈p,a<=t.1/\t.1<=b)->(p.length:Int)<=max 0 (b-a+1):=by
 induction p with
 |nil=>intro a b _;simp;omega
 |cons t p ih=>
  intro a b hb;have h1:=hb t (List.mem_cons_self ..)
  have:=ih h.tail (a:=t.1+1) (b:=b) fun u hu=>by
   have h2:=h.head u hu;have h3:=hb u (List.mem_cons_of_mem _ hu);omega
  simp only [List.length_cons];omega
theorem Om (a:Int): ∀(p:List (Int×Int)) (e:Int),cfL (p.map fun t=>(t.1,(t.1-a)*t.2)) e=(e-a)*cfL p e
 |[],e=>by simp [cfL]
 |t::p,e=>by
  simp only [List.map_cons,cfL,Om a p e,Int.mul_add];by_cases h:t.1=e
  ·rw [if_pos h,if_pos h,h]
  ·rw [if_neg h,if_neg h];omega
theorem Ir: ∀(i:Nat) (p:List (Int×Int)) (g:Int->Int),bG p->dw g->(∀e,cfL p e=dmn i g e)->p≠[]->i+1<=p.length
 |0,p,g,_,_,_,aw=>by
  have:=List.length_pos_iff.2 aw;omega
 |i+1,[],g,_,_,_,aw=>absurd rfl aw
 |i+1,t::p,g,hp,hg,hc,_=>by
  obtain ⟨g',h1,h2⟩:=M4 t.1 hg i;have hq:bG (p.map fun u=>(u.1,(u.1-t.1)*u.2)):=by
   refine ⟨?_,fun u hu=>?_⟩
   ·rw [List.pairwise_map];exact hp.tail.asc
   ·obtain ⟨v,hv,rfl⟩:=List.mem_map.1 hu;have a1:=hp.head v hv;have a2:=hp.nz v (List.mem_cons_of_mem _ hv);exact Int.mul_ne_zero (by omega) a2
  have uF: ∀e,cfL (p.map fun u=>(u.1,(u.1-t.1)*u.2)) e=dmn i g' e:=fun e=>by
   rw [Om,←h2,←hc];simp only [cfL];by_cases h:t.1=e
   ·rw [if_pos h,h];simp
   ·rw [if_neg h];simp
  by_cases aw:p=[]
  ·exfalso;subst aw;obtain ⟨b,hb⟩:=hg.dmn i;have h3: ∀e,c9 (dmn i g) e=if t.1=e then t.2 else 0:=fun e=>by
    have:=hc e;simp only [cfL,dmn,Int.add_zero] at this;exact this.symm
   have t2:=hp.nz t (List.mem_cons_self ..);have lo: ∀d:Nat,∀e:Int,e<t.1+2->e<= -(b:Int)-1+d->dmn i g e=0:=by
    intro d
    induction d using Nat.strongRecOn with
    |_ d ih=>
     intro e h4 h5;by_cases h6:e<= -(b:Int)-1
     ·by_cases h7:dmn i g e=0
      ·exact h7
      ·have:=hb e h7;omega
     ·have h8:=h3 (e-2);rw [if_neg (by omega)] at h8;have h9:dmn i g (e-2-2)=0:=by
       by_cases L5:d<=3
       ·by_cases xP:dmn i g (e-2-2)=0
        ·exact xP
        ·have:=hb _ xP;omega
       ·exact ih (d-4) (by omega) _ (by omega) (by omega)
      simp only [c9] at h8;rw [h9,show e-2+2=e by omega] at h8;omega
   have hi: ∀d:Nat,∀e:Int,t.1-2<e->(b:Int)+1-d<=e->dmn i g e=0:=by
    intro d
    induction d using Nat.strongRecOn with
    |_ d ih=>
     intro e h4 h5;by_cases h6:(b:Int)+1<=e
     ·by_cases h7:dmn i g e=0
      ·exact h7
      ·have:=hb e h7;omega
     ·have h8:=h3 (e+2);rw [if_neg (by omega)] at h8;have h9:dmn i g (e+2+2)=0:=by
       by_cases L5:d<=3
       ·by_cases xP:dmn i g (e+2+2)=0
        ·exact xP
        ·have:=hb _ xP;omega
       ·exact ih (d-4) (by omega) _ (by omega) (by omega)
      simp only [c9] at h8;rw [h9,show e+2-2=e by omega] at h8;omega
   have e1:=h3 t.1;rw [if_pos rfl] at e1;simp only [c9] at e1;rw [lo (t.1-2+b+1).toNat (t.1-2) (by omega) (by omega),hi (b+1-(t.1+2)).toNat (t.1+2) (by omega) (by omega)] at e1;omega
  ·have:=Ir i _ g' hq h1 uF (by simpa using aw)
   simp only [List.length_map,List.length_cons] at this⊢;omega
end Go.Proofs.YtphjphpmfflfpaaGreatDoor
