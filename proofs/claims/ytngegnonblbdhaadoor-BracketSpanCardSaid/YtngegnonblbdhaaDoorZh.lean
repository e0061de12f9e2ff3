/- Plain: the sum over the states by Horner's rule, as functions of the exponent; a multiple of a power of d has many terms. -/
import Derived.Test.YtngegnonblbdhaaDoorKb1
import Derived.Test.YtngegnonblbdhaaDoorLf
import Derived.Test.YtngegnonblbdhaaDoorZd
namespace Go.Proofs.YtngegnonblbdhaaDoor
set_option linter.unusedSimpArgs false
set_option linter.unusedVariables false
def dml (f:Int->Int) (e:Int):Int:= -(f (e+2))-f (e-2)
def dpw:Nat->Int->Int
 |0,e=>if e=0 then 1 else 0
 |j+1,e=>dml (dpw j) e
theorem ydh: ∀(j:Nat) (e:Int),dpw j e≠0-> -(2*(j:Int))<=e/\e<=2*j
 |0,e,h=>by
  have:e=0:=by
   by_cases h0:e=0
   ·exact h0
   ·simp [dpw,h0] at h
  omega
 |j+1,e,h=>by
  by_cases h1:dpw j (e+2)=0
  ·by_cases h2:dpw j (e-2)=0
   ·exact absurd (by simp [dpw,dml,h1,h2]) h
   ·have:=ydh j _ h2;omega
  ·have:=ydh j _ h1;omega
theorem ylc: ∀(j:Nat) (e:Int),-((2^j:Nat):Int)<=dpw j e/\dpw j e<=((2^j:Nat):Int)
 |0,e=>by simp only [dpw];split<;>simp
 |j+1,e=>by
  have h1:=ylc j (e+2)
  have h2:=ylc j (e-2)
  simp only [dpw,dml,Nat.pow_succ]
  omega
theorem y29 (p:List (Int×Int)) (e:Int):cvL p (cfL [(-2,-1),(2,-1)]) e=dml (cfL p) e:=by
 induction p with
 |nil=>rfl
 |cons t p ih=>
  have key:t.2*cfL [(-2,-1),(2,-1)] (e-t.1)= -(if t.1=e+2 then t.2 else 0)-(if t.1=e-2 then t.2 else 0):=by
   simp only [cfL]
   by_cases h1:t.1=e+2
   ·rw [if_pos (by omega),if_neg (by omega),if_pos h1,if_neg (by omega)];omega
   ·rw [if_neg (by omega),if_neg h1]
    by_cases h2:t.1=e-2
    ·rw [if_pos (by omega),if_pos h2];omega
    ·rw [if_neg (by omega),if_neg h2];omega
  show t.2*cfL [(-2,-1),(2,-1)] (e-t.1)+cvL p (cfL [(-2,-1),(2,-1)]) e=_
  rw [key,ih]
  simp only [dml,cfL]
  omega
def hrT (K:Nat) (c:Nat->Nat) (w:Nat->Int) (j:Nat) (e:Int):Int:=sm (fun k=>if j<=c k then dpw (c k-j) (e-w k) else 0) K
def hrR (K:Nat) (c:Nat->Nat) (w:Nat->Int) (j:Nat) (e:Int):Int:=sm (fun k=>if c k=j/\e=w k then 1 else 0) K
section
variable {K:Nat} {c:Nat->Nat} {w:Nat->Int}
theorem yn6 (j:Nat) (e:Int):hrT K c w j e=dml (hrT K c w (j+1)) e+hrR K c w j e:=by
 induction K with
 |zero=>rfl
 |succ K ih=>
  unfold hrT hrR dml at ih⊢
  simp only [sm]
  rw [ih]
  have key:(if j<=c K then dpw (c K-j) (e-w K) else 0)= -(if j+1<=c K then dpw (c K-(j+1)) (e+2-w K) else 0)-(if j+1<=c K then dpw (c K-(j+1)) (e-2-w K) else 0)+(if c K=j/\e=w K then 1 else 0):=by
   by_cases h1:j+1<=c K
   ·rw [if_pos (by omega),if_pos h1,if_pos h1,if_neg (by omega),show c K-j=(c K-(j+1))+1 by omega]
    simp only [dpw,dml]
    rw [show e-w K+2=e+2-w K by omega,show e-w K-2=e-2-w K by omega];omega
   ·rw [if_neg h1,if_neg h1]
    by_cases h2:c K=j
    ·rw [if_pos (by omega),show c K-j=0 by omega]
     simp only [dpw]
     by_cases h3:e=w K
     ·rw [if_pos (by omega),if_pos ⟨h2,h3⟩];omega
     ·rw [if_neg (by omega),if_neg (by omega)];omega
    ·rw [if_neg (by omega),if_neg (by omega)];omega
  dsimp only
  omega
theorem yz5 {j:Nat} (h: ∀k,k<K->c k<j) (e:Int):hrT K c w j e=0:=by
 have:hrT K c w j e=sm (fun _=>0) K:=ybb fun k hk=>by have:=h k hk;rw [if_neg (by omega)]
 rw [this,ybp];omega
theorem yrv {f:Nat->Int}: ∀{n:Nat},sm f n≠0-> ∃k,k<n/\f k≠0
 |0,h=>absurd rfl h
 |n+1,h=>by
  by_cases h1:f n=0
  ·simp only [sm,h1,Int.add_zero] at h
   obtain ⟨k,h2,h3⟩:=yrv h
   exact ⟨k,by omega,h3⟩
  ·exact ⟨n,by omega,h1⟩
theorem yn7 {f:Nat->Int} {b:Int}: ∀{n:Nat},(∀k,k<n-> -b<=f k/\f k<=b)-> -(b*n)<=sm f n/\sm f n<=b*n
 |0,_=>by simp [sm]
 |n+1,h=>by
  have h1:=yn7 (n:=n) fun k hk=>h k (by omega)
  have h2:=h n (by omega)
  simp only [sm,Int.natCast_add,Int.mul_add]
  omega
theorem yw0 {j:Nat} {e:Int} (h:hrT K c w j e≠0): ∃k,k<K/\j<=c k/\w k-2*((c k:Int)-j)<=e/\e<=w k+2*((c k:Int)-j):=by
 obtain ⟨k,hk,h2⟩:=yrv h
 by_cases hj:j<=c k
 ·rw [if_pos hj] at h2
  have:=ydh _ _ h2
  exact ⟨k,hk,hj,by omega,by omega⟩
 ·rw [if_neg hj] at h2;exact absurd rfl h2
theorem yz6 {j M:Nat} (hM: ∀k,k<K->c k-j<=M) (e:Int): -((2^M:Nat):Int)*K<=hrT K c w j e/\hrT K c w j e<=((2^M:Nat):Int)*K:=by
 have:=yn7 (f:=fun k=>if j<=c k then dpw (c k-j) (e-w k) else 0) (b:=((2^M:Nat):Int)) (n:=K) fun k hk=>by
  have h1:=hM k hk
  have h2:2^(c k-j)<=2^M:=Nat.pow_le_pow_right (by omega) h1
  have h3:=ylc (c k-j) (e-w k)
  split<;>omega
 rw [Int.neg_mul]
 exact this
end
def dmn:Nat->(Int->Int)->Int->Int
 |0,g=>g
 |i+1,g=>dml (dmn i g)
def FinS (g:Int->Int):Prop:= ∃b:Nat,∀e:Int,g e≠0-> -(b:Int)<=e/\e<=b
theorem FinS.dml {g:Int->Int} (h:FinS g):FinS (dml g):=by
 obtain ⟨b,hb⟩:=h
 refine ⟨b+2,fun e he=>?_⟩
 by_cases h1:g (e+2)=0
 ·by_cases h2:g (e-2)=0
  ·exact absurd (by simp [Proofs.YtngegnonblbdhaaDoor.dml,h1,h2]) he
  ·have:=hb _ h2;omega
 ·have:=hb _ h1;omega
theorem FinS.dmn {g:Int->Int} (h:FinS g): ∀i,FinS (dmn i g)
 |0=>h
 |i+1=>(FinS.dmn h i).dml
theorem FinS.mul {g:Int->Int} (h:FinS g) (a:Int):FinS fun e=>(e-a)*g e:=by
 obtain ⟨b,hb⟩:=h
 exact ⟨b,fun e he=>hb e fun h0=>he (by simp [h0])⟩
theorem FinS.add {g f:Int->Int} (h:FinS g) (h2:FinS f):FinS fun e=>g e+f e:=by
 obtain ⟨b,hb⟩:=h
 obtain ⟨b2,hb2⟩:=h2
 refine ⟨b+b2,fun e he=>?_⟩
 by_cases h0:g e=0
 ·have:=hb2 e fun h1=>he (by simp [h0,h1]);omega
 ·have:=hb e h0;omega
def dsh (g:Int->Int) (e:Int):Int:=2*g (e+2)-2*g (e-2)
theorem FinS.dsh {g:Int->Int} (h:FinS g):FinS (dsh g):=by
 obtain ⟨b,hb⟩:=h
 refine ⟨b+2,fun e he=>?_⟩
 by_cases h1:g (e+2)=0
 ·by_cases h2:g (e-2)=0
  ·exact absurd (by simp [Proofs.YtngegnonblbdhaaDoor.dsh,h1,h2]) he
  ·have:=hb _ h2;omega
 ·have:=hb _ h1;omega
theorem yqb (g:Int->Int): ∀i e,dmn i (dsh g) e=dsh (dmn i g) e
 |0,e=>rfl
 |i+1,e=>by
  simp only [dmn,dml,yqb g i,dsh]
  rw [show e+2-2=e-2+2 by omega];omega
theorem yqc (g f:Int->Int): ∀i e,dmn i (fun e=>g e+f e) e=dmn i g e+dmn i f e
 |0,e=>rfl
 |i+1,e=>by simp only [dmn,dml,yqc g f i];omega
theorem yz7 (a:Int) (g:Int->Int) (e:Int):(e-a)*dml g e=dml (fun e=>(e-a)*g e) e+dsh g e:=by
 simp only [dml,dsh]
 have h1:(e+2-a)*g (e+2)=(e-a)*g (e+2)+2*g (e+2):=by rw [←Int.add_mul];congr 1;omega
 have h2:(e-2-a)*g (e-2)=(e-a)*g (e-2)-2*g (e-2):=by rw [←Int.sub_mul];congr 1;omega
 rw [h1,h2,Int.mul_sub,Int.mul_neg]
 omega
theorem yqd (a:Int) {g:Int->Int} (hg:FinS g): ∀i,∃g',FinS g'/\ ∀e,(e-a)*dmn (i+1) g e=dmn i g' e
 |0=>⟨fun e=>(e-a)*dmn 1 g e,(hg.dmn 1).mul a,fun e=>rfl⟩
 |i+1=>by
  obtain ⟨g',h1,h2⟩:=yqd a hg i
  refine ⟨fun e=>g' e+dsh g e,h1.add hg.dsh,fun e=>?_⟩
  have h3:dmn (i+1+1) g e=dml (dmn (i+1) g) e:=rfl
  rw [h3,yz7,yqc,yqb]
  congr 1
  simp only [dmn,dml] at h2⊢
  rw [←h2,←h2]
theorem AscN.len {p:List (Int×Int)} (h:AscN p): ∀{a b:Int},(∀t∈p,a<=t.1/\t.1<=b)->(p.length:Int)<=max 0 (b-a+1):=by
 induction p with
 |nil=>intro a b _;simp;omega
 |cons t p ih=>
  intro a b hb
  have h1:=hb t (List.mem_cons_self ..)
  have:=ih h.tail (a:=t.1+1) (b:=b) fun u hu=>by
   have h2:=h.head u hu
   have h3:=hb u (List.mem_cons_of_mem _ hu)
   omega
  simp only [List.length_cons]
  omega
theorem yn8 (a:Int): ∀(p:List (Int×Int)) (e:Int),cfL (p.map fun t=>(t.1,(t.1-a)*t.2)) e=(e-a)*cfL p e
 |[],e=>by simp [cfL]
 |t::p,e=>by
  simp only [List.map_cons,cfL,yn8 a p e,Int.mul_add]
  by_cases h:t.1=e
  ·rw [if_pos h,if_pos h,h]
  ·rw [if_neg h,if_neg h];omega
theorem ykl: ∀(i:Nat) (p:List (Int×Int)) (g:Int->Int),AscN p->FinS g->(∀e,cfL p e=dmn i g e)->p≠[]->i+1<=p.length
 |0,p,g,_,_,_,hne=>by
  have:=List.length_pos_iff.2 hne;omega
 |i+1,[],g,_,_,_,hne=>absurd rfl hne
 |i+1,t::p,g,hp,hg,hc,_=>by
  obtain ⟨g',h1,h2⟩:=yqd t.1 hg i
  have hq:AscN (p.map fun u=>(u.1,(u.1-t.1)*u.2)):=by
   refine ⟨?_,fun u hu=>?_⟩
   ·rw [List.pairwise_map];exact hp.tail.asc
   ·obtain ⟨v,hv,rfl⟩:=List.mem_map.1 hu
    have a1:=hp.head v hv
    have a2:=hp.nz v (List.mem_cons_of_mem _ hv)
    exact Int.mul_ne_zero (by omega) a2
  have hcq: ∀e,cfL (p.map fun u=>(u.1,(u.1-t.1)*u.2)) e=dmn i g' e:=fun e=>by
   rw [yn8,←h2,←hc]
   simp only [cfL]
   by_cases h:t.1=e
   ·rw [if_pos h,h];simp
   ·rw [if_neg h];simp
  by_cases hne:p=[]
  ·exfalso
   subst hne
   obtain ⟨b,hb⟩:=hg.dmn i
   have h3: ∀e,dml (dmn i g) e=if t.1=e then t.2 else 0:=fun e=>by
    have:=hc e;simp only [cfL,dmn,Int.add_zero] at this;exact this.symm
   have t2:=hp.nz t (List.mem_cons_self ..)
   have lo: ∀d:Nat,∀e:Int,e<t.1+2->e<= -(b:Int)-1+d->dmn i g e=0:=by
    intro d
    induction d using Nat.strongRecOn with
    |_ d ih=>
     intro e h4 h5
     by_cases h6:e<= -(b:Int)-1
     ·by_cases h7:dmn i g e=0
      ·exact h7
      ·have:=hb e h7;omega
     ·have h8:=h3 (e-2)
      rw [if_neg (by omega)] at h8
      have h9:dmn i g (e-2-2)=0:=by
       by_cases h10:d<=3
       ·by_cases h11:dmn i g (e-2-2)=0
        ·exact h11
        ·have:=hb _ h11;omega
       ·exact ih (d-4) (by omega) _ (by omega) (by omega)
      simp only [dml] at h8
      rw [h9,show e-2+2=e by omega] at h8;omega
   have hi: ∀d:Nat,∀e:Int,t.1-2<e->(b:Int)+1-d<=e->dmn i g e=0:=by
    intro d
    induction d using Nat.strongRecOn with
    |_ d ih=>
     intro e h4 h5
     by_cases h6:(b:Int)+1<=e
     ·by_cases h7:dmn i g e=0
      ·exact h7
      ·have:=hb e h7;omega
     ·have h8:=h3 (e+2)
      rw [if_neg (by omega)] at h8
      have h9:dmn i g (e+2+2)=0:=by
       by_cases h10:d<=3
       ·by_cases h11:dmn i g (e+2+2)=0
        ·exact h11
        ·have:=hb _ h11;omega
       ·exact ih (d-4) (by omega) _ (by omega) (by omega)
      simp only [dml] at h8
      rw [h9,show e+2-2=e by omega] at h8;omega
   have e1:=h3 t.1
   rw [if_pos rfl] at e1
   simp only [dml] at e1
   rw [lo (t.1-2+b+1).toNat (t.1-2) (by omega) (by omega),hi (b+1-(t.1+2)).toNat (t.1+2) (by omega) (by omega)] at e1
   omega
  ·have:=ykl i _ g' hq h1 hcq (by simpa using hne)
   simp only [List.length_map,List.length_cons] at this⊢
   omega
end Go.Proofs.YtngegnonblbdhaaDoor
namespace Go.Proofs.YtngegnonblbdhaaDoor
set_option linter.unusedSimpArgs false
set_option linter.unusedVariables false
structure PmOk (m:List Int) (n:Nat):Prop where
 ok:ybt m n
 inv: ∀x:Nat,x<4*n->m.getD (m.getD x 0).toNat 0=x
 ne: ∀x:Nat,x<4*n->m.getD x 0≠x
theorem pmOk {s m:List Int} {L:Int} (h:yao s m L=true):PmOk m s.length:=by
 have v:=yb8 h
 refine ⟨v.prd.ok,v.prd.inv,fun x hx=>?_⟩
 have:=v.mt x hx
 omega
abbrev cirS (m:List Int) (n:Nat) (ch:Nat->Bool):Nat:=roots (mgB m ch n)
theorem ydw {m:List Int} {ch ch':Nat->Bool}: ∀{n:Nat},(∀c,c<n->ch c=ch' c)->mgB m ch n=mgB m ch' n
 |0,_=>rfl
 |n+1,h=>by
  have:=ydw (m:=m) (n:=n) fun c hc=>h c (by omega)
  simp only [mgB,h n (by omega),this]
def nb01 (b:Bool):Nat:=if b then 1 else 0
theorem yw1 (ch:Nat->Bool):st3 (fun c=>nb01 (ch c))=fun x=>jnB (ch (x/4).toNat) x:=by
 funext x
 unfold st3 nb01
 dsimp only
 cases ch (x/4).toNat<;>rfl
section
variable {m:List Int} {n:Nat} (hp:PmOk m n)
include hp
theorem ygg (ch:Nat->Bool):CirR n (fun x=>m.getD x.toNat 0) (st3 (fun c=>nb01 (ch c))) (mgB m ch n):=by
 rw [yw1];exact y24 hp.ok hp.inv hp.ne
theorem yfm (s:Nat->Nat):CirR n (fun x=>m.getD x.toNat 0) (st3 s) (crN (fun x=>m.getD x.toNat 0) (st3 s) (4*n) (4*n)):=y22 (ydt hp.ok hp.inv hp.ne s)
theorem yd4 (ch:Nat->Bool):cirS m n ch=cir3 m n (fun c=>nb01 (ch c)):=ywh (ygg hp ch) (yfm hp _)
theorem ykm (s:Nat->Nat) {c:Nat} (hc:c<n): ∃K t0,t0<3/\ ∀t,t<3->cir3 m n (fun x=>if x=c then t else s x)=if t=t0 then K+1 else K:=by
 refine y25 (c:=c) (j:=fun t=>st3 (fun x=>if x=c then t else s x)) hc (fun t _=>ydt hp.ok hp.inv hp.ne _) (fun t _=>yxv _) (fun t _ x hx=>?_) (fun t _ x h0 hx=>?_) (fun t _=>yfm hp _)
 ·simp only [st3];rw [if_pos (by omega)]
 ·simp only [st3]
  rw [if_neg (by omega),if_neg (by omega)]
theorem yn9 {ch ch':Nat->Bool} {c:Nat} (hc:c<n) (h: ∀x,x≠c->ch x=ch' x):cirS m n ch<=cirS m n ch'+1:=by
 obtain ⟨K,t0,_,h3⟩:=ykm hp (fun x=>nb01 (ch x)) hc
 have e1:(fun x=>nb01 (ch x))=fun x=>if x=c then nb01 (ch c) else nb01 (ch x):=by
  funext x;by_cases e:x=c
  ·rw [if_pos e,e]
  ·rw [if_neg e]
 have e2:(fun x=>nb01 (ch' x))=fun x=>if x=c then nb01 (ch' c) else nb01 (ch x):=by
  funext x;by_cases e:x=c
  ·rw [if_pos e,e]
  ·rw [if_neg e,h x e]
 have l01: ∀b,nb01 b<3:=fun b=>by cases b<;>decide
 rw [yd4 hp,yd4 hp,e1,e2,h3 _ (l01 _),h3 _ (l01 _)]
 split<;>split<;>omega
def difS (b:Bool) (ch:Nat->Bool):Nat->Nat
 |0=>0
 |c+1=>difS b ch c+if ch c=b then 0 else 1
omit hp in
theorem yfn (ch:Nat->Bool): ∀c,difS false ch c+difS true ch c=c
 |0=>rfl
 |c+1=>by have:=yfn ch c;simp only [difS];cases ch c<;>simp<;>omega
theorem yoa (b:Bool) (ch:Nat->Bool): ∀i,i<=n->cirS m n (fun c=>if c<i then ch c else b)<=cirS m n (fun _=>b)+difS b ch i
 |0,_=>by simp [difS]
 |i+1,hi=>by
  have ih:=yoa b ch i (by omega)
  simp only [difS]
  by_cases hb:ch i=b
  ·rw [if_pos hb]
   have:(fun c=>if c<i+1 then ch c else b)=fun c=>if c<i then ch c else b:=by
    funext c
    by_cases e:c=i
    ·subst e;rw [if_pos (by omega),if_neg (by omega),hb]
    ·by_cases e2:c<i
     ·rw [if_pos (by omega),if_pos e2]
     ·rw [if_neg (by omega),if_neg e2]
   rw [this];exact ih
  ·rw [if_neg hb]
   have:=yn9 hp (c:=i) (by omega) (ch:=fun c=>if c<i+1 then ch c else b) (ch':=fun c=>if c<i then ch c else b) fun x hx=>by
    by_cases e2:x<i
    ·rw [if_pos (by omega),if_pos e2]
    ·rw [if_neg (by omega),if_neg e2]
   omega
theorem yif (b:Bool) (ch:Nat->Bool):cirS m n ch<=cirS m n (fun _=>b)+difS b ch n:=by
 have:=yoa hp b ch n (Nat.le_refl _)
 have e:cirS m n (fun c=>if c<n then ch c else b)=cirS m n ch:=by
  unfold cirS;rw [ydw fun c hc=>by rw [if_pos hc]]
 omega
theorem yob:cirS m n (fun _=>false)+cirS m n (fun _=>true)<=3*n:=by
 have h0:=ygg hp (fun _=>false)
 have h1:=ygg hp (fun _=>true)
 refine ywk (ydt hp.ok hp.inv hp.ne _) (ydt hp.ok hp.inv hp.ne _) h0 h1 fun x hx=>?_
 have V:=yci (x/4)
 show pr3 0 x≠pr3 1 x
 rcases (show x=4*(x/4)\/x=4*(x/4)+1\/x=4*(x/4)+2\/x=4*(x/4)+3 by omega) with h|h|h|h<;>(rw [h];omega)
theorem ycj (ch:Nat->Bool):cirS m n ch<=2*n:=by
 have h1:=yif hp false ch
 have h2:=yif hp true ch
 have h3:=yob hp
 have h4:=yfn ch n
 omega
theorem yjl (ch:Nat->Bool) (hn:0<n):1<=cirS m n ch:=yk8 n (ygg hp ch) hn
end
def chB (b:Nat) (c:Nat):Bool:=b/2^c % 2==1
def cntB (b:Nat):Nat->Nat
 |0=>0
 |c+1=>cntB b c+b/2^c % 2
theorem ye8 (b:Nat): ∀c,cntB b c<=c
 |0=>Nat.le_refl _
 |c+1=>by have:=ye8 b c;simp only [cntB];omega
theorem ydi (b:Nat): ∀c,cntB b c=difS false (chB b) c
 |0=>rfl
 |c+1=>by
  simp only [cntB,difS,ydi b c,chB]
  by_cases h:b/2^c % 2=1
  ·simp [h]
  ·have:b/2^c % 2=0:=by omega
   simp [this]
def cN (m:List Int) (n L:Nat) (b:Nat):Nat:=cirS m n (chB b)+L
def wB (n:Nat) (b:Nat):Int:=(n:Int)-2*cntB b n
def brT (m:List Int) (n L:Nat) (j:Nat) (e:Int):Int:=hrT (2^n) (cN m n L) (wB n) j e
section
variable {m:List Int} {n L:Nat} (hp:PmOk m n)
include hp
theorem ydj {j:Nat} {e:Int} (h:brT m n L j e≠0): -(n:Int)-2*(cirS m n (fun _=>true)+L)+2*j<=e/\e<=n+2*(cirS m n (fun _=>false)+L)-2*j:=by
 obtain ⟨k,_,hj,h1,h2⟩:=yw0 h
 have a1:=yif hp false (chB k)
 have a2:=yif hp true (chB k)
 have a3:=yfn (chB k) n
 have a4:=ydi k n
 unfold wB cN at*
 omega
theorem yrw (b:Nat):cN m n L b<=2*n+L:=by have:=ycj hp (chB b);unfold cN;omega
theorem yz8 {j M:Nat} (hM:2*n+L<=M+j) (e:Int): -((2^(M+n):Nat):Int)<=brT m n L j e/\brT m n L j e<=((2^(M+n):Nat):Int):=by
 have:=yz6 (K:=2^n) (c:=cN m n L) (w:=wB n) (j:=j) (M:=M) (fun k _=>by have:=yrw hp (L:=L) k;omega) e
 rw [Nat.pow_add,Int.natCast_mul,←Int.neg_mul]
 exact this
omit hp in
theorem yqe: ∀i,i<=L-> ∀e,brT m n L (L-i) e=dmn i (brT m n L L) e
 |0,_,e=>rfl
 |i+1,hi,e=>by
  have h1:=yn6 (K:=2^n) (c:=cN m n L) (w:=wB n) (L-(i+1)) e
  rw [show L-(i+1)+1=L-i by omega] at h1
  have h0:hrR (2^n) (cN m n L) (wB n) (L-(i+1)) e=0:=by
   have:hrR (2^n) (cN m n L) (wB n) (L-(i+1)) e=sm (fun _=>0) (2^n):=ybb fun k _=>by
    rw [if_neg]
    rintro ⟨h2,_⟩
    unfold cN at h2;omega
   rw [this,ybp];omega
  rw [h0] at h1
  show hrT _ _ _ _ _=dml (dmn i (brT m n L L)) e
  rw [h1]
  simp only [dml,←yqe i (by omega),Int.add_zero]
  rfl
theorem yz9 (j:Nat):FinS (brT m n L j):=by
 refine ⟨n+2*(cirS m n (fun _=>true)+L)+2*(cirS m n (fun _=>false)+L)+2*j,fun e he=>?_⟩
 have:=ydj hp he
 omega
omit hp in
theorem yqf {p:List (Int×Int)} (ha:AscN p) {f:Int->Int} (hf: ∀e,cfL p e=f e) {a b:Int} (hs: ∀e,f e≠0->a<=e/\e<=b): ∀t∈p,a<=t.1/\t.1<=b:=fun t ht=>hs _ (by rw [←hf,ye7 ha ht];exact ha.nz t ht)
theorem yt2 (hn:n<=9) {j:Nat} {p:List (Int×Int)} (ha:AscN p) (hf: ∀e,cfL p e=brT m n L j e) (hne:0<p.length):ya6 p-lowE p+4<=64+8*(p.length:Int):=by
 have r:=yqf ha hf fun e he=>ydj hp he
 have hm0:=r _ (ybw (p:=p) (i:=0) hne)
 have hm1:=r _ (ybw (p:=p) (i:=p.length-1) (by omega))
 have h3:=yob hp
 unfold ya6 lowE
 by_cases h1:p.length=1
 ·rw [h1];simp only [Nat.sub_self];omega
 ·by_cases hj:L<=j
  ·omega
  ·have:=ykl (L-j) p (brT m n L L) ha (yz9 hp L) (fun e=>by rw [hf,←yqe (L-j) (by omega),show L-(L-j)=j by omega]) (fun h=>by rw [h] at hne;simp at hne)
   omega
end
def rowB (m:List Int) (n L:Nat):Nat->Int->Option (List Int)
 |0,_=>none
 |k+1,c=>if c=(cN m n L k:Int) then some (((rowB m n L k c).getD (List.replicate (n+1) 0)).set (cntB k n) (((rowB m n L k c).getD (List.replicate (n+1) 0)).getD (cntB k n) 0+1)) else rowB m n L k c
def ycu (m:List Int) (n L:Nat):Nat->Nat
 |0=>0
 |k+1=>if ycu m n L k<cN m n L k then cN m n L k else ycu m n L k
theorem yoc (m:List Int) (n L:Nat): ∀K k,k<K->cN m n L k<=ycu m n L K
 |K+1,k,h=>by
  simp only [ycu]
  by_cases e:k=K
  ·subst e;split<;>omega
  ·have:=yoc m n L K k (by omega)
   split<;>omega
theorem yod {m:List Int} {n L M:Nat} (h: ∀k,cN m n L k<=M): ∀K,ycu m n L K<=M
 |0=>Nat.zero_le _
 |K+1=>by
  have:=yod h K
  have:=h K
  simp only [ycu];split<;>omega
theorem yf1 (m:List Int) (n L:Nat): ∀K (j:Nat),(∀r,rowB m n L K (j:Int)=some r->r.length=n+1/\ ∀x,x<=n->r.getD x 0=sm (fun k=>if cN m n L k=j/\cntB k n=x then 1 else 0) K)/\
  (rowB m n L K (j:Int)=none-> ∀k,k<K->cN m n L k≠j)
 |0,j=>⟨fun r h=>by simp [rowB] at h,fun _ k hk=>by omega⟩
 |K+1,j=>by
  obtain ⟨h1,h2⟩:=yf1 m n L K j
  have hc:=ye8 K n
  by_cases e:cN m n L K=j
  ·have e':(j:Int)=(cN m n L K:Int):=by omega
   have base:((rowB m n L K (j:Int)).getD (List.replicate (n+1) 0)).length=n+1/\ ∀x,x<=n->((rowB m n L K (j:Int)).getD (List.replicate (n+1) 0)).getD x 0=sm (fun k=>if cN m n L k=j/\cntB k n=x then 1 else 0) K:=by
    cases hr:rowB m n L K (j:Int) with
    |none=>
     refine ⟨by simp,fun x hx=>?_⟩
     have:sm (fun k=>if cN m n L k=j/\cntB k n=x then 1 else 0) K=sm (fun _=>0) K:=ybb fun k hk=>by rw [if_neg fun h=>h2 hr k hk h.1]
     rw [this,ybp]
     simp [List.getD_eq_getElem?_getD,List.getElem?_replicate]
     split<;>rfl
    |some r=>exact h1 r hr
   refine ⟨fun r hr=>?_,fun hr=>by simp [rowB,e'] at hr⟩
   simp only [rowB] at hr
   rw [if_pos e',Option.some.injEq] at hr
   subst hr
   refine ⟨by rw [List.length_set];exact base.1,fun x hx=>?_⟩
   rw [yl8 _ _ _ _ (by omega),base.2 _ hc,base.2 x hx]
   simp only [sm]
   by_cases e2:cntB K n=x
   ·rw [if_pos e2,if_pos ⟨e,e2⟩,e2]
   ·rw [if_neg e2,if_neg (fun h=>e2 h.2)];omega
  ·refine ⟨fun r hr=>?_,fun hr k hk=>?_⟩
   ·simp only [rowB] at hr
    rw [if_neg (by omega)] at hr
    obtain ⟨h3,h4⟩:=h1 r hr
    refine ⟨h3,fun x hx=>?_⟩
    rw [h4 x hx];simp only [sm];rw [if_neg (fun h=>e h.1)];omega
   ·simp only [rowB] at hr
    rw [if_neg (by omega)] at hr
    by_cases e3:k=K
    ·subst e3;exact e
    ·exact h2 hr k (by omega)
theorem yld (f:Nat->Nat->Int) (a:Nat): ∀b,sm (fun x=>sm (fun k=>f x k) b) a=sm (fun k=>sm (fun x=>f x k) a) b
 |0=>by simp only [sm];rw [ybp];omega
 |b+1=>by simp only [sm];rw [←yld f a b,yc7]
theorem ygh {f:Nat->Int} {a:Nat}: ∀{n:Nat},a<n->(∀x,x<n->x≠a->f x=0)->sm f n=f a
 |n+1,ha,h=>by
  simp only [sm]
  by_cases e:a=n
  ·subst e
   rw [ybb (g:=fun _=>0) fun x hx=>h x (by omega) (by omega),ybp];omega
  ·rw [ygh (n:=n) (by omega) fun x hx hne=>h x (by omega) hne,h n (by omega) (by omega)];omega
def rowT (n:Nat) (r:List Int) (x:Nat) (e:Int):Int:=sm (fun y=>if e=(n:Int)-2*y then r.getD y 0 else 0) x
theorem yw2 {m:List Int} {n L K j:Nat} {r:List Int} (h:rowB m n L K (j:Int)=some r) (e:Int):rowT n r (n+1) e=hrR K (cN m n L) (wB n) j e:=by
 obtain ⟨h1,h2⟩:=(yf1 m n L K j).1 r h
 unfold rowT hrR
 have s1:sm (fun y=>if e=(n:Int)-2*y then r.getD y 0 else 0) (n+1)=sm (fun y=>sm (fun k=>if e=(n:Int)-2*y/\cN m n L k=j/\cntB k n=y then 1 else 0) K) (n+1):=ybb fun y hy=>by
  by_cases e1:e=(n:Int)-2*y
  ·rw [if_pos e1,h2 y (by omega)]
   exact ybb fun k _=>by
    by_cases e2:cN m n L k=j/\cntB k n=y
    ·rw [if_pos e2,if_pos ⟨e1,e2⟩]
    ·rw [if_neg e2,if_neg fun h=>e2 h.2]
  ·rw [if_neg e1,ybb (g:=fun _=>0) fun k _=>if_neg fun h=>e1 h.1,ybp];omega
 rw [s1,yld]
 refine ybb fun k _=>?_
 have hc:=ye8 k n
 rw [ygh (a:=cntB k n) (by omega) fun x _ hne=>if_neg fun h=>hne h.2.2.symm]
 unfold wB
 by_cases e1:cN m n L k=j/\e=(n:Int)-2*cntB k n
 ·rw [if_pos e1,if_pos ⟨e1.2,e1.1,rfl⟩]
 ·rw [if_neg e1,if_neg fun h=>e1 ⟨h.2.1,h.1⟩]
theorem yt3 {m:List Int} {n L K j:Nat} (h:rowB m n L K (j:Int)=none) (e:Int):hrR K (cN m n L) (wB n) j e=0:=by
 have:=(yf1 m n L K j).2 h
 unfold hrR
 rw [ybb (g:=fun _=>0) fun k hk=>if_neg fun h=>this k hk h.1,ybp];omega
theorem yg4 {m:List Int} {n L K j:Nat} {r:List Int} (h:rowB m n L K (j:Int)=some r) {x:Nat} (hx:x<=n):0<=r.getD x 0/\r.getD x 0<=K:=by
 rw [((yf1 m n L K j).1 r h).2 x hx]
 have h1:=ykf (f:=fun _=>0) (g:=fun k=>if cN m n L k=j/\cntB k n=x then 1 else 0) (n:=K) fun k _=>by split<;>omega
 have h2:=ykf (g:=fun _=>1) (f:=fun k=>if cN m n L k=j/\cntB k n=x then 1 else 0) (n:=K) fun k _=>by split<;>omega
 rw [ybp] at h1 h2
 omega
end Go.Proofs.YtngegnonblbdhaaDoor
set_option linter.unusedSimpArgs false
set_option linter.unusedVariables false
namespace Go.Proofs.YtngegnonblbdhaaDoor
end Go.Proofs.YtngegnonblbdhaaDoor
