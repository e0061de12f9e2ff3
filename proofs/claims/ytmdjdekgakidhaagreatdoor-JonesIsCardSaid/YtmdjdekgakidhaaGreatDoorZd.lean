/- Plain: the sum over the states by Horner's rule, as functions of the exponent; a multiple of a power of d has many terms. -/
import Derived.Test.YtmdjdekgakidhaaGreatDoorZc
import Derived.Test.YtmdjdekgakidhaaGreatDoorGc
import Derived.Test.YtmdjdekgakidhaaGreatDoorZb
import Derived.Shelf.Strings.BuilderK
import Derived.WalkKit
import Derived.BigCall
import Derived.Test.YtmdjdekgakidhaaGreatDoorProg
namespace Go.Proofs.YtmdjdekgakidhaaGreatDoor
set_option linter.unusedSimpArgs false
set_option linter.unusedVariables false
def dw (f:Int->Int) (e:Int):Int:= -(f (e+2))-f (e-2)
def dpw:Nat->Int->Int
 |0,e=>if e=0 then 1 else 0
 |j+1,e=>dw (dpw j) e
theorem qi: ∀(j:Nat) (e:Int),dpw j e≠0-> -(2*(j:Int))<=e/\e<=2*j
 |0,e,h=>by
  have:e=0:=by
   by_cases h0:e=0
   ·exact h0
   ·simp [dpw,h0] at h
  omega
 |j+1,e,h=>by
  by_cases h1:dpw j (e+2)=0
  ·by_cases h2:dpw j (e-2)=0
   ·exact absurd (by simp [dpw,dw,h1,h2]) h
   ·have:=qi j _ h2;omega
  ·have:=qi j _ h1;omega
theorem zP: ∀(j:Nat) (e:Int),-((2^j:Nat):Int)<=dpw j e/\dpw j e<=((2^j:Nat):Int)
 |0,e=>by simp only [dpw];split<;>simp
 |j+1,e=>by
  have h1:=zP j (e+2);have h2:=zP j (e-2);simp only [dpw,dw,Nat.pow_succ];omega
theorem Rb (p:List (Int×Int)) (e:Int):cvL p (cfL [(-2,-1),(2,-1)]) e=dw (cfL p) e:=by
 induction p with
 |nil=>rfl
 |cons t p ih=>
  have key:t.2*cfL [(-2,-1),(2,-1)] (e-t.1)= -(if t.1=e+2 then t.2 else 0)-(if t.1=e-2 then t.2 else 0):=by
   simp only [cfL];by_cases h1:t.1=e+2
   ·rw [if_pos (by omega),if_neg (by omega),if_pos h1,if_neg (by omega)];omega
   ·rw [if_neg (by omega),if_neg h1];by_cases h2:t.1=e-2
    ·rw [if_pos (by omega),if_pos h2];omega
    ·rw [if_neg (by omega),if_neg h2];omega
  show t.2*cfL [(-2,-1),(2,-1)] (e-t.1)+cvL p (cfL [(-2,-1),(2,-1)]) e=_;rw [key,ih];simp only [dw,cfL];omega
def rq (K:Nat) (c:Nat->Nat) (w:Nat->Int) (j:Nat) (e:Int):Int:=sm (fun k=>if j<=c k then dpw (c k-j) (e-w k) else 0) K
def yU (K:Nat) (c:Nat->Nat) (w:Nat->Int) (j:Nat) (e:Int):Int:=sm (fun k=>if c k=j/\e=w k then 1 else 0) K
section
variable {K:Nat} {c:Nat->Nat} {w:Nat->Int}
theorem Pt (j:Nat) (e:Int):rq K c w j e=dw (rq K c w (j+1)) e+yU K c w j e:=by
 induction K with
 |zero=>rfl
 |succ K ih=>
  unfold rq yU dw at ih⊢;simp only [sm];rw [ih];have key:(if j<=c K then dpw (c K-j) (e-w K) else 0)= -(if j+1<=c K then dpw (c K-(j+1)) (e+2-w K) else 0)-(if j+1<=c K then dpw (c K-(j+1)) (e-2-w K) else 0)+(if c K=j/\e=w K then 1 else 0):=by
   by_cases h1:j+1<=c K
   ·rw [if_pos (by omega),if_pos h1,if_pos h1,if_neg (by omega),show c K-j=(c K-(j+1))+1 by omega];simp only [dpw,dw];rw [show e-w K+2=e+2-w K by omega,show e-w K-2=e-2-w K by omega];omega
   ·rw [if_neg h1,if_neg h1];by_cases h2:c K=j
    ·rw [if_pos (by omega),show c K-j=0 by omega];simp only [dpw];by_cases h3:e=w K
     ·rw [if_pos (by omega),if_pos ⟨h2,h3⟩];omega
     ·rw [if_neg (by omega),if_neg (by omega)];omega
    ·rw [if_neg (by omega),if_neg (by omega)];omega
  dsimp only;omega
theorem xK {f:Nat->Int}: ∀{n:Nat},sm f n≠0-> ∃k,k<n/\f k≠0
 |0,h=>absurd rfl h
 |n+1,h=>by
  by_cases h1:f n=0
  ·simp only [sm,h1,Int.add_zero] at h;obtain ⟨k,h2,h3⟩:=xK h;exact ⟨k,by omega,h3⟩
  ·exact ⟨n,by omega,h1⟩
theorem Dp {f:Nat->Int} {b:Int}: ∀{n:Nat},(∀k,k<n-> -b<=f k/\f k<=b)-> -(b*n)<=sm f n/\sm f n<=b*n
 |0,_=>by simp [sm]
 |n+1,h=>by
  have h1:=Dp (n:=n) fun k hk=>h k (by omega);have h2:=h n (by omega);simp only [sm,Int.natCast_add,Int.mul_add];omega
theorem VO {j:Nat} {e:Int} (h:rq K c w j e≠0): ∃k,k<K/\j<=c k/\w k-2*((c k:Int)-j)<=e/\e<=w k+2*((c k:Int)-j):=by
 obtain ⟨k,hk,h2⟩:=xK h;by_cases hj:j<=c k
 ·rw [if_pos hj] at h2
  have:=qi _ _ h2
  exact ⟨k,hk,hj,by omega,by omega⟩
 ·rw [if_neg hj] at h2;exact absurd rfl h2
theorem Ke {j M:Nat} (hM: ∀k,k<K->c k-j<=M) (e:Int): -((2^M:Nat):Int)*K<=rq K c w j e/\rq K c w j e<=((2^M:Nat):Int)*K:=by
 have:=Dp (f:=fun k=>if j<=c k then dpw (c k-j) (e-w k) else 0) (b:=((2^M:Nat):Int)) (n:=K) fun k hk=>by
  have h1:=hM k hk;have h2:2^(c k-j)<=2^M:=Nat.pow_le_pow_right (by omega) h1;have h3:=zP (c k-j) (e-w k)
  split<;>omega
 rw [Int.neg_mul];exact this
end
def dmn:Nat->(Int->Int)->Int->Int
 |0,g=>g
 |i+1,g=>dw (dmn i g)
def dQ (g:Int->Int):Prop:= ∃b:Nat,∀e:Int,g e≠0-> -(b:Int)<=e/\e<=b
theorem dQ.dw {g:Int->Int} (h:dQ g):dQ (dw g):=by
 obtain ⟨b,hb⟩:=h;refine ⟨b+2,fun e he=>?_⟩;by_cases h1:g (e+2)=0
 ·by_cases h2:g (e-2)=0
  ·exact absurd (by simp [Proofs.YtmdjdekgakidhaaGreatDoor.dw,h1,h2]) he
  ·have:=hb _ h2;omega
 ·have:=hb _ h1;omega
theorem dQ.dmn {g:Int->Int} (h:dQ g): ∀i,dQ (dmn i g)
 |0=>h
 |i+1=>(dQ.dmn h i).dw
theorem dQ.mul {g:Int->Int} (h:dQ g) (a:Int):dQ fun e=>(e-a)*g e:=by
 obtain ⟨b,hb⟩:=h;exact ⟨b,fun e he=>hb e fun h0=>he (by simp [h0])⟩
theorem dQ.add {g f:Int->Int} (h:dQ g) (h2:dQ f):dQ fun e=>g e+f e:=by
 obtain ⟨b,hb⟩:=h;obtain ⟨b2,kx⟩:=h2;refine ⟨b+b2,fun e he=>?_⟩;by_cases h0:g e=0
 ·have:=kx e fun h1=>he (by simp [h0,h1]);omega
 ·have:=hb e h0;omega
def tc (g:Int->Int) (e:Int):Int:=2*g (e+2)-2*g (e-2)
theorem dQ.tc {g:Int->Int} (h:dQ g):dQ (tc g):=by
 obtain ⟨b,hb⟩:=h;refine ⟨b+2,fun e he=>?_⟩;by_cases h1:g (e+2)=0
 ·by_cases h2:g (e-2)=0
  ·exact absurd (by simp [Proofs.YtmdjdekgakidhaaGreatDoor.tc,h1,h2]) he
  ·have:=hb _ h2;omega
 ·have:=hb _ h1;omega
theorem NF (g:Int->Int): ∀i e,dmn i (tc g) e=tc (dmn i g) e
 |0,e=>rfl
 |i+1,e=>by
  simp only [dmn,dw,NF g i,tc];rw [show e+2-2=e-2+2 by omega];omega
theorem DQ (g f:Int->Int): ∀i e,dmn i (fun e=>g e+f e) e=dmn i g e+dmn i f e
 |0,e=>rfl
 |i+1,e=>by simp only [dmn,dw,DQ g f i];omega
theorem Kd (a:Int) (g:Int->Int) (e:Int):(e-a)*dw g e=dw (fun e=>(e-a)*g e) e+tc g e:=by
 simp only [dw,tc];have h1:(e+2-a)*g (e+2)=(e-a)*g (e+2)+2*g (e+2):=by rw [←Int.add_mul];congr 1;omega
 have h2:(e-2-a)*g (e-2)=(e-a)*g (e-2)-2*g (e-2):=by rw [←Int.sub_mul];congr 1;omega
 rw [h1,h2,Int.mul_sub,Int.mul_neg];omega
theorem ND (a:Int) {g:Int->Int} (hg:dQ g): ∀i,∃g',dQ g'/\ ∀e,(e-a)*dmn (i+1) g e=dmn i g' e
 |0=>⟨fun e=>(e-a)*dmn 1 g e,(hg.dmn 1).mul a,fun e=>rfl⟩
 |i+1=>by
  obtain ⟨g',h1,h2⟩:=ND a hg i;refine ⟨fun e=>g' e+tc g e,h1.add hg.tc,fun e=>?_⟩;have h3:dmn (i+1+1) g e=dw (dmn (i+1) g) e:=rfl;rw [h3,Kd,DQ,NF];congr 1;simp only [dmn,dw] at h2⊢;rw [←h2,←h2]
theorem bR.len {p:List (Int×Int)} (h:bR p): ∀{a b:Int},(∀t∈p,a<=t.1/\t.1<=b)->(p.length:Int)<=max 0 (b-a+1):=by
 induction p with
 |nil=>intro a b _;simp;omega
 |cons t p ih=>
  intro a b hb;have h1:=hb t (zzD ..)
  have:=ih h.tail (a:=t.1+1) (b:=b) fun u hu=>by
   have h2:=h.head u hu;have h3:=hb u (zzE _ hu);omega
  simp only [zzG];omega
theorem Ps (a:Int): ∀(p:List (Int×Int)) (e:Int),cfL (p.map fun t=>(t.1,(t.1-a)*t.2)) e=(e-a)*cfL p e
 |[],e=>by simp [cfL]
 |t::p,e=>by
  simp only [List.map_cons,cfL,Ps a p e,Int.mul_add];by_cases h:t.1=e
  ·rw [if_pos h,if_pos h,h]
  ·rw [if_neg h,if_neg h];omega
theorem Qk: ∀(i:Nat) (p:List (Int×Int)) (g:Int->Int),bR p->dQ g->(∀e,cfL p e=dmn i g e)->p≠[]->i+1<=p.length
 |0,p,g,_,_,_,av=>by
  have:=List.length_pos_iff.2 av;omega
 |i+1,[],g,_,_,_,av=>absurd rfl av
 |i+1,t::p,g,hp,hg,hc,_=>by
  obtain ⟨g',h1,h2⟩:=ND t.1 hg i;have hq:bR (p.map fun u=>(u.1,(u.1-t.1)*u.2)):=by
   refine ⟨?_,fun u hu=>?_⟩
   ·rw [List.pairwise_map];exact hp.tail.asc
   ·obtain ⟨v,hv,rfl⟩:=List.mem_map.1 hu;have a1:=hp.head v hv;have a2:=hp.nz v (zzE _ hv);exact Int.mul_ne_zero (by omega) a2
  have uo: ∀e,cfL (p.map fun u=>(u.1,(u.1-t.1)*u.2)) e=dmn i g' e:=fun e=>by
   rw [Ps,←h2,←hc];simp only [cfL];by_cases h:t.1=e
   ·rw [if_pos h,h];simp
   ·rw [if_neg h];simp
  by_cases av:p=[]
  ·exfalso;subst av;obtain ⟨b,hb⟩:=hg.dmn i;have h3: ∀e,dw (dmn i g) e=if t.1=e then t.2 else 0:=fun e=>by
    have:=hc e;simp only [cfL,dmn,Int.add_zero] at this;exact this.symm
   have t2:=hp.nz t (zzD ..);have lo: ∀d:Nat,∀e:Int,e<t.1+2->e<= -(b:Int)-1+d->dmn i g e=0:=by
    intro d
    induction d using Nat.strongRecOn with
    |_ d ih=>
     intro e h4 h5;by_cases h6:e<= -(b:Int)-1
     ·by_cases h7:dmn i g e=0
      ·exact h7
      ·have:=hb e h7;omega
     ·have h8:=h3 (e-2);rw [if_neg (by omega)] at h8;have h9:dmn i g (e-2-2)=0:=by
       by_cases Mw:d<=3
       ·by_cases xq:dmn i g (e-2-2)=0
        ·exact xq
        ·have:=hb _ xq;omega
       ·exact ih (d-4) (by omega) _ (by omega) (by omega)
      simp only [dw] at h8;rw [h9,show e-2+2=e by omega] at h8;omega
   have hi: ∀d:Nat,∀e:Int,t.1-2<e->(b:Int)+1-d<=e->dmn i g e=0:=by
    intro d
    induction d using Nat.strongRecOn with
    |_ d ih=>
     intro e h4 h5;by_cases h6:(b:Int)+1<=e
     ·by_cases h7:dmn i g e=0
      ·exact h7
      ·have:=hb e h7;omega
     ·have h8:=h3 (e+2);rw [if_neg (by omega)] at h8;have h9:dmn i g (e+2+2)=0:=by
       by_cases Mw:d<=3
       ·by_cases xq:dmn i g (e+2+2)=0
        ·exact xq
        ·have:=hb _ xq;omega
       ·exact ih (d-4) (by omega) _ (by omega) (by omega)
      simp only [dw] at h8;rw [h9,show e+2-2=e by omega] at h8;omega
   have e1:=h3 t.1;rw [if_pos rfl] at e1;simp only [dw] at e1;rw [lo (t.1-2+b+1).toNat (t.1-2) (by omega) (by omega),hi (b+1-(t.1+2)).toNat (t.1+2) (by omega) (by omega)] at e1;omega
  ·have:=Qk i _ g' hq h1 uo (by simpa using av)
   simp only [List.length_map,zzG] at this⊢;omega
end Go.Proofs.YtmdjdekgakidhaaGreatDoor
set_option linter.unusedSimpArgs false
set_option linter.unusedVariables false
namespace Go.Proofs.YtmdjdekgakidhaaGreatDoor
open Go Go.RowKit
section
variable {P:Program} {α β:Type}
def ki (P:Program) (s:Sem α):Prop:=(∃r,∀w,s.run P w= .ok r w)\/ ∀w r w1,s.run P w≠ .ok r w1
theorem ki.pure (x:α):ki P (Pure.pure x:Sem α):= .inl ⟨x,fun w=>by simp⟩
theorem ki.stuck (x:String):ki P (stuck x:Sem α):= .inr fun w r w1 h=>by simp [Go.stuck] at h
theorem ki.bind {s:Sem α} {f:α->Sem β} (h:ki P s) (hf: ∀x,ki P (f x)):ki P (s>>=f):=by
 rcases h with ⟨r,hr⟩|hn
 ·rcases hf r with ⟨q,hq⟩|hm
  ·exact .inl ⟨q,fun w=>by rw [Sem.run_bind,hr w,Result.andThen_ok,hq w]⟩
  ·exact .inr fun w q w1 h=>by rw [Sem.run_bind,hr w,Result.andThen_ok] at h;exact hm _ _ _ h
 ·refine .inr fun w q w1 h=>?_;rw [Sem.run_bind] at h;cases hs:s.run P w with
  |ok r w2=>exact hn _ _ _ hs
  |halt x w2=>rw [hs] at h;simp at h
theorem ki.size (t:Nat):ki P (sizeOf t):=by
 cases h:P.info? t with
 |some i=>exact .inl ⟨i.size,fun w=>by simp [sizeOf,typeInfo,h]⟩
 |none=>exact .inr fun w r w1 g=>by simp [sizeOf,typeInfo,h,Go.stuck] at g
theorem ki.bound (x:Value) (y:Nat) (c:BoundsCode):ki P (Instr.sliceBound x y c):=by
 unfold Instr.sliceBound;refine .bind ?_ fun p=>?_
 ·cases x
  case int k n=>exact .pure _
  case pointer a=>cases a<;>first|exact .stuck _|exact .inr fun w r w1 g=>by simp [asIntOf,unsupported] at g
  all_goals exact .stuck _
 ·obtain ⟨k,i⟩:=p;simp only
  split
  ·exact .pure _
  ·exact .inr fun w r w1 g=>by
    simp [boundsPanic,runtimePanic,goPanic] at g
    split at g<;>(try split at g)<;>cases g
theorem ki.bounds (b:Bool) (len cap:Nat) (lo hi mx:Option Value):ki P (Instr.sliceBounds b len cap lo hi mx):=by
 unfold Instr.sliceBounds;cases lo<;>cases hi<;>cases mx<;>dsimp only
 all_goals repeat (first|exact .pure _|exact .bound _ _ _|exact .stuck _|refine .bind ?_ fun _=>?_)
theorem ki.qU {s s':Sem α} (h: ∀w,s.run P w=s'.run P w) (hs:ki P s'):ki P s:=by
 rcases hs with ⟨r,hr⟩|hn
 ·exact .inl ⟨r,fun w=>by rw [h,hr]⟩
 ·exact .inr fun w r w1 g=>hn w r w1 (by rw [←h];exact g)
theorem ki.slice {t:Nat} {e:Nat} (h:tk P t= .slice e) (x:Value) (lo hi mx:Option Value):ki P (Instr.sliceAt t x lo hi mx):=by
 refine .qU (fun w=>Az (gX h) (by simp) x lo hi mx) ?_;cases x
 case slice a len cap=>
  refine .qU (s':=do
   let (l,h,m)←Instr.sliceBounds true len cap lo hi mx
   let size←sizeOf e
   Pure.pure (Value.slice (if m=l then a else a.map (·.add (l*size))) (h-l) (m-l))) (fun w=>?_) (.bind (.bounds _ _ _ _ _ _) fun _=> .bind (.size _) fun _=> .pure _)
  simp [Instr.slice,run_underlying (gX h)]
 all_goals exact .inr fun w r w1 g=>by simp [Instr.slice,run_underlying (gX h),Go.stuck] at g
def C5 (P:Program):Op->Bool
 | .move _| .assign _=>true
 | .slice t _ _ _ none=>match tk P t with
   | .slice _=>true
   |_=>false
 |_=>false
theorem Ut {o:Oper} (h:C5 P o.op=true) (ev:Operand->Value):ki P (execOp ev o):=by
 cases ho:o.op with
 |move x=>simp only [execOp,ho];exact .pure _
 |assign x=>simp only [execOp,ho];exact .pure _
 |slice t x lo hi mx=>
  rw [ho] at h;cases mx with
  |some _=>cases h
  |none=>
   simp only [C5] at h
   split at h
   ·rename_i e hk
    simp only [execOp,ho];exact .bind (.slice hk _ _ _ _) fun _=> .pure _
   ·cases h
 |_=>rw [ho] at h;cases h
theorem Xb {o:Oper} (h:C5 P o.op=true) {N:Nat} {fr:Fr} {H:Hp} {K:Fr->Hp->Prop} (hq:awO P N o fr H K): ∃p r,quF P H (evA fr) o.op=some (p,r)/\p/\dok o.dst N=true/\K (fput fr o.dst r) H:=by
 obtain ⟨_,hq⟩:=hq
 split at hq
 ·rename_i p r e;exact ⟨p,r,e,hq⟩
 ·rename_i e
  exfalso;cases ho:o.op with
  |move x=>rw [ho] at e;simp [quF,opF] at e
  |assign x=>rw [ho] at e;simp [quF,opF] at e
  |slice t x lo hi mx=>
   simp only [ho,alF,awX,spOp] at hq;exact absurd hq.1 (by decide)
  |_=>rw [ho] at h;cases h
end
def eagN (P:Program) (ops:Array Oper) (listed:Array Bool):List (Nat×Tr)->Bool
 |[(i,_)]=>Region.free .any ops listed i&&(Region.ready .any ops listed).contains i&&(match ops[i]? with|some o=>o.guard.isNone&&C5 P o.op|none=>false)
 |_=>false
mutual
def chkE (P:Program) (ops:Array Oper) (listed:Array Bool):Nat->Tr->Bool
 |0, .done=>(Region.ready .any ops listed).isEmpty
 |f+1, .node l=>(eagN P ops listed l||(!(Region.ready .any ops listed).isEmpty&&(Region.ready .any ops listed==l.map (·.1))))&&C4 P ops listed f l
 |_,_=>false
def C4 (P:Program) (ops:Array Oper) (listed:Array Bool) (f:Nat):List (Nat×Tr)->Bool
 |[]=>true
 |(i,t)::r=>chkE P ops (listed.setIfInBounds i true) f t&&C4 P ops listed f r
end
theorem HU {P:Program} {ops:Array Oper} {listed:Array Bool} {f:Nat}: ∀(l:List (Nat×Tr)),C4 P ops listed f l=true-> ∀q∈l,chkE P ops (listed.setIfInBounds q.1 true) f q.2=true
 |[],_,q,hq=>by cases hq
 |(i,t)::r,h,q,hq=>by
  simp only [C4,Bool.and_eq_true] at h;rcases List.mem_cons.1 hq with e|e
  ·subst e;exact h.1
  ·exact HU r h.2 q e
theorem Xa {P:Program} {N:Nat} {ops:Array Oper} {B:Nat} {w0:gU} {Mx:Nat->Prop} {K:Fr->Hp->Prop} (hsel:Region.noSelect ops=true) (Q:Exit->Act->World->Prop) (hP: ∀c a w,¬Q (.panic c) a w) (hQ: ∀a' w' ρ' fr' H',K fr' H'->aA B w0 Mx N w' ρ' fr' H' a'->Q .normal a' w'): ∀(f:Nat) (t:Tr) (listed:Array Bool) (w:World) (ρ:Nat->Addr) (fr:Fr) (H:Hp) (a:Act),chkE P ops listed f t=true->awT P N ops t fr H K->aA B w0 Mx N w ρ fr H a->wpAny P .any ops Q f listed a w:=by
 intro f
 induction f with
 |zero=>
  intro t listed w ρ fr H a hc h hs;cases t with
  |done=>
   simp only [chkE,List.isEmpty_iff] at hc;simp only [awT] at h;exact ⟨hc,hQ _ _ ρ _ _ h hs⟩
  |node l=>simp [chkE] at hc
 |succ f ih=>
  intro t listed w ρ fr H a hc h hs;cases t with
  |done=>simp [chkE] at hc
  |node l=>
   simp only [chkE,Bool.and_eq_true,Bool.or_eq_true] at hc;obtain ⟨gm,pG⟩:=hc;simp only [awT] at h;rcases gm with gm|gm
   ·unfold eagN at gm
    split at gm
    ·rename_i i t'
     simp only [Bool.and_eq_true] at gm;obtain ⟨⟨hf,hr⟩,ho⟩:=gm;cases hoi:ops[i]? with
     |none=>rw [hoi] at ho;cases ho
     |some o=>
      rw [hoi] at ho;simp only [Bool.and_eq_true,Option.isNone_iff_eq_none] at ho;have h1:=Eh _ h (i,t') (List.mem_singleton.2 rfl);have h2:=HU _ pG (i,t') (List.mem_singleton.2 rfl);simp only [hoi,Option.toList_some,awL,ho.1] at h1;obtain ⟨p,r,hq,hp,hd,hk⟩:=Xb ho.2 h1;obtain ⟨v,aF,hv⟩:=Et (P:=P) (o:=o) (a:=a) hs.objs hs.ev (fun s d x e=>by rw [e] at ho;cases ho.2) hq hp
      have hw:Region.wanted o (yielded ops a.tmps)=true:=by simp [Region.wanted,ho.1]
      have hy:Yields P ops o v a:= .inl ⟨hw,fun w'=>by
       rcases Ut ho.2 a.eval with ⟨r',iH⟩|hn
       ·have:=iH w;rw [aF] at this;cases this;exact iH w'
       ·exact absurd aF (hn _ _ _)⟩
      exact wpAny_take hoi hsel hf hr (fun c a w h=>absurd h (hP c _ _)) hy (ih t' _ w ρ _ _ _ h2 hk (hs.put hd hv))
    ·cases gm
   ·simp only [Bool.and_eq_true,Bool.not_eq_true',beq_iff_eq] at gm;refine ⟨fun bx=>by rw [bx] at gm;simp at gm,fun i hi=>?_⟩;rw [gm.2] at hi;obtain ⟨q,hq,rfl⟩:=List.mem_map.1 hi;have h1:=Eh l h q hq;have h2:=HU l pG q hq;have hr:q.1∈Region.ready .any ops listed:=by rw [gm.2];exact List.mem_map_of_mem hq
    obtain ⟨_,o,g2,_⟩:=mem_ready.1 hr;rw [g2] at h1;exact Qn g2 h1 hs _ _ fun a' w' ρ' fr' H' hk bo=>ih q.2 _ w' ρ' fr' H' a' h2 hk bo
def A7 (Q:Act->World->Prop):Exit->Act->World->Prop
 | .normal,a,w=>Q a w
 |_,_,_=>False
theorem aj.aq {P:Program} {N:Nat} {ops:Array Oper} {id:Nat} {fr:Fr} {H:Hp} {Q:Exit->Fr->Hp->Prop} (t:Tr) (gd:(chkE P ops (Array.replicate ops.size false) ops.size t&&Region.noSelect ops)=true) (hm:P.follows .mixedOrders=true)
  (h:awT P N ops t fr H (Q .normal)):aj P N id ops fr H Q:=by
 simp only [Bool.and_eq_true] at gd;refine ⟨fun B w0 Mx w ρ a hs=>wp_mono (wp_region_any (Q:=A7 fun a' w'=> ∃ρ' fr' H',Q .normal fr' H'/\aA B w0 Mx N w' ρ' fr' H' a') hm (Xa gd.2 _ (fun _ _ _ h=>h) (fun _ _ ρ' fr' H' hk bo=>⟨ρ',fr',H',hk,bo⟩) ops.size t _ _ ρ fr H a gd.1 h hs.draw)) fun e a' w' h=>?_⟩;cases e<;>first|exact h|exact h.elim
set_option maxRecDepth 100000
set_option maxHeartbeats 8000000
def xY:List (List Nat):=[[44,45,46,47,48,49,50],[43,45,46,47,48,49,50],[43,44,46,49],[43,44,45,49],[43,44,49],[43,44,49],[43,44,45,46,47,48],[43,44],[],[]]
def xX:List (List Nat):=[[55,56,57,59,60,62,63,64],[54,56,59,60,62,63,64],[54,55,59,60,62,63,64],[54,59,60,62,63,64],[59,60,62,63,64],[54,55,56,57,58,62,63,64],[54,55,56,57,58,62,63,64],[62,63,64],[54,55,56,57,58,59,60,61,63],[54,55,56,57,58,59,60,61,62],[54,55,56,57,58,59,60,61],[],[]]
def tB:List (List Nat):=[[],[0],[0,1],[0],[],[0,1,2,3,4],[0,1,2,3,4],[],[0,1,2,3,4,5,6,7],[0,1,2,3,4,5,6,7,8],[0,1,2,3,4,5,6,7],[],[]]
def xW:List (List Nat):=[[67,68,69,71,72,74,75,76],[66,68,71,72,74,75,76],[66,67,71,72,74,75,76],[66,71,72,74,75,76],[71,72,74,75,76],[66,67,68,69,70,74,75,76],[66,67,68,69,70,74,75,76],[74,75,76],[66,67,68,69,70,71,72,73,75],[66,67,68,69,70,71,72,73,74],[66,67,68,69,70,71,72,73],[],[]]
def Dn:Tr:=trP [0,1,2,3] (.node [(4, .node [(5,trD [6,7,8,9]),(6,trD [5,7,8,9])]),(6,trD [4,5,7,8,9])])
def DA:Tr:=trP [1,2,3,5,8,9,10] (.node [(0, .node [(4,trD [6,7,11,12]),(6,trD [4,7,11,12])]),(6,trD [0,4,7,11,12])])
def Dz:Tr:=trP [1,2,3,8,9,10] (.node [(0, .node [(4,trD [5,6,7,11,12]),(5, .node [(4,trD [6,7,11,12]),(6,trD [4,7,11,12])])]),(5, .node [(0, .node [(4,trD [6,7,11,12]),(6,trD [4,7,11,12])]),(6,trD [0,4,7,11,12])])])
def cn (S:List (Int×Int)):List AV:=S.flatMap fun t=>[I (t.2/1125899906842624),I (t.2 % 1125899906842624)]
theorem tv (S:List (Int×Int)):(cn S).length=2*S.length:=by
 induction S with
 |nil=>rfl
 |cons t S ih=>rw [show cn (t::S)=I (t.2/1125899906842624)::I (t.2 % 1125899906842624)::cn S from rfl];simp [ih];omega
theorem Hj: ∀(S:List (Int×Int)) (i:Nat),i<S.length->(cn S).getD (i*2) .any=I ((S.getD i (0,0)).2/1125899906842624)
 |t::S,0,_=>rfl
 |t::S,i+1,h=>by
  have:=Hj S i (by simpa using h)
  rw [show cn (t::S)=I (t.2/1125899906842624)::I (t.2 % 1125899906842624)::cn S from rfl,show (i+1)*2=i*2+1+1 by omega];simpa using this
theorem Hi: ∀(S:List (Int×Int)) (i:Nat),i<S.length->(cn S).getD (i*2+1) .any=I ((S.getD i (0,0)).2 % 1125899906842624)
 |t::S,0,_=>rfl
 |t::S,i+1,h=>by
  have:=Hi S i (by simpa using h)
  rw [show cn (t::S)=I (t.2/1125899906842624)::I (t.2 % 1125899906842624)::cn S from rfl,show (i+1)*2+1=i*2+1+1+1 by omega];simpa using this
theorem DP {S:List (Int×Int)} {x:AV} (h:x∈cn S): ∃n,x=I n:=by
 unfold cn at h;obtain ⟨t,_,h⟩:=List.mem_flatMap.1 h;simp only [List.mem_cons,zzH,or_false] at h;rcases h with h|h<;>exact ⟨_,h⟩
theorem ja (H:Hp) (S:List (Int×Int)):(cn S).all (s3 H)=true:=List.all_eq_true.2 fun x hx=>by obtain ⟨n,rfl⟩:=DP hx;rfl
theorem R9 (S:List (Int×Int)):(cn S).all p1=true:=List.all_eq_true.2 fun x hx=>by obtain ⟨n,rfl⟩:=DP hx;rfl
theorem zO (i:Nat) (S:List (Int×Int)):(cn S).map (cutV i)=cn S:=by
 conv=>rhs;rw [←List.map_id (cn S)]
 exact List.map_congr_left fun x hx=>by obtain ⟨n,rfl⟩:=DP hx;rfl
theorem Hh (H:Hp) (n:Nat) (S:List (Int×Int)):(cn S).map (snap H (n+1))=cn S:=NN (R9 S) H n
theorem HT (H:Hp) (n:Nat) (S:List (Int×Int)):(∀x∈cn S,c9 H (n+1) x)=True:=Pd (R9 S) H n
theorem NC (S T:List (Int×Int)):cn (S++T)=cn S++cn T:=by simp [cn]
theorem Am: ∀(S:List (Int×Int)) (i:Nat),(cn S).take (i*2)=cn (S.take i)
 |[],i=>by simp [cn]
 |t::S,0=>by simp [cn]
 |t::S,i+1=>by
  rw [show cn (t::S)=I (t.2/1125899906842624)::I (t.2 % 1125899906842624)::cn S from rfl,show (i+1)*2=i*2+1+1 by omega,List.take_succ_cons,List.take_succ_cons,Am S i];rfl
theorem Al: ∀(S:List (Int×Int)) (i:Nat),(cn S).drop (i*2)=cn (S.drop i)
 |[],i=>by simp [cn]
 |t::S,0=>by simp [cn]
 |t::S,i+1=>by
  rw [show cn (t::S)=I (t.2/1125899906842624)::I (t.2 % 1125899906842624)::cn S from rfl,show (i+1)*2=i*2+1+1 by omega,List.drop_succ_cons,List.drop_succ_cons,Al S i];rfl
theorem NB: ∀(S:List (Int×Int)) (i:Nat) (e z:Int),((cn S).set (i*2) (.int .i64 (z/1125899906842624))).set (i*2+1) (.int .i64 (z % 1125899906842624))=cn (S.set i (e,z))
 |[],i,e,z=>by simp [cn]
 |t::S,0,e,z=>by simp [cn]
 |t::S,i+1,e,z=>by
  have:=NB S i e z
  rw [show cn (t::S)=I (t.2/1125899906842624)::I (t.2 % 1125899906842624)::cn S from rfl,show (i+1)*2+1=(i*2+1)+1+1 by omega,show (i+1)*2=i*2+1+1 by omega,List.set_cons_succ,List.set_cons_succ,List.set_cons_succ,List.set_cons_succ,this];rfl
theorem zN (S:List (Int×Int)) (f:AV->Bool) (h: ∀n,f (.int .i64 n)=true):(cn S).all f=true:=List.all_eq_true.2 fun x hx=>by obtain ⟨n,rfl⟩:=DP hx;exact h n
theorem Dy (S:List (Int×Int)) (i:Nat):(cn (S.drop i)).take ((S.length-i)*2)=cn (S.drop i):=List.take_of_length_le (by rw [tv,List.length_drop];omega)
theorem R8 {S:List (Int×Int)} {i:Nat} (h:i<=S.length):(cn (S.take i)).length=i*2:=by rw [tv,List.length_take];omega
theorem R7 {S:List (Int×Int)} {i:Nat} (h:i<=S.length):(S.take i).length=i:=by rw [List.length_take];omega
structure ZG (S:List (Int×Int)) (i:Nat) (e z:Int) (R:List (Int×Int)):Prop where
 len:R.length=i+1+(S.length-i)
 q1:cn (S.take i)++[.int .i64 (z/1125899906842624), .int .i64 (z % 1125899906842624)]=cn (S.take i++[(e,z)])
 q2:cn (S.take i++[(e,z)])++cn (S.drop i)=cn R
 q3:(S.drop i).take (S.length-i)=S.drop i
 q4:((S.map fun x=>x.1).drop i).take (S.length-i)=(S.map fun x=>x.1).drop i
 q5:(S.map fun x=>x.1).take i++[e]++(S.map fun x=>x.1).drop i=R.map fun x=>x.1
 q6:(cn R).take ((i+1+(S.length-i))*2)=cn R
 q7:(R.map fun x=>x.1).take (i+1+(S.length-i))=R.map fun x=>x.1
 q8:(cn R).length=(i+1+(S.length-i))*2
 q9:(cn (S.drop i)).length=(S.length-i)*2
 qa:(cn (S.take i++[(e,z)])).length=(i+1)*2
theorem R6 {S:List (Int×Int)} {i:Nat} (h:i<=S.length) (e z:Int):ZG S i e z (S.take i++[(e,z)]++S.drop i):=by
 have hl:(S.take i++[(e,z)]++S.drop i).length=i+1+(S.length-i):=by simp;omega
 have h8:(cn (S.take i++[(e,z)]++S.drop i)).length=(i+1+(S.length-i))*2:=by rw [tv,hl];omega
 refine ⟨hl,?_,?_,List.take_of_length_le (by simp),List.take_of_length_le (by simp),by simp,List.take_of_length_le (by omega),List.take_of_length_le (by rw [List.length_map];omega),h8,by rw [tv,List.length_drop];omega,by rw [tv,zzF,List.length_take];simp only [zzG,List.length_nil];omega⟩
 ·rw [NC];rfl
 ·rw [←NC]
abbrev qeA (S:List (Int×Int)):AV:= .ro 1 S.length (.ints (S.map (·.1)))
abbrev qsA (S:List (Int×Int)):AV:= .ro 2 S.length (.lst (cn S))
attribute [go_sem] qeA qsA
def ltI (e:Int):List (Int×Int)->Nat
 |[]=>0
 |t::S=>if t.1<e then ltI e S+1 else 0
theorem R5 (e:Int): ∀S:List (Int×Int),ltI e S<=S.length
 |[]=>zzA _
 |t::S=>by have:=R5 e S;simp only [ltI,zzG];split<;>omega
theorem R4 (e:Int): ∀(S:List (Int×Int)) (i:Nat),i<ltI e S->(S.getD i (0,0)).1<e
 |[],i,h=>by simp [ltI] at h
 |t::S,i,h=>by
  simp only [ltI] at h
  split at h
  ·cases i with
   |zero=>simpa using ‹t.1<e›
   |succ i=>simpa using R4 e S i (by omega)
  ·omega
theorem R3 (e:Int): ∀(S:List (Int×Int)),ltI e S<S.length->e<=(S.getD (ltI e S) (0,0)).1
 |[],h=>by simp at h
 |t::S,h=>by
  simp only [ltI] at h⊢
  split
  ·rename_i ht
   rw [if_pos ht] at h;simpa using R3 e S (by simpa using h)
  ·rename_i ht;simp;omega
def fg (e z:Int) (S:List (Int×Int)):List (Int×Int):=
 if ltI e S<S.length/\(S.getD (ltI e S) (0,0)).1=e then S.set (ltI e S) (e,(S.getD (ltI e S) (0,0)).2+z) else S.take (ltI e S)++[(e,z)]++S.drop (ltI e S)
theorem GJ (S:List (Int×Int)) (i:Nat) (h:i<S.length):(S.map (·.1)).getD i 0=(S.getD i (0,0)).1:=by
 simp [zzB,h]
theorem Gb (S:List (Int×Int)) (e z:Int) (hl:S.length<=100000) (hz: -2596148429267413814265248164610048<=z/\z<=2596148429267413814265248164610048) (hS: ∀t∈S,-2596148429267413814265248164610048<=t.2/\t.2<=2596148429267413814265248164610048):
  Fn Tryz.prog 102 [qeA S,qsA S,I e,qwA z] (.tup [qeA (fg e z S),qsA (fg e z S)]):=by
 have hle:=R5 e S;refine Fn.ai [.tmp 8, .tmp 9] Tryz.func102 rfl rfl (by decide) (by simp [Tryz.ntmps102]) ?_;rw [Tryz.ntmps102]
 repeat' (first|omega|(try apply ag);simp only [go_sem,sevalprocAttr]|apply ae<;>(intro h_;(try simp only [h_]);revert h_)|apply And.intro|with_reducible intro h_|trivial|simp only [go_sem,ah];omega)
 refine aR.intro (fun n fr H=> ∃i:Nat,i<=ltI e S/\n=ltI e S-i/\fr=[(10,I i),(7, .ptr 0 0),(2,I e),(1,qsA S),(0,qeA S)]/\H=[(0,vt (z/1125899906842624) (z % 1125899906842624))]) ?_ ?_
 ·refine ⟨_,_,_,?_,0,by omega,rfl,rfl,rfl⟩;refine Wk.sub ?_ ?_<;>(simp only [go_sem,sevalprocAttr,ja])
 rintro n fr H ⟨i,hi,rfl,rfl,rfl⟩;by_cases bH:i<ltI e S
 ·have c0:decide ((i:Int)<S.length)=true:=by simp;omega
  have c1:decide ((S.getD i (0,0)).1<e)=true:=by simpa using R4 e S i bH
  have mg:=GJ S i (by omega)
  repeat' (first|omega|(try apply ag);simp only [go_sem,sevalprocAttr,c0,c1,mg,List.length_map]|apply ae<;>(intro h_;(try simp only [h_]);revert h_)|apply And.intro|with_reducible intro h_|trivial|simp only [go_sem,ah];omega)
  refine ⟨_,_,_,?_,?_,⟨i+1,by omega,rfl,rfl,rfl⟩⟩
  ·omega
  ·refine Wk.sub ?_ ?_<;>(simp only [go_sem,sevalprocAttr,ja])
 obtain rfl:i=ltI e S:=by omega
 generalize hI:ltI e S=i at*;by_cases gQ:i<S.length
 ·have c0:decide ((i:Int)<S.length)=true:=by simp;omega
  have w8:=R3 e S (by omega);rw [hI] at w8;have c1:decide ((S.getD i (0,0)).1<e)=false:=by rw [decide_eq_false_iff_not];omega
  have mg:=GJ S i (by omega);have hlen:=tv S;have BB:=hS _ (iO gQ);by_cases he:(S.getD i (0,0)).1=e
  ·have c2:((S.getD i (0,0)).1==e)=true:=by simpa using he
   have ep:fg e z S=S.set i (e,(S.getD i (0,0)).2+z):=by unfold fg;rw [hI,if_pos ⟨gQ,he⟩]
   have em:(S.set i (e,(S.getD i (0,0)).2+z)).map (·.1)=S.map (·.1):=by
    rw [List.map_set];refine List.ext_getElem (by simp) fun j h1 h2=>?_;rw [List.getElem_set]
    split
    ·rename_i fG;subst fG
     have:(S[i]'gQ).1=e:=by simpa [zzB,gQ] using he
     simpa using this.symm
    ·rfl
   have g0:=Hj S i gQ;have g1:=Hi S i gQ;have hP:=Hm _ _ BB hz;rw [ep];have el:(S.set i (e,(S.getD i (0,0)).2+z)).length=S.length:=by simp
   rw [el,em];have MB:=NB S i e ((S.getD i (0,0)).2+z)
   repeat' (first|omega|(first|apply ag|(refine aj.intro (id:=6) xY [[],[0],[0,1],[0,1,2],[0,1],[0,1],[0,1,2,3,4,5],[0,1],[],[]] (by decide+kernel) mixed ?_)|(refine aj.intro (id:=8) xX tB (by decide+kernel) mixed ?_)|(refine aj.intro (id:=9) xW tB (by decide+kernel) mixed ?_)|skip);simp only [go_sem,sevalprocAttr,c0,c1,c2,mg,List.length_map,zN,Nat.sub_zero,Am,Al,Dy,zO,g0,g1,hlen,↓reduceIte,reduceCtorEq,xY,xX,tB,xW]|apply ae<;>(intro h_;(try simp only [h_]);revert h_)|apply And.intro|with_reducible intro h_|trivial|simp only [go_sem,ah];omega)
   all_goals first|exact ja _ _|skip
   refine ⟨bI.fn rfl hP ?_⟩;simp only [go_sem,sevalprocAttr,c0,c1,c2,mg,List.length_map,zN,ja,Nat.sub_zero,Am,Al,Dy,zO,g0,g1,hlen];have vN:=tv (S.set i (e,(S.getD i (0,0)).2+z));rw [el] at vN;have c7:(cn (S.set i (e,(S.getD i (0,0)).2+z))).take (S.length*2)=cn (S.set i (e,(S.getD i (0,0)).2+z)):=List.take_of_length_le (by omega)
   repeat' (first|omega|(try apply ag);simp only [go_sem,sevalprocAttr,MB,el,zN,ja,zO,Hh,HT,hlen,vN,c7]|apply ae<;>(intro h_;(try simp only [h_]);revert h_)|apply And.intro|with_reducible intro h_|trivial|simp only [go_sem,ah];omega)
   all_goals exact az.refl _
  ·have c2:((S.getD i (0,0)).1==e)=false:=by rw [beq_eq_false_iff_ne];exact he
   have ep:fg e z S=S.take i++[(e,z)]++S.drop i:=by unfold fg;rw [hI,if_neg fun h=>he h.2]
   rw [ep];have hR:=R6 hle e z;generalize S.take i++[(e,z)]++S.drop i=R at hR⊢;obtain ⟨r0,r1,r2,r3,r4,r5,r6,r7,r8,r9,ra⟩:=hR;rw [r0];have tl:=R8 hle;have tk:=R7 hle
   repeat' (first|omega|(first|apply ag|(refine aj.aq (id:=6) (Dn) (by decide+kernel) mixed ?_)|(refine aj.intro (id:=6) xY [[],[0],[0,1],[0,1,2],[0,1],[0,1],[0,1,2,3,4,5],[0,1],[],[]] (by decide+kernel) mixed ?_)|(refine aj.aq (id:=8) (DA) (by decide+kernel) mixed ?_)|(refine aj.intro (id:=8) xX tB (by decide+kernel) mixed ?_)|(refine aj.aq (id:=9) (Dz) (by decide+kernel) mixed ?_)|(refine aj.intro (id:=9) xW tB (by decide+kernel) mixed ?_)|skip);simp only [go_sem,sevalprocAttr,tl,tk,r1,r2,r3,r4,r5,r6,r7,r8,r9,ra,Hh,HT,ja,c0,c1,c2,mg,List.length_map,zN,Nat.sub_zero,Am,Al,Dy,zO,hlen,↓reduceIte,reduceCtorEq,xY,xX,tB,xW,Dn,DA,Dz]|apply ae<;>(intro h_;(try simp only [h_]);revert h_)|apply And.intro|with_reducible intro h_|trivial|simp only [go_sem,ah];omega)
   all_goals exact az.refl _
 ·have c0:decide ((i:Int)<S.length)=false:=by simp;omega
  have hlen:=tv S;have ep:fg e z S=S.take i++[(e,z)]++S.drop i:=by unfold fg;rw [hI,if_neg fun h=>gQ h.1]
  rw [ep];have hR:=R6 hle e z;generalize S.take i++[(e,z)]++S.drop i=R at hR⊢;obtain ⟨r0,r1,r2,r3,r4,r5,r6,r7,r8,r9,ra⟩:=hR;rw [r0];have tl:=R8 hle;have tk:=R7 hle
  repeat' (first|omega|(first|apply ag|(refine aj.aq (id:=6) (Dn) (by decide+kernel) mixed ?_)|(refine aj.intro (id:=6) xY [[],[0],[0,1],[0,1,2],[0,1],[0,1],[0,1,2,3,4,5],[0,1],[],[]] (by decide+kernel) mixed ?_)|(refine aj.aq (id:=8) (DA) (by decide+kernel) mixed ?_)|(refine aj.intro (id:=8) xX tB (by decide+kernel) mixed ?_)|(refine aj.aq (id:=9) (Dz) (by decide+kernel) mixed ?_)|(refine aj.intro (id:=9) xW tB (by decide+kernel) mixed ?_)|skip);simp only [go_sem,sevalprocAttr,tl,tk,r1,r2,r3,r4,r5,r6,r7,r8,r9,ra,Hh,HT,ja,c0,List.length_map,zN,Nat.sub_zero,Am,Al,Dy,zO,hlen,↓reduceIte,reduceCtorEq,xY,xX,tB,xW,Dn,DA,Dz]|apply ae<;>(intro h_;(try simp only [h_]);revert h_)|apply And.intro|with_reducible intro h_|trivial|simp only [go_sem,ah];omega)
  all_goals exact az.refl _
end Go.Proofs.YtmdjdekgakidhaaGreatDoor
namespace Go.Proofs.YtmdjdekgakidhaaGreatDoor
open Go Go.RowKit Go.Shelf
set_option maxHeartbeats 4000000
set_option maxRecDepth 100000
theorem NA:(Tryz.prog.info? 85).map (·.size)=some 2:=by kernel_rfl
theorem Kc:liesAt Tryz.prog Tryz.prog.depth 85 (2/Tryz.prog.cellsOf 85) 0 85 1=true:=by kernel_rfl
theorem Ga:Tryz.prog.underlying 82=some (.pointer 85):=by kernel_rfl
theorem R2:Tryz.prog.underlying 161=some .unsafePointer:=by kernel_rfl
theorem Pr:(Tryz.prog.info? 5).map (fun i=>(i.zero,i.size,i.bytes))=some (some (.int .u8 0),1,1):=by kernel_rfl
theorem Nz:Tryz.prog.underlying 83=some (.slice 5):=by kernel_rfl
theorem AQ:Tryz.prog.underlying 9=some .string:=by kernel_rfl
theorem VN (b:Nat) (w:World) (h0:w.cell? ⟨b,0,none⟩=some (.pointer (some ⟨b,0,none⟩))):
  Calls Tryz.prog 99 #[.pointer (some ⟨b,0,none⟩)] w fun e w'=>e= .returned (.tuple #[])/\w'=w:=by
 obtain ⟨j,hj,_⟩:=Option.map_eq_some_iff.1 NA
 go_enter Tryz.func99,Tryz.ntmps99
 go_wp2
 rw [Lib.run_neq_ptr_same w _ Ga hj]
 go_wp2
 go_end0
 exact ⟨rfl,rfl⟩
theorem W0 (b:Nat) (w:World) (h0:w.cell? ⟨b,0,none⟩=some (.pointer none)) (SX:w.shape? b=some (85,2)) (hfz:w.frozen? ⟨b,0,none⟩=false):
  Calls Tryz.prog 99 #[.pointer (some ⟨b,0,none⟩)] w fun e w'=>e= .returned (.tuple #[])/\w'=w.setCell ⟨b,0,none⟩ (.pointer (some ⟨b,0,none⟩)):=by
 obtain ⟨j,hj,B3⟩:=Option.map_eq_some_iff.1 NA
 go_enter Tryz.func99,Tryz.ntmps99
 go_wp2
 rw [Lib.run_to_unsafe w ⟨b,0,none⟩ Ga R2 hj (by rw [B3];decide) SX (Nat.zero_lt_succ 1)];simp only [Result.andThen];rw [Oper.upon_value]
 go_wp2
 rw [run_callFunc_extern Tryz.func136 (by kernel_rfl) (by kernel_rfl) (by kernel_rfl) (e:=Extern.AbiNoEscape.same) (by kernel_rfl)];rw [Lib.run_noEscape];simp only [Result.andThen];rw [Oper.upon_value]
 go_wp2
 rw [Lib.run_from_unsafe w ⟨b,0,none⟩ R2 Ga hj SX Kc];simp only [Result.andThen];rw [Oper.upon_value]
 go_wp2
 go_end0
 exact ⟨rfl,rfl⟩
theorem PQ (B b:Nat) (bs:List Value) (w:World) (h:Lib.IsBuilderF 85 5 B b bs w):
  Calls Tryz.prog 99 #[.pointer (some ⟨b,0,none⟩)] w fun e w'=>e= .returned (.tuple #[])/\(Lib.BuilderAtF 85 5 B b (.pointer (some ⟨b,0,none⟩)) bs w'/\Below B w w'/\Lib.OthersKept 5 (some b) w w'):=by
 rcases h with h|h
 ·refine (W0 b w h.cell0 h.shape h.frozen0).mono ?_;rintro e w' ⟨rfl,rfl⟩;exact ⟨rfl,h.used _,(Below.refl B w).setCell (p:=⟨b,0,none⟩) h.1 _,(Lib.OthersKept.refl _ _ w).setCell ⟨b,0,none⟩ rfl _⟩
 ·refine (VN b w h.cell0).mono ?_;rintro e w' ⟨rfl,rfl⟩;exact ⟨rfl,h,Below.refl B _,Lib.OthersKept.refl _ _ _⟩
theorem VM (B b:Nat) (bs:List Value) (c:Int) (w:World) (h:Lib.IsBuilderF 85 5 B b bs w) (hlen:bs.length+1<=140737488355328) (hBw:B<=w.heap.size):
  Calls Tryz.prog 63 #[.pointer (some ⟨b,0,none⟩), .int .u8 c] w fun e w'=>e= .returned .nilIface/\(Lib.BuilderAtF 85 5 B b (.pointer (some ⟨b,0,none⟩)) (bs++[.int .u8 c]) w'/\Below B w w'/\Lib.OthersKept 5 (some b) w w'):=by
 obtain ⟨i0,hi,jP,nW,lT⟩:=info_parts Pr
 go_enter Tryz.func63,Tryz.ntmps63
 go_wp2_with (go_at_call 99;refine (PQ B b bs _ h).mono ?_)
 rintro e w1 ⟨rfl,h1,iy,mZ⟩;obtain ⟨hB,v,nI,fX,av⟩:=h1;have c0:w1.cell? ⟨b,0,none⟩=some (.pointer (some ⟨b,0,none⟩)):=by rw [Lib.cell_of_heap nI];rfl
 have c1:w1.cell? ⟨b,1,none⟩=some v:=by rw [Lib.cell_of_heap nI];rfl
 go_wp2_with (at_builtin;refine wpList_append_ownF _ rfl _ _ 83 rfl B 5 i0 (.int .u8 0) 1 1 Nz hi jP nW lT rfl (by decide) _ _ _ rfl (fX.alloc _) ⟨w1.heap.size,0,none⟩ 1 1 [.int .u8 c] rfl rfl ?c1 ?c2 ?c3 ?c4 ?c5 ?_)
 case c1=>
  intro j u hj
  match j,hj with
  |0,hj=>simp at hj;subst hj;simp [Addr.add]
 case c2=>intro u hu;simp at hu;subst hu;rfl
 case c3=>unfold maxLen;omega
 case c4=>omega
 case c5=>have:=iy.size;simp;omega
 intro v' w2 mW jz _;have ax:b<w1.heap.size:=by
  rcases Nat.lt_or_ge b w1.heap.size with h'|h'
  ·exact h'
  ·simp [Array.getElem?_eq_none h'] at nI
 have kx:w2.heap[b]?=some (.cells #[.pointer (some ⟨b,0,none⟩),v] 85 (0,0)):=by
  rw [jz.block b (by simp;omega) (fun e=>av e.symm),Lib.alloc_old w1 _ b ax];exact nI
 have d0:w2.cell? ⟨b,0,none⟩=some (.pointer (some ⟨b,0,none⟩)):=by rw [Lib.cell_of_heap kx];rfl
 have d1:w2.cell? ⟨b,1,none⟩=some v:=by rw [Lib.cell_of_heap kx];rfl
 have f1:w2.frozen? ⟨b,1,none⟩=false:=Lib.frozen_of_heap kx 1;obtain ⟨g,cap,rfl⟩: ∃g cap,v'= .slice (some ⟨g,0,none⟩) (bs.length+1) cap:=by
  rcases mW.2 with ⟨_,h0⟩|⟨g,cap,cur,fz,hv,_⟩
  ·omega
  ·exact ⟨g,cap,hv⟩
 go_wp2
 go_ret
 refine ⟨rfl,?_,?_,((mZ.alloc _).grown jz (Lib.ownsRowF_kind (fX.alloc _))).setCell ⟨b,1,none⟩ rfl _⟩
 ·exact Lib.BuilderAtF.put (T:=85) (e:=5) hB kx (bs':=bs++[.int .u8 c]) (by simpa using mW) (by decide)
 ·exact ((iy.alloc (by have:=iy.size;omega) _).grown jz (by have:=iy.size;simp;omega) (fun k hk=>(fX.lt k hk).1)).setCell (p:=⟨b,1,none⟩) hB _
theorem Ny (B b:Nat) (bs:List Value) (s:ByteArray) (w:World) (h:Lib.IsBuilderF 85 5 B b bs w) (hlen:bs.length+s.size<=140737488355328) (hBw:B<=w.heap.size):
  Calls Tryz.prog 56 #[.pointer (some ⟨b,0,none⟩), .string s] w fun e w'=>e= .returned (.tuple #[.int .i64 s.size, .nilIface])/\(Lib.BuilderAtF 85 5 B b (.pointer (some ⟨b,0,none⟩)) (bs++Lib.strCells s) w'/\Below B w w'/\Lib.OthersKept 5 (some b) w w'):=by
 obtain ⟨i0,hi,jP,nW,lT⟩:=info_parts Pr
 go_enter Tryz.func56,Tryz.ntmps56
 go_wp2_with (go_at_call 99;refine (PQ B b bs _ h).mono ?_)
 rintro e w1 ⟨rfl,h1,iy,mZ⟩;obtain ⟨hB,v,nI,fX,av⟩:=h1;have c0:w1.cell? ⟨b,0,none⟩=some (.pointer (some ⟨b,0,none⟩)):=by rw [Lib.cell_of_heap nI];rfl
 have c1:w1.cell? ⟨b,1,none⟩=some v:=by rw [Lib.cell_of_heap nI];rfl
 go_wp2_with (at_builtin;refine Lib.wpList_append_own_stringF _ rfl _ _ 83 9 rfl B 5 i0 Nz AQ hi jP nW lT _ _ _ rfl fX s rfl ?c3 ?c4 ?c5 ?_)
 case c3=>unfold maxLen;omega
 case c4=>omega
 case c5=>have:=iy.size;omega
 intro v' w2 mW jz _;have ax:b<w1.heap.size:=by
  rcases Nat.lt_or_ge b w1.heap.size with h'|h'
  ·exact h'
  ·simp [Array.getElem?_eq_none h'] at nI
 have kx:w2.heap[b]?=some (.cells #[.pointer (some ⟨b,0,none⟩),v] 85 (0,0)):=by
  rw [jz.block b ax (fun e=>av e.symm)];exact nI
 have d0:w2.cell? ⟨b,0,none⟩=some (.pointer (some ⟨b,0,none⟩)):=by rw [Lib.cell_of_heap kx];rfl
 have d1:w2.cell? ⟨b,1,none⟩=some v:=by rw [Lib.cell_of_heap kx];rfl
 have f1:w2.frozen? ⟨b,1,none⟩=false:=Lib.frozen_of_heap kx 1;obtain ⟨ao,n',cap,rfl⟩: ∃ao n' cap,v'= .slice ao n' cap:=by
  rcases mW.2 with ⟨hv,_⟩|⟨g,cap,cur,fz,hv,_⟩
  ·exact ⟨_,_,_,hv⟩
  ·exact ⟨_,_,_,hv⟩
 go_wp2
 go_ret2
 refine ⟨rfl,?_,?_,(mZ.grown jz (Lib.ownsRowF_kind fX)).setCell ⟨b,1,none⟩ rfl _⟩
 ·exact Lib.BuilderAtF.put (T:=85) (e:=5) hB kx (bs':=bs++Lib.strCells s) (by simpa [Lib.strCells_length] using mW) (by decide)
 ·exact (iy.grown jz (by have:=iy.size;omega) (fun k hk=>(fX.lt k hk).1)).setCell (p:=⟨b,1,none⟩) hB _
end Go.Proofs.YtmdjdekgakidhaaGreatDoor
