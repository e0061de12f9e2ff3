/- Plain: two strands meet an even number of times (a potential on the faces). -/
import Derived.Test.YtphjphpmfflfpaaGreatDoorJr1
namespace Go.Proofs.YtphjphpmfflfpaaGreatDoor
set_option linter.unusedSimpArgs false
set_option linter.unusedVariables false
open Classical
theorem JE (f:Nat->Int): ∀k,sm (fun p=>f (p+1)-f p) k=f k-f 0
 |0=>by simp [sm]
 |k+1=>by simp only [sm];rw [JE f k];omega
theorem I7 {f g:Nat->Int}: ∀{n:Nat},(∀c,c<n->f c % 2=g c % 2)->sm f n % 2=sm g n % 2
 |0,_=>rfl
 |n+1,h=>by
  have h1:=I7 (n:=n) fun c hc=>h c (by omega);have h2:=h n (by omega);simp only [sm];omega
theorem UC {F:Int->Int} {N:Nat}: ∀{l:List Int},l.Nodup->(∀x∈l,0<=x/\x<N)->(l.map F).sum=sm (fun z=>if (z:Int)∈l then F z else 0) N
 |[],_,_=>by
  have:sm (fun z=>if (z:Int)∈([]:List Int) then F z else 0) N=sm (fun _=>0) N:=dO fun z _=>by simp
  rw [this,k8];simp
 |a::l,hn,hr=>by
  obtain ⟨n1,n2⟩:=List.nodup_cons.1 hn;have ih:=UC (F:=F) n2 fun x hx=>hr x (List.mem_cons_of_mem _ hx);have ha:=hr a List.mem_cons_self;have e:sm (fun z=>if (z:Int)∈a::l then F z else 0) N=sm (fun z=>(if z=a.toNat then F a else 0)+(if (z:Int)∈l then F z else 0)) N:=dO fun z _=>by
   by_cases h:z=a.toNat
   ·have hz:(z:Int)=a:=by omega
    rw [if_pos h,hz,if_pos List.mem_cons_self,if_neg n1];omega
   ·have hz:(z:Int)≠a:=by omega
    rw [if_neg h];by_cases h2:(z:Int)∈l
    ·rw [if_pos h2,if_pos (List.mem_cons_of_mem _ h2)];omega
    ·rw [if_neg h2,if_neg fun h3=>(List.mem_cons.1 h3).elim hz h2];omega
  rw [List.map_cons,List.sum_cons,ih,e,nH,vJ (f:=fun z=>if z=a.toNat then F a else 0) (a:=a.toNat) (by omega) fun x _ hx=>if_neg hx,if_pos rfl]
section
variable {s m:List Int} {L:Int} (v:Bn s m L)
def k9 (s:List Int) (c:Nat):Nat:=if s.getD c 0=1 then 4*c+1 else 4*c+3
def iH (s m:List Int) (k:Nat) (x:Nat):Prop:=if aw s x=true then (x:Int)∈aI s m k else m.getD x 0∈aI s m k
def iu (x:Nat):Nat:=x-x % 4+(x % 4+2)% 4
def tw (x:Nat):Nat:=x-x % 4+(x % 4+1)% 4
include v
theorem AZ {x:Nat} (hx:x<4*s.length):aw s (iu x)= !aw s x:=by
 obtain ⟨c,hc⟩: ∃c,x/4=c:=⟨_,rfl⟩;have hs:=v.sg c (by omega);obtain ⟨a0,a1,a2,a3⟩:=mK s c;have e:x=4*c\/x=4*c+1\/x=4*c+2\/x=4*c+3:=by omega
 unfold iu;rcases e with rfl|rfl|rfl|rfl
 ·rw [show 4*c-4*c % 4+(4*c % 4+2)% 4=4*c+2 by omega,a2,a0];rfl
 ·rw [show 4*c+1-(4*c+1)% 4+((4*c+1)% 4+2)% 4=4*c+3 by omega,a3,a1];rcases hs with h|h<;>rw [h]<;>rfl
 ·rw [show 4*c+2-(4*c+2)% 4+((4*c+2)% 4+2)% 4=4*c by omega,a0,a2];rfl
 ·rw [show 4*c+3-(4*c+3)% 4+((4*c+3)% 4+2)% 4=4*c+1 by omega,a3,a1];rcases hs with h|h<;>rw [h]<;>rfl
theorem I6 {x:Nat} (hx:x<4*s.length):aw s (m.getD x 0)= !aw s x:=(G4 v hx).1
theorem Ga {x:Nat} (hx:x<4*s.length): ∃y:Nat,m.getD x 0=y/\y<4*s.length/\m.getD y 0=x:=by
 have h:=v.mt x hx;have h2:=v.prd.inv x hx;exact ⟨(m.getD x 0).toNat,by omega,by omega,h2⟩
omit v in
theorem xX {x:Nat} (hx:x<4*s.length) {y:Nat} (hy:m.getD x 0=y):bE m x=(iu y:Nat):=by
 unfold bE iu;rw [Int.toNat_natCast,hy];unfold dB;rw [show (2:Int).tmod 4=2 by decide];omega
theorem UB (k:Nat) {x:Nat} (hx:x<4*s.length) {y:Nat} (hy:m.getD x 0=y):iH s m k y↔iH s m k x:=by
 obtain ⟨y',e,h1,h2⟩:=Ga v hx;obtain rfl:y=y':=by omega
 have:=I6 v hx
 rw [hy] at this;unfold iH;rw [this,h2,hy];cases aw s x<;>simp
theorem AY {k:Nat} (hk:k<(a8 s m).length) {x:Nat} (hx:x<4*s.length):iH s m k (iu x)↔iH s m k x:=by
 have key: ∀z:Nat,z<4*s.length->aw s z=false->(iH s m k (iu z)↔iH s m k z):=fun z hz ho=>by
  obtain ⟨y,e,h1,h2⟩:=Ga v hz;have h3:=UD v hk h1;rw [xX h1 h2] at h3;unfold iH;rw [AZ v hz,ho,e];simp only [Bool.not_false,if_true,Bool.false_eq_true,if_false];exact h3.symm
 cases ho:aw s x with
 |false=>exact key x hx ho
 |true=>
  have h1:iu x<4*s.length:=by unfold iu;omega
  have h2:iu (iu x)=x:=by unfold iu;omega
  have:=key (iu x) h1 (by rw [AZ v hx,ho];rfl)
  rw [h2] at this;exact this.symm
noncomputable def qk (s m:List Int) (i:Nat) (z:Int):Int:=if iH s m i (tw z.toNat) then (if aw s (tw z.toNat)=true then 1 else-1) else 0
omit v in
theorem J7 (i:Nat) (z:Int):qk s m i z % 2=(if iH s m i (tw z.toNat) then 1 else 0)% 2:=by
 unfold qk;split
 ·split<;>rfl
 ·rfl
end
section
variable {s m:List Int} {L:Int} (hv:bF s m L=true)
include hv
theorem Nu {i j:Nat} (hi:i<(a8 s m).length) (hj:j<(a8 s m).length) (eK:i≠j):((aI s m j).map (qk s m i)).sum=0:=by
 have v:=cK hv;obtain ⟨hd,eZ⟩:=Sp.jk hv;have hS:=hd.vZ.1 eZ;have al: ∀x,x<4*s.length-> ∃y:Nat,m.getD x 0=y/\y<4*s.length/\m.getD y 0=x/\Sp.bW m x=y:=fun x hx=>by
  obtain ⟨y,h1,h2,h3⟩:=Ga v hx;exact ⟨y,h1,h2,h3,by unfold Sp.bW;omega⟩
 have o4: ∀c,c<s.length->iu (4*c)=4*c+2/\iu (4*c+1)=4*c+3:=fun c _=>by unfold iu;omega
 obtain ⟨g,hg⟩:=hS.OZ (fun x=>if aw s x=true then 1 else-1) (fun x _=>by show (if _ then (1:Int) else-1)=1\/_;split<;>simp) (fun x hx=>by
  obtain ⟨y,h1,h2,h3,h4⟩:=al x hx
  have:=I6 v hx
  rw [h1] at this;simp only [h4,this];cases aw s (x:Int)<;>simp) (fun c hc=>by
  have h1:=AZ v (x:=4*c) (by omega);have h2:=AZ v (x:=4*c+1) (by omega);rw [(o4 c hc).1] at h1;rw [(o4 c hc).2] at h2;simp only [h1,h2];constructor
  ·cases aw s ((4*c:Nat):Int)<;>simp
  ·cases aw s ((4*c+1:Nat):Int)<;>simp)
 obtain ⟨g',vw⟩:=hS.OZ (fun x=>if iH s m i x then (if aw s x=true then-1 else 1) else (if aw s x=true then 1 else-1)) (fun x _=>by show (if _ then (if _ then (-1:Int) else 1) else (if _ then (1:Int) else-1))=1\/_;split<;>split<;>simp) (fun x hx=>by
  obtain ⟨y,h1,h2,h3,h4⟩:=al x hx;have h5:=I6 v hx;rw [h1] at h5;have h6:=UB v i hx h1;simp only [h4,h5];by_cases h7:iH s m i x
  ·rw [if_pos h7,if_pos (h6.2 h7)];cases aw s (x:Int)<;>simp
  ·rw [if_neg h7,if_neg fun e=>h7 (h6.1 e)];cases aw s (x:Int)<;>simp) (fun c hc=>by
  have h1:=AZ v (x:=4*c) (by omega);have h2:=AZ v (x:=4*c+1) (by omega);have h3:=AY v hi (x:=4*c) (by omega);have h4:=AY v hi (x:=4*c+1) (by omega);rw [(o4 c hc).1] at h1 h3;rw [(o4 c hc).2] at h2 h4;simp only [h1,h2];constructor
  ·by_cases h7:iH s m i (4*c)
   ·rw [if_pos h7,if_pos (h3.2 h7)];cases aw s ((4*c:Nat):Int)<;>simp
   ·rw [if_neg h7,if_neg fun e=>h7 (h3.1 e)];cases aw s ((4*c:Nat):Int)<;>simp
  ·by_cases h7:iH s m i (4*c+1)
   ·rw [if_pos h7,if_pos (h4.2 h7)];cases aw s ((4*c+1:Nat):Int)<;>simp
   ·rw [if_neg h7,if_neg fun e=>h7 (h4.1 e)];cases aw s ((4*c+1:Nat):Int)<;>simp)
 have step: ∀w:Nat,w<4*s.length->(w:Int)∈aI s m j-> ∃z:Nat,bE m w=z/\z<4*s.length/\(z:Int)∈aI s m j/\g z-g' z=g w-g' w-2*qk s m i z:=fun w hw sJ=>by
  obtain ⟨y,h1,h2,h3,h4⟩:=al w hw;have hz:=xX hw h1;have zI:iu y<4*s.length:=by unfold iu;omega
  refine ⟨iu y,hz,zI,by rw [←hz];exact (UD v hj hw).1 sJ,?_⟩;have ht:Sp.bT y<4*s.length:=by unfold Sp.bT;omega
  obtain ⟨q,q1,q2,q3,q4⟩:=al _ ht;obtain ⟨_,_,_,_,q5⟩:=al _ q2;have f1:=hg.hY w hw;have QM:=vw.hY w hw;rw [h4] at f1 QM;have f2:=hg.hY q q2;have QL:=vw.hY q q2;have e5:Sp.bW m q=Sp.bT y:=by unfold Sp.bW;omega
  rw [e5,show Sp.bT (Sp.bT y)=iu y by unfold Sp.bT iu;omega] at f2 QL;have f3:=hg.edge _ ht;have FD:=vw.edge _ ht;rw [q4] at f3 FD;have hwo:=(Bv v hj sJ).2;have hwi: ¬iH s m i w:=fun e=>by
   unfold iH at e;rw [if_pos hwo] at e;exact eK (CW v hi hj e sJ)
  have hn:tw (iu y)=Sp.bT y:=by unfold tw iu Sp.bT;omega
  unfold qk;rw [Int.toNat_natCast,hn];by_cases h7:iH s m i (Sp.bT y)
  ·rw [if_pos h7];simp only [if_pos h7] at FD;cases ho:aw s (Sp.bT y:Nat) with
   |true=>
    simp only [ho,if_true] at f3 FD⊢;omega
   |false=>
    simp only [ho,Bool.false_eq_true,if_false] at f3 FD⊢;omega
  ·rw [if_neg h7];simp only [if_neg h7] at FD;omega
 obtain ⟨x,x1,x2,x3,x4⟩:=A0 v hj;obtain ⟨_,_,_,_,wz,_,k,hk,e⟩:=pC v x1;have all: ∀p,∃w:Nat,it (bE m) p x=w/\w<4*s.length/\(w:Int)∈aI s m j:=fun p=>by
  induction p with
  |zero=>exact ⟨x,rfl,x1,by rw [x4];exact wz⟩
  |succ p ih=>
   obtain ⟨w,w1,w2,w3⟩:=ih;obtain ⟨z,z1,z2,z3,_⟩:=step w w2 w3;exact ⟨z,by show bE m (it (bE m) p x)=z;rw [w1];exact z1,z2,z3⟩
 have bH: ∀p,g (it (bE m) (p+1) x).toNat-g' (it (bE m) (p+1) x).toNat=g (it (bE m) p x).toNat-g' (it (bE m) p x).toNat-2*qk s m i (it (bE m) (p+1) x):=fun p=>by
  obtain ⟨w,w1,w2,w3⟩:=all p;obtain ⟨z,z1,z2,z3,z4⟩:=step w w2 w3;have e2:it (bE m) (p+1) x=z:=by show bE m (it (bE m) p x)=z;rw [w1];exact z1
  rw [e2,w1,Int.toNat_natCast,Int.toNat_natCast];exact z4
 have t1:=JE (fun p=>g (it (bE m) p x).toNat-g' (it (bE m) p x).toNat) k;have t2:sm (fun p=>g (it (bE m) (p+1) x).toNat-g' (it (bE m) (p+1) x).toNat-(g (it (bE m) p x).toNat-g' (it (bE m) p x).toNat)) k=sm (fun p=> -2*qk s m i (it (bE m) (p+1) x)) k:=dO fun p _=>by have:=bH p;omega
 rw [t2,hk.back,show it (bE m) 0 (x:Int)=x from rfl,sz] at t1;have t3:=JE (fun p=>qk s m i (it (bE m) p x)) k;have t4:sm (fun p=>qk s m i (it (bE m) (p+1) x)-qk s m i (it (bE m) p x)) k=sm (fun p=>qk s m i (it (bE m) (p+1) x)) k+sm (fun p=> -1*qk s m i (it (bE m) p x)) k:=by
  rw [←nH];exact dO fun p _=>by omega
 rw [t4,sz,hk.back,show it (bE m) 0 (x:Int)=x from rfl] at t3;rw [x4,e];unfold its;rw [List.map_map];have t5:=GP (fun p=>qk s m i (it (bE m) p x)) k;have t6:((List.range k).map ((qk s m i)∘fun j=>it (bE m) j (x:Int))).sum=sm (fun p=>qk s m i (it (bE m) p x)) k:=t5.symm;rw [t6];omega
theorem ZT {i j:Nat} (hi:i<(a8 s m).length) (hj:j<(a8 s m).length) (eK:i≠j):
  sm (fun c=>(if ((4*c+2:Nat):Int)∈aI s m j/\((k9 s c:Nat):Int)∈aI s m i then 1 else 0)+(if ((4*c+2:Nat):Int)∈aI s m i/\((k9 s c:Nat):Int)∈aI s m j then 1 else 0)) s.length % 2=0:=by
 have v:=cK hv;have h0:=Nu hv hi hj eK;obtain ⟨x,x1,x2,x3,x4⟩:=A0 v hj;obtain ⟨_,hr,_,_,_,hn,_⟩:=pC v x1;rw [UC (N:=4*s.length) (by rw [x4];exact hn) (by rw [x4];intro y hy;have:=hr y hy;unfold au at this;omega),Kp] at h0;rw [←show (0:Int)% 2=0 from rfl,←h0];refine I7 fun c hc=>?_;have e4: ∀f:Nat->Int,sm f 4=f 0+f 1+f 2+f 3:=fun f=>by simp only [sm];omega
 rw [e4];obtain ⟨a0,a1,a2,a3⟩:=mK s c;have no: ∀y:Nat,aw s y=false-> ¬(y:Int)∈aI s m j:=fun y hy h=>by have:=(Bv v hj h).2;rw [hy] at this;cases this
 have p0:iu (4*c)=4*c+2:=by unfold iu;omega
 have p1:iu (4*c+1)=4*c+3:=by unfold iu;omega
 have n1:tw (4*c+1)=4*c+2:=by unfold tw;omega
 have n2:tw (4*c+2)=4*c+3:=by unfold tw;omega
 have n3:tw (4*c+3)=4*c:=by unfold tw;omega
 have k0:=AY v hi (x:=4*c) (by omega);have k1:=AY v hi (x:=4*c+1) (by omega);rw [p0] at k0;rw [p1] at k1;have u2:iH s m i (4*c+2)↔((4*c+2:Nat):Int)∈aI s m i:=by unfold iH;rw [if_pos a2]
 have d1:=J7 (s:=s) (m:=m) i ((4*c+1:Nat):Int);have d2:=J7 (s:=s) (m:=m) i ((4*c+2:Nat):Int);have d3:=J7 (s:=s) (m:=m) i ((4*c+3:Nat):Int);rw [Int.toNat_natCast,n1] at d1;rw [Int.toNat_natCast,n2] at d2;rw [Int.toNat_natCast,n3] at d3;rw [if_neg (no (4*c+0) (by rw [Nat.add_zero];exact a0))];rcases v.sg c hc with h|h
 ·have o1:aw s ((4*c+1:Nat):Int)=true:=by rw [a1,h];rfl
  have o3:aw s ((4*c+3:Nat):Int)=false:=by rw [a3,h];rfl
  have ho:k9 s c=4*c+1:=by unfold k9;rw [if_pos h]
  have u1:iH s m i (4*c+1)↔((4*c+1:Nat):Int)∈aI s m i:=by unfold iH;rw [if_pos o1]
  rw [if_neg (no _ o3),ho]
  by_cases A:((4*c+2:Nat):Int)∈aI s m j<;>by_cases B:((4*c+1:Nat):Int)∈aI s m i<;>by_cases C:((4*c+2:Nat):Int)∈aI s m i<;>by_cases D:((4*c+1:Nat):Int)∈aI s m j<;>
   simp only [A,B,C,D,k1,u1,u2,and_true,true_and,and_false,false_and,if_true,if_false] at d1 d2⊢ <;>omega
 ·have o1:aw s ((4*c+1:Nat):Int)=false:=by rw [a1,h];rfl
  have o3:aw s ((4*c+3:Nat):Int)=true:=by rw [a3,h];rfl
  have ho:k9 s c=4*c+3:=by unfold k9;rw [if_neg (by omega)]
  have u3:iH s m i (4*c+3)↔((4*c+3:Nat):Int)∈aI s m i:=by unfold iH;rw [if_pos o3]
  rw [if_neg (no _ o1),ho]
  by_cases A:((4*c+2:Nat):Int)∈aI s m j<;>by_cases B:((4*c+3:Nat):Int)∈aI s m i<;>by_cases C:((4*c+2:Nat):Int)∈aI s m i<;>by_cases D:((4*c+3:Nat):Int)∈aI s m j<;>
   simp only [A,B,C,D,←k0,u3,u2,and_true,true_and,and_false,false_and,if_true,if_false] at d3 d2⊢ <;>omega
end
end Go.Proofs.YtphjphpmfflfpaaGreatDoor
