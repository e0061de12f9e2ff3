/- Plain: two strands meet an even number of times (a potential on the faces). -/
import Derived.Test.YtcnilhcplgiidaaDoorZn
namespace Go.Proofs.YtcnilhcplgiidaaDoor
set_option linter.unusedSimpArgs false
set_option linter.unusedVariables false
open Classical
theorem yk4 (f:Nat->Int): ∀k,sm (fun p=>f (p+1)-f p) k=f k-f 0
 |0=>by simp [sm]
 |k+1=>by simp only [sm];rw [yk4 f k];omega
theorem yn7 {f g:Nat->Int}: ∀{n:Nat},(∀c,c<n->f c % 2=g c % 2)->sm f n % 2=sm g n % 2
 |0,_=>rfl
 |n+1,h=>by
  have h1:=yn7 (n:=n) fun c hc=>h c (by omega)
  have h2:=h n (by omega)
  simp only [sm];omega
theorem yn8 {F:Int->Int} {N:Nat}: ∀{l:List Int},l.Nodup->(∀x∈l,0<=x/\x<N)->(l.map F).sum=sm (fun z=>if (z:Int)∈l then F z else 0) N
 |[],_,_=>by
  have:sm (fun z=>if (z:Int)∈([]:List Int) then F z else 0) N=sm (fun _=>0) N:=ybz fun z _=>by simp
  rw [this,yd9];simp
 |a::l,hn,hr=>by
  obtain ⟨n1,n2⟩:=List.nodup_cons.1 hn
  have ih:=yn8 (F:=F) n2 fun x hx=>hr x (List.mem_cons_of_mem _ hx)
  have ha:=hr a List.mem_cons_self
  have e:sm (fun z=>if (z:Int)∈a::l then F z else 0) N=sm (fun z=>(if z=a.toNat then F a else 0)+(if (z:Int)∈l then F z else 0)) N:=ybz fun z _=>by
   by_cases h:z=a.toNat
   ·have hz:(z:Int)=a:=by omega
    rw [if_pos h,hz,if_pos List.mem_cons_self,if_neg n1];omega
   ·have hz:(z:Int)≠a:=by omega
    rw [if_neg h]
    by_cases h2:(z:Int)∈l
    ·rw [if_pos h2,if_pos (List.mem_cons_of_mem _ h2)];omega
    ·rw [if_neg h2,if_neg fun h3=>(List.mem_cons.1 h3).elim hz h2];omega
  rw [List.map_cons,List.sum_cons,ih,e,yke,yny (f:=fun z=>if z=a.toNat then F a else 0) (a:=a.toNat) (by omega) fun x _ hx=>if_neg hx,if_pos rfl]
section
variable {s m:List Int} {L:Int} (v:ybj s m L)
def ovH (s:List Int) (c:Nat):Nat:=if s.getD c 0=1 then 4*c+1 else 4*c+3
def onK (s m:List Int) (k:Nat) (x:Nat):Prop:=if outB s x=true then (x:Int)∈strK s m k else m.getD x 0∈strK s m k
def op2 (x:Nat):Nat:=x-x % 4+(x % 4+2)% 4
def nt1 (x:Nat):Nat:=x-x % 4+(x % 4+1)% 4
include v
theorem ygg {x:Nat} (hx:x<4*s.length):outB s (op2 x)= !outB s x:=by
 obtain ⟨c,hc⟩: ∃c,x/4=c:=⟨_,rfl⟩
 have hs:=v.sg c (by omega)
 obtain ⟨a0,a1,a2,a3⟩:=yct s c
 have e:x=4*c\/x=4*c+1\/x=4*c+2\/x=4*c+3:=by omega
 unfold op2
 rcases e with rfl|rfl|rfl|rfl
 ·rw [show 4*c-4*c % 4+(4*c % 4+2)% 4=4*c+2 by omega,a2,a0];rfl
 ·rw [show 4*c+1-(4*c+1)% 4+((4*c+1)% 4+2)% 4=4*c+3 by omega,a3,a1];rcases hs with h|h<;>rw [h]<;>rfl
 ·rw [show 4*c+2-(4*c+2)% 4+((4*c+2)% 4+2)% 4=4*c by omega,a0,a2];rfl
 ·rw [show 4*c+3-(4*c+3)% 4+((4*c+3)% 4+2)% 4=4*c+1 by omega,a3,a1];rcases hs with h|h<;>rw [h]<;>rfl
theorem ykh {x:Nat} (hx:x<4*s.length):outB s (m.getD x 0)= !outB s x:=(yid v hx).1
theorem yhq {x:Nat} (hx:x<4*s.length): ∃y:Nat,m.getD x 0=y/\y<4*s.length/\m.getD y 0=x:=by
 have h:=v.mt x hx
 have h2:=v.prd.inv x hx
 exact ⟨(m.getD x 0).toNat,by omega,by omega,h2⟩
omit v in
theorem yq5 {x:Nat} (hx:x<4*s.length) {y:Nat} (hy:m.getD x 0=y):yah m x=(op2 y:Nat):=by
 unfold yah op2
 rw [Int.toNat_natCast,hy]
 unfold yaz
 rw [show (2:Int).tmod 4=2 by decide];omega
theorem yt0 (k:Nat) {x:Nat} (hx:x<4*s.length) {y:Nat} (hy:m.getD x 0=y):onK s m k y↔onK s m k x:=by
 obtain ⟨y',e,h1,h2⟩:=yhq v hx
 obtain rfl:y=y':=by omega
 have:=ykh v hx
 rw [hy] at this
 unfold onK
 rw [this,h2,hy]
 cases outB s x<;>simp
theorem yfr {k:Nat} (hk:k<(yae s m).length) {x:Nat} (hx:x<4*s.length):onK s m k (op2 x)↔onK s m k x:=by
 have key: ∀z:Nat,z<4*s.length->outB s z=false->(onK s m k (op2 z)↔onK s m k z):=fun z hz ho=>by
  obtain ⟨y,e,h1,h2⟩:=yhq v hz
  have h3:=yn6 v hk h1
  rw [yq5 h1 h2] at h3
  unfold onK
  rw [ygg v hz,ho,e]
  simp only [Bool.not_false,if_true,Bool.false_eq_true,if_false]
  exact h3.symm
 cases ho:outB s x with
 |false=>exact key x hx ho
 |true=>
  have h1:op2 x<4*s.length:=by unfold op2;omega
  have h2:op2 (op2 x)=x:=by unfold op2;omega
  have:=key (op2 x) h1 (by rw [ygg v hx,ho];rfl)
  rw [h2] at this
  exact this.symm
noncomputable def dlt (s m:List Int) (i:Nat) (z:Int):Int:=if onK s m i (nt1 z.toNat) then (if outB s (nt1 z.toNat)=true then 1 else-1) else 0
omit v in
theorem yk5 (i:Nat) (z:Int):dlt s m i z % 2=(if onK s m i (nt1 z.toNat) then 1 else 0)% 2:=by
 unfold dlt;split
 ·split<;>rfl
 ·rfl
end
section
variable {s m:List Int} {L:Int} (hv:yaj s m L=true)
include hv
theorem ypw {i j:Nat} (hi:i<(yae s m).length) (hj:j<(yae s m).length) (hij:i≠j):((strK s m j).map (dlt s m i)).sum=0:=by
 have v:=yat hv
 obtain ⟨hd,hsp⟩:=Sp.dia_of hv
 have hS:=hd.sph.1 hsp
 have al: ∀x,x<4*s.length-> ∃y:Nat,m.getD x 0=y/\y<4*s.length/\m.getD y 0=x/\Sp.alD m x=y:=fun x hx=>by
  obtain ⟨y,h1,h2,h3⟩:=yhq v hx
  exact ⟨y,h1,h2,h3,by unfold Sp.alD;omega⟩
 have o4: ∀c,c<s.length->op2 (4*c)=4*c+2/\op2 (4*c+1)=4*c+3:=fun c _=>by unfold op2;omega
 obtain ⟨g,hg⟩:=hS.pot (fun x=>if outB s x=true then 1 else-1) (fun x _=>by show (if _ then (1:Int) else-1)=1\/_;split<;>simp) (fun x hx=>by
  obtain ⟨y,h1,h2,h3,h4⟩:=al x hx
  have:=ykh v hx
  rw [h1] at this
  simp only [h4,this]
  cases outB s (x:Int)<;>simp) (fun c hc=>by
  have h1:=ygg v (x:=4*c) (by omega)
  have h2:=ygg v (x:=4*c+1) (by omega)
  rw [(o4 c hc).1] at h1
  rw [(o4 c hc).2] at h2
  simp only [h1,h2]
  constructor
  ·cases outB s ((4*c:Nat):Int)<;>simp
  ·cases outB s ((4*c+1:Nat):Int)<;>simp)
 obtain ⟨g',hg'⟩:=hS.pot (fun x=>if onK s m i x then (if outB s x=true then-1 else 1) else (if outB s x=true then 1 else-1)) (fun x _=>by show (if _ then (if _ then (-1:Int) else 1) else (if _ then (1:Int) else-1))=1\/_;split<;>split<;>simp) (fun x hx=>by
  obtain ⟨y,h1,h2,h3,h4⟩:=al x hx
  have h5:=ykh v hx
  rw [h1] at h5
  have h6:=yt0 v i hx h1
  simp only [h4,h5]
  by_cases h7:onK s m i x
  ·rw [if_pos h7,if_pos (h6.2 h7)];cases outB s (x:Int)<;>simp
  ·rw [if_neg h7,if_neg fun e=>h7 (h6.1 e)];cases outB s (x:Int)<;>simp) (fun c hc=>by
  have h1:=ygg v (x:=4*c) (by omega)
  have h2:=ygg v (x:=4*c+1) (by omega)
  have h3:=yfr v hi (x:=4*c) (by omega)
  have h4:=yfr v hi (x:=4*c+1) (by omega)
  rw [(o4 c hc).1] at h1 h3
  rw [(o4 c hc).2] at h2 h4
  simp only [h1,h2]
  constructor
  ·by_cases h7:onK s m i (4*c)
   ·rw [if_pos h7,if_pos (h3.2 h7)];cases outB s ((4*c:Nat):Int)<;>simp
   ·rw [if_neg h7,if_neg fun e=>h7 (h3.1 e)];cases outB s ((4*c:Nat):Int)<;>simp
  ·by_cases h7:onK s m i (4*c+1)
   ·rw [if_pos h7,if_pos (h4.2 h7)];cases outB s ((4*c+1:Nat):Int)<;>simp
   ·rw [if_neg h7,if_neg fun e=>h7 (h4.1 e)];cases outB s ((4*c+1:Nat):Int)<;>simp)
 have step: ∀w:Nat,w<4*s.length->(w:Int)∈strK s m j-> ∃z:Nat,yah m w=z/\z<4*s.length/\(z:Int)∈strK s m j/\g z-g' z=g w-g' w-2*dlt s m i z:=fun w hw hwj=>by
  obtain ⟨y,h1,h2,h3,h4⟩:=al w hw
  have hz:=yq5 hw h1
  have hzl:op2 y<4*s.length:=by unfold op2;omega
  refine ⟨op2 y,hz,hzl,by rw [←hz];exact (yn6 v hj hw).1 hwj,?_⟩
  have ht:Sp.siD y<4*s.length:=by unfold Sp.siD;omega
  obtain ⟨q,q1,q2,q3,q4⟩:=al _ ht
  obtain ⟨_,_,_,_,q5⟩:=al _ q2
  have f1:=hg.face w hw
  have f1':=hg'.face w hw
  rw [h4] at f1 f1'
  have f2:=hg.face q q2
  have f2':=hg'.face q q2
  have e5:Sp.alD m q=Sp.siD y:=by unfold Sp.alD;omega
  rw [e5,show Sp.siD (Sp.siD y)=op2 y by unfold Sp.siD op2;omega] at f2 f2'
  have f3:=hg.edge _ ht
  have f3':=hg'.edge _ ht
  rw [q4] at f3 f3'
  have hwo:=(yeb v hj hwj).2
  have hwi: ¬onK s m i w:=fun e=>by
   unfold onK at e
   rw [if_pos hwo] at e
   exact hij (yc9 v hi hj e hwj)
  have hn:nt1 (op2 y)=Sp.siD y:=by unfold nt1 op2 Sp.siD;omega
  unfold dlt
  rw [Int.toNat_natCast,hn]
  by_cases h7:onK s m i (Sp.siD y)
  ·rw [if_pos h7]
   simp only [if_pos h7] at f3'
   cases ho:outB s (Sp.siD y:Nat) with
   |true=>
    simp only [ho,if_true] at f3 f3'⊢
    omega
   |false=>
    simp only [ho,Bool.false_eq_true,if_false] at f3 f3'⊢
    omega
  ·rw [if_neg h7]
   simp only [if_neg h7] at f3'
   omega
 obtain ⟨x,x1,x2,x3,x4⟩:=yer v hj
 obtain ⟨_,_,_,_,hxm,_,k,hk,e⟩:=ybx v x1
 have all: ∀p,∃w:Nat,it (yah m) p x=w/\w<4*s.length/\(w:Int)∈strK s m j:=fun p=>by
  induction p with
  |zero=>exact ⟨x,rfl,x1,by rw [x4];exact hxm⟩
  |succ p ih=>
   obtain ⟨w,w1,w2,w3⟩:=ih
   obtain ⟨z,z1,z2,z3,_⟩:=step w w2 w3
   exact ⟨z,by show yah m (it (yah m) p x)=z;rw [w1];exact z1,z2,z3⟩
 have hst: ∀p,g (it (yah m) (p+1) x).toNat-g' (it (yah m) (p+1) x).toNat=g (it (yah m) p x).toNat-g' (it (yah m) p x).toNat-2*dlt s m i (it (yah m) (p+1) x):=fun p=>by
  obtain ⟨w,w1,w2,w3⟩:=all p
  obtain ⟨z,z1,z2,z3,z4⟩:=step w w2 w3
  have e2:it (yah m) (p+1) x=z:=by show yah m (it (yah m) p x)=z;rw [w1];exact z1
  rw [e2,w1,Int.toNat_natCast,Int.toNat_natCast]
  exact z4
 have t1:=yk4 (fun p=>g (it (yah m) p x).toNat-g' (it (yah m) p x).toNat) k
 have t2:sm (fun p=>g (it (yah m) (p+1) x).toNat-g' (it (yah m) (p+1) x).toNat-(g (it (yah m) p x).toNat-g' (it (yah m) p x).toNat)) k=sm (fun p=> -2*dlt s m i (it (yah m) (p+1) x)) k:=ybz fun p _=>by have:=hst p;omega
 rw [t2,hk.back,show it (yah m) 0 (x:Int)=x from rfl,ykf] at t1
 have t3:=yk4 (fun p=>dlt s m i (it (yah m) p x)) k
 have t4:sm (fun p=>dlt s m i (it (yah m) (p+1) x)-dlt s m i (it (yah m) p x)) k=sm (fun p=>dlt s m i (it (yah m) (p+1) x)) k+sm (fun p=> -1*dlt s m i (it (yah m) p x)) k:=by
  rw [←yke];exact ybz fun p _=>by omega
 rw [t4,ykf,hk.back,show it (yah m) 0 (x:Int)=x from rfl] at t3
 rw [x4,e]
 unfold its
 rw [List.map_map]
 have t5:=yps (fun p=>dlt s m i (it (yah m) p x)) k
 have t6:((List.range k).map ((dlt s m i)∘fun j=>it (yah m) j (x:Int))).sum=sm (fun p=>dlt s m i (it (yah m) p x)) k:=t5.symm
 rw [t6];omega
theorem yt1 {i j:Nat} (hi:i<(yae s m).length) (hj:j<(yae s m).length) (hij:i≠j):
  sm (fun c=>(if ((4*c+2:Nat):Int)∈strK s m j/\((ovH s c:Nat):Int)∈strK s m i then 1 else 0)+(if ((4*c+2:Nat):Int)∈strK s m i/\((ovH s c:Nat):Int)∈strK s m j then 1 else 0)) s.length % 2=0:=by
 have v:=yat hv
 have h0:=ypw hv hi hj hij
 obtain ⟨x,x1,x2,x3,x4⟩:=yer v hj
 obtain ⟨_,hr,_,_,_,hn,_⟩:=ybx v x1
 rw [yn8 (N:=4*s.length) (by rw [x4];exact hn) (by rw [x4];intro y hy;have:=hr y hy;unfold InR at this;omega),yk1] at h0
 rw [←show (0:Int)% 2=0 from rfl,←h0]
 refine yn7 fun c hc=>?_
 have e4: ∀f:Nat->Int,sm f 4=f 0+f 1+f 2+f 3:=fun f=>by simp only [sm];omega
 rw [e4]
 obtain ⟨a0,a1,a2,a3⟩:=yct s c
 have no: ∀y:Nat,outB s y=false-> ¬(y:Int)∈strK s m j:=fun y hy h=>by have:=(yeb v hj h).2;rw [hy] at this;cases this
 have p0:op2 (4*c)=4*c+2:=by unfold op2;omega
 have p1:op2 (4*c+1)=4*c+3:=by unfold op2;omega
 have n1:nt1 (4*c+1)=4*c+2:=by unfold nt1;omega
 have n2:nt1 (4*c+2)=4*c+3:=by unfold nt1;omega
 have n3:nt1 (4*c+3)=4*c:=by unfold nt1;omega
 have k0:=yfr v hi (x:=4*c) (by omega)
 have k1:=yfr v hi (x:=4*c+1) (by omega)
 rw [p0] at k0
 rw [p1] at k1
 have u2:onK s m i (4*c+2)↔((4*c+2:Nat):Int)∈strK s m i:=by unfold onK;rw [if_pos a2]
 have d1:=yk5 (s:=s) (m:=m) i ((4*c+1:Nat):Int)
 have d2:=yk5 (s:=s) (m:=m) i ((4*c+2:Nat):Int)
 have d3:=yk5 (s:=s) (m:=m) i ((4*c+3:Nat):Int)
 rw [Int.toNat_natCast,n1] at d1
 rw [Int.toNat_natCast,n2] at d2
 rw [Int.toNat_natCast,n3] at d3
 rw [if_neg (no (4*c+0) (by rw [Nat.add_zero];exact a0))]
 rcases v.sg c hc with h|h
 ·have o1:outB s ((4*c+1:Nat):Int)=true:=by rw [a1,h];rfl
  have o3:outB s ((4*c+3:Nat):Int)=false:=by rw [a3,h];rfl
  have ho:ovH s c=4*c+1:=by unfold ovH;rw [if_pos h]
  have u1:onK s m i (4*c+1)↔((4*c+1:Nat):Int)∈strK s m i:=by unfold onK;rw [if_pos o1]
  rw [if_neg (no _ o3),ho]
  by_cases A:((4*c+2:Nat):Int)∈strK s m j<;>by_cases B:((4*c+1:Nat):Int)∈strK s m i<;>by_cases C:((4*c+2:Nat):Int)∈strK s m i<;>by_cases D:((4*c+1:Nat):Int)∈strK s m j<;>
   simp only [A,B,C,D,k1,u1,u2,and_true,true_and,and_false,false_and,if_true,if_false] at d1 d2⊢ <;>omega
 ·have o1:outB s ((4*c+1:Nat):Int)=false:=by rw [a1,h];rfl
  have o3:outB s ((4*c+3:Nat):Int)=true:=by rw [a3,h];rfl
  have ho:ovH s c=4*c+3:=by unfold ovH;rw [if_neg (by omega)]
  have u3:onK s m i (4*c+3)↔((4*c+3:Nat):Int)∈strK s m i:=by unfold onK;rw [if_pos o3]
  rw [if_neg (no _ o1),ho]
  by_cases A:((4*c+2:Nat):Int)∈strK s m j<;>by_cases B:((4*c+3:Nat):Int)∈strK s m i<;>by_cases C:((4*c+2:Nat):Int)∈strK s m i<;>by_cases D:((4*c+3:Nat):Int)∈strK s m j<;>
   simp only [A,B,C,D,←k0,u3,u2,and_true,true_and,and_false,false_and,if_true,if_false] at d3 d2⊢ <;>omega
end
end Go.Proofs.YtcnilhcplgiidaaDoor
namespace Go.Proofs.YtcnilhcplgiidaaDoor
set_option linter.unusedSimpArgs false
set_option linter.unusedVariables false
section
variable {s m:List Int} {L:Int} {un ov:Nat->Bool}
end
structure AtK (s m:List Int) (K:Nat) (u o:Nat->Nat):Prop where
 ul: ∀c,c<s.length->u c<K
 ol: ∀c,c<s.length->o c<K
 um: ∀c,c<s.length->((4*c+2:Nat):Int)∈strK s m (u c)
 om: ∀c,c<s.length->((ovH s c:Nat):Int)∈strK s m (o c)
def twK (s:List Int) (u o:Nat->Nat) (i j:Nat) (n:Nat):Int:=sm (fun c=>if u c=i/\o c=j\/u c=j/\o c=i then s.getD c 0 else 0) n
section
variable {s m:List Int} {L:Int} {u o:Nat->Nat}
theorem ymb (hv:yaj s m L=true) (ha:AtK s m (yae s m).length u o) {c:Nat} (hc:c<s.length) (k:Nat) (hk:k<(yae s m).length):(((4*c+2:Nat):Int)∈strK s m k↔u c=k)/\(((ovH s c:Nat):Int)∈strK s m k↔o c=k):=by
 have v:=yat hv
 refine ⟨⟨fun h=>yc9 v (ha.ul c hc) hk (ha.um c hc) h,fun h=>?_⟩,fun h=>yc9 v (ha.ol c hc) hk (ha.om c hc) h,fun h=>?_⟩
 ·rw [←h];exact ha.um c hc
 ·rw [←h];exact ha.om c hc
theorem ywl (hv:yaj s m L=true) (ha:AtK s m (yae s m).length u o) {i j:Nat} (hij:i≠j):twK s u o i j s.length % 2=0:=by
 have v:=yat hv
 by_cases hi:i<(yae s m).length
 ·by_cases hj:j<(yae s m).length
  ·rw [←yt1 hv hi hj hij]
   unfold twK
   refine yn7 fun c hc=>?_
   obtain ⟨a1,a2⟩:=ymb hv ha hc i hi
   obtain ⟨b1,b2⟩:=ymb hv ha hc j hj
   have hs:=v.sg c hc
   simp only [a1,a2,b1,b2]
   by_cases A:u c=i
   ·have C: ¬u c=j:=by omega
    by_cases B:o c=j
    ·rw [if_pos (.inl ⟨A,B⟩),if_neg fun h=>C h.1,if_pos ⟨A,B⟩];omega
    ·rw [if_neg fun h=>h.elim (fun x=>B x.2) fun x=>C x.1,if_neg fun h=>C h.1,if_neg fun h=>B h.2];rfl
   ·by_cases C:u c=j
    ·by_cases D:o c=i
     ·rw [if_pos (.inr ⟨C,D⟩),if_pos ⟨C,D⟩,if_neg fun h=>A h.1];omega
     ·rw [if_neg fun h=>h.elim (fun x=>A x.1) fun x=>D x.2,if_neg fun h=>D h.2,if_neg fun h=>A h.1];rfl
    ·rw [if_neg fun h=>h.elim (fun x=>A x.1) fun x=>C x.1,if_neg fun h=>C h.1,if_neg fun h=>A h.1];rfl
  ·have:twK s u o i j s.length=sm (fun _=>0) s.length:=ybz fun c hc=>by
    have:=ha.ul c hc
    have:=ha.ol c hc
    exact if_neg (by omega)
   rw [this,yd9];simp
 ·have:twK s u o i j s.length=sm (fun _=>0) s.length:=ybz fun c hc=>by
   have:=ha.ul c hc
   have:=ha.ol c hc
   exact if_neg (by omega)
  rw [this,yd9];simp
end
end Go.Proofs.YtcnilhcplgiidaaDoor
