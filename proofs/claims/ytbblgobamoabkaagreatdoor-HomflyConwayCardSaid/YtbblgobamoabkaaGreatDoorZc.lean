/- Operations with laws of their own: literals of maps and arrays, bytes to a string. -/
import Derived.Test.YtbblgobamoabkaaGreatDoorZb
import Derived.Laws.BytesString
import Derived.Test.YtbblgobamoabkaaGreatDoorPl
set_option linter.unusedSimpArgs false
set_option linter.unusedVariables false
namespace Go.Proofs.YtbblgobamoabkaaGreatDoor
open Go Go.RowKit
set_option linter.unusedVariables false
section
variable {P:Program} {N:Nat} {fr:Fr} {H:Hp} {K:Fr->Hp->Prop} {o:Oper}
theorem SpA.makeMap {t kt et:Nat} {r:Operand} {n:Int} (ho:o.op= .makeMap t (some r)) (hd:dok o.dst N=true) (htk:tk P t= .map kt et) (hr:evA fr r=I n) (h:K (fput fr o.dst (.mp (hnew H))) ((hnew H,mkM P t)::H)):SpA P N o K fr H:=by
 intro B w0 Mx w ρ a hs Q
 have er:=(hr▸hs.ev r).int_inv
 have hn:hget H (hnew H)=none:=yez (Nat.le_refl _)
 have hrun:(execOp a.eval o).run P w= .ok (.value (.map (some w.heap.size))) (w.alloc (.map #[] 0)):=by
  simp only [execOp,ho]
  simp [Instr.makeMap,run_underlying (ybq htk),asInt,asIntOf,newObj,Sem.run,er]
 have hs2:=hs.alloc (hnew H) hn (.map #[] 0) (mkM P t) fun M' ρ' D' hr _=>by
  rcases ynr P t with e|e|e|e|e|e<;>rw [e]
  ·exact ⟨by simp, #[],0,by rw [hr];exact ya5,rfl,by simp⟩
  ·exact ⟨[], #[],0,by rw [hr];exact ya5,rfl,fun _=>rfl⟩
  ·exact ⟨[], #[],0,by rw [hr];exact ya5,rfl,fun _=>rfl⟩
  ·exact ⟨#[],by rw [hr];exact ya5,rfl,fun j e q he=>by simp at he⟩
  ·exact ⟨#[],by rw [hr];exact ya5,rfl,fun j e q he=>by simp at he⟩
  ·exact ⟨[], #[],0,by rw [hr];exact ya5,rfl,fun _=>rfl⟩
 refine Oper.wp_value hrun ⟨_,_,_,h,hs2.put hd ?_⟩
 have:=VR.mp (w:=w.alloc (.map #[] 0)) (M:=MM Mx ((hnew H,mkM P t)::H) (upd ρ (hnew H) ⟨w.heap.size,0,none⟩)) (ρ:=upd ρ (hnew H) ⟨w.heap.size,0,none⟩) (D:=DD ((hnew H,mkM P t)::H)) (hnew H) ygb
 rwa [yaz] at this
theorem SpL.ofX {ops:Array Oper} {r:List Oper} (hc:cvOk P o.op=true) (hq:quF P H (evA fr) o.op=none) (ha:alF P (hnew H) (evA fr) o.op=none) (hx:awX P N o fr H fun fr' H'=>awL P N ops r fr' H' K):SpL P N ops fr H K o r:=⟨awO.of hc hq ha hx⟩
theorem SpL.nextG {ops:Array Oper} {r:List Oper} {x:Operand} {iid mid since last t ck:Nat} {seen:List Nat} {l:List (ByteArray×Nat×AV)} (ho:o.op= .next x false) (hd:dok o.dst N=true) (hx:evA fr x= .ptr iid 0) (hi:hget H iid=some (.iter mid since seen last)) (hm:hget H mid=some (.gmap t ck l))
  (hb: ∀q∈l,q.2.1<since) (hsl:since<=last) (h1:(∀q∈l,q.2.1∈seen)->awL P N ops r (fput fr o.dst (.tup [.bool false])) H K)
  (h2: ∀q∈l,q.2.1∉seen->awL P N ops r (fput fr o.dst (.tup [.bool true,gkA t q.1,q.2.2])) (hset H iid (.iter mid since (seen++[q.2.1]) ck)) K):SpL P N ops fr H K o r:=by
 refine SpL.ofX ?_ ?_ ?_ ?_
 ·rw [ho];rfl
 ·rw [ho];rfl
 ·rw [ho];rfl
 ·unfold awX;rw [ho];exact ⟨rfl,SpA.nextG (K:=fun fr' H'=>awL P N ops r fr' H' K) ho hd hx hi hm hb hsl h1 h2⟩
theorem SpL.range {ops:Array Oper} {r:List Oper} {x:Operand} {xt kt et mid t ck:Nat} {l:List (ByteArray×Nat×AV)} (ho:o.op= .range xt x) (hd:dok o.dst N=true) (htk:tk P xt= .map kt et) (hx:evA fr x= .mp mid) (hm:hget H mid=some (.gmap t ck l))
  (h:awL P N ops r (fput fr o.dst (.ptr (hnew H) 0)) ((hnew H, .iter mid ck [] ck)::H) K):SpL P N ops fr H K o r:=by
 refine SpL.ofX ?_ ?_ ?_ ?_
 ·rw [ho];rfl
 ·rw [ho];rfl
 ·rw [ho];rfl
 ·unfold awX;rw [ho];exact ⟨rfl,SpA.range (K:=fun fr' H'=>awL P N ops r fr' H' K) ho hd htk hx hm h⟩
theorem SpL.makeMap {ops:Array Oper} {r:List Oper} {t kt et:Nat} {x:Operand} {n:Int} (ho:o.op= .makeMap t (some x)) (hd:dok o.dst N=true) (htk:tk P t= .map kt et) (hr:evA fr x=I n) (h:awL P N ops r (fput fr o.dst (.mp (hnew H))) ((hnew H,mkM P t)::H) K):SpL P N ops fr H K o r:=by
 refine SpL.ofX ?_ ?_ ?_ ?_
 ·rw [ho];rfl
 ·rw [ho];rfl
 ·rw [ho];rfl
 ·unfold awX;rw [ho];exact ⟨rfl,SpA.makeMap (K:=fun fr' H'=>awL P N ops r fr' H' K) ho hd htk hr h⟩
end
end Go.Proofs.YtbblgobamoabkaaGreatDoor
set_option linter.unusedSimpArgs false
set_option linter.unusedVariables false
namespace Go.Proofs.YtbblgobamoabkaaGreatDoor
def fitB (v l:Int):Bool:=decide (-l<=v)&&decide (v<=l)
def yev (p:List (Int×Int)):Prop:= ∀t∈p,-1125899906842624<=t.2/\t.2<=1125899906842624
def mrg (f:Int->Int->Int) (p q:List (Int×Int)):List (Int×Int):=match p,q with
 |[],[]=>[]
 |(e,a)::p,[]=>(e,f a 0)::mrg f p []
 |[],(e,b)::q=>(e,f 0 b)::mrg f [] q
 |(e,a)::p,(e',b)::q=>if e<e' then (e,f a 0)::mrg f p ((e',b)::q) else if e'<e then (e',f 0 b)::mrg f ((e,a)::p) q else (e,f a b)::mrg f p q
termination_by p.length+q.length
def ycd (l:List (Int×Int)):Bool:=l.all fun t=>fitB t.2 1125899906842624
def nz (l:List (Int×Int)):List (Int×Int):=l.filter fun t=>t.2 !=0
def addF (a b:Int):Int:=a+b
def negF (_ b:Int):Int:= -b
def shP (k:Int) (p:List (Int×Int)):List (Int×Int):=p.map fun t=>(t.1+k,t.2)
def mrgN (f:Int->Int->Int):Nat->List (Int×Int)->List (Int×Int)->List (Int×Int)
 |0,_,_=>[]
 |n+1,p,q=>match p,q with
  |[],[]=>[]
  |(e,a)::p,[]=>(e,f a 0)::mrgN f n p []
  |[],(e,b)::q=>(e,f 0 b)::mrgN f n [] q
  |(e,a)::p,(e',b)::q=>if e<e' then (e,f a 0)::mrgN f n p ((e',b)::q) else if e'<e then (e',f 0 b)::mrgN f n ((e,a)::p) q else (e,f a b)::mrgN f n p q
theorem yc0 (f:Int->Int->Int): ∀(n:Nat) (p q:List (Int×Int)),p.length+q.length<=n->mrgN f n p q=mrg f p q
 |0,p,q,h=>by
  obtain rfl:p=[]:=List.length_eq_zero_iff.1 (by omega)
  obtain rfl:q=[]:=List.length_eq_zero_iff.1 (by omega)
  simp [mrgN,mrg]
 |n+1,[],[],_=>by simp [mrgN,mrg]
 |n+1,(e,a)::p,[],h=>by
  simp only [List.length_cons,List.length_nil] at h
  simp only [mrgN];unfold mrg;rw [yc0 f n p [] (by simp;omega)]
 |n+1,[],(e,b)::q,h=>by
  simp only [List.length_cons,List.length_nil] at h
  simp only [mrgN];unfold mrg;rw [yc0 f n [] q (by simp;omega)]
 |n+1,(e,a)::p,(e',b)::q,h=>by
  simp only [List.length_cons] at h
  simp only [mrgN];unfold mrg
  rw [yc0 f n p ((e',b)::q) (by simp;omega),yc0 f n ((e,a)::p) q (by simp;omega),yc0 f n p q (by omega)]
def pgB (p:List (Int×Int)):Bool:=(p.all fun t=>fitB t.1 1048575&&fitB t.2 1125899906842624)&&decide (p.length<=500000)&&(match p with|a::b::_=>decide (a.1<=b.1)|_=>true)
theorem yuz {p:List (Int×Int)} (h:pgB p=true):yev p:=fun t ht=>by
 simp only [pgB,Bool.and_eq_true,List.all_eq_true] at h
 have:=(h.1.1 t ht).2
 simp only [fitB,Bool.and_eq_true,decide_eq_true_eq] at this
 omega
theorem y2q {p:List (Int×Int)} (h:pgB p=true): ∀t∈p,-1048575<=t.1/\t.1<=1048575:=fun t ht=>by
 simp only [pgB,Bool.and_eq_true,List.all_eq_true] at h
 have:=(h.1.1 t ht).1
 simp only [fitB,Bool.and_eq_true,decide_eq_true_eq] at this
 omega
theorem yos {p:List (Int×Int)} (h:pgB p=true):p.length<=500000:=by
 simp only [pgB,Bool.and_eq_true,decide_eq_true_eq] at h;exact h.1.2
theorem y8e {p:List (Int×Int)} (h:pgB p=true):1<p.length->(p.getD 0 (0,0)).1<=(p.getD 1 (0,0)).1:=by
 simp only [pgB,Bool.and_eq_true] at h
 have h:=h.2
 match p,h with
 |[],_=>intro h;simp at h
 |[_],_=>intro h;simp at h
 |a::b::r,h=>intro _;simpa using h
def yff (neg:Bool) (p:List (Int×Int)):List (Int×Int):=if neg then nz (mrgN negF p.length [] p) else p
def yl2 (q p:List (Int×Int)):List (Int×Int):=mrgN addF (q.length+p.length) q p
def rsM:Nat->List Int->List Int->Int->Option (List (Int×Int))
 |0,_,_,_=>none
 |n+1,s,m,L=>if 0<L/\0<s.length then some [] else if L<=62 then (if yap s m L then (match badO s m with
   |some c=>match rsM n (smS s c.toNat) (smM s m c.toNat) (smLp s m c.toNat L),rsM n (swS s c.toNat) (swM s m c.toNat) L with
    |some p,some q=>if pgB p&&pgB (shP 1 p)&&ycd (mrgN negF (shP 1 p).length [] (shP 1 p))&&pgB (yff (decide (s.getD c.toNat 0<0)) (shP 1 p))&&pgB q&&ycd (yl2 q (yff (decide (s.getD c.toNat 0<0)) (shP 1 p))) then some (nz (yl2 q (yff (decide (s.getD c.toNat 0<0)) (shP 1 p)))) else none
    |_,_=>none
   |none=>if ((yaj s m).length:Int)+L=1 then some [(0,1)] else some []) else some []) else none
def pz2 (q:List (Int×Int)) (low e c:Int):Nat->List Int->List Int
 |0,zs=>zs
 |j+1,zs=>(pz2 q low e c j zs).set (e+(q.getD j (0,0)).1-low).toNat ((pz2 q low e c j zs).getD (e+(q.getD j (0,0)).1-low).toNat 0+c*(q.getD j (0,0)).2)
def pz1 (p q:List (Int×Int)) (low:Int):Nat->List Int->List Int
 |0,zs=>zs
 |i+1,zs=>pz2 q low (p.getD i (0,0)).1 (p.getD i (0,0)).2 q.length (pz1 p q low i zs)
theorem yjq (q:List (Int×Int)) (low e c:Int): ∀j zs,(pz2 q low e c j zs).length=zs.length
 |0,zs=>rfl
 |j+1,zs=>by simp only [pz2,List.length_set];exact yjq q low e c j zs
theorem yhh (p q:List (Int×Int)) (low:Int): ∀i zs,(pz1 p q low i zs).length=zs.length
 |0,zs=>rfl
 |i+1,zs=>by simp only [pz1];rw [yjq,yhh]
def tmI:Int->List Int->List (Int×Int)
 |_,[]=>[]
 |e,c::r=>if c=0 then tmI (e+1) r else (e,c)::tmI (e+1) r
theorem ypu: ∀(e:Int) (l:List Int) (c:Int),tmI e (l++[c])=tmI e l++(if c=0 then [] else [(e+l.length,c)])
 |e,[],c=>by simp only [List.nil_append,tmI,List.length_nil];split<;>simp
 |e,x::l,c=>by
  have:=ypu (e+1) l c
  simp only [List.cons_append,tmI,this,List.length_cons]
  have h:e+1+(l.length:Int)=e+((l.length+1:Nat):Int):=by omega
  rw [h]
  split<;>split<;>simp
theorem ysp: ∀(e:Int) (l:List Int),(tmI e l).length<=l.length
 |_,[]=>Nat.le_refl _
 |e,c::r=>by
  have:=ysp (e+1) r
  simp only [tmI];split<;>simp only [List.length_cons]<;>omega
abbrev lowE (p:List (Int×Int)):Int:=(p.getD 0 (0,0)).1
abbrev yb8 (p:List (Int×Int)):Int:=(p.getD (p.length-1) (0,0)).1
def mulZ (p q:List (Int×Int)):List Int:=pz1 p q (lowE p+lowE q) p.length (List.replicate (yb8 p+yb8 q-(lowE p+lowE q)+1).toNat 0)
end Go.Proofs.YtbblgobamoabkaaGreatDoor
