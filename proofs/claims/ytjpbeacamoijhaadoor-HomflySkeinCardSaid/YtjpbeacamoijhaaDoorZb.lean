/- Walks through maps whose keys are strings, in every order. -/
import Derived.Test.YtjpbeacamoijhaaDoorGc
import Derived.Laws.IdiomRangeMap
import Derived.Laws.BytesString
import Derived.Test.YtjpbeacamoijhaaDoorPl
import Derived.Test.YtjpbeacamoijhaaDoorZa
set_option linter.unusedSimpArgs false
set_option linter.unusedVariables false
namespace Go.Proofs.YtjpbeacamoijhaaDoor
open Go Go.RowKit
set_option linter.unusedVariables false
section
variable {P:Program} {B:Nat} {w0:ybr} {Mx:Nat->Prop} {N:Nat} {fr:Fr} {H:Hp}
theorem awO.of {o:Oper} {K:Fr->Hp->Prop} (hc:cvOk P o.op=true) (hq:quF P H (evA fr) o.op=none) (ha:alF P (hnew H) (evA fr) o.op=none) (hx:awX P N o fr H K):awO P N o fr H K:=by
 unfold awO
 rw [hq,ha]
 exact ⟨hc,hx⟩
theorem Oper.wp_value {o:Oper} {a:Act} {w w':World} {v:Value} {K:Act->World->Prop} {Q:Exit->Act->World->Prop} (h:(execOp a.eval o).run P w= .ok (.value v) w') (hk:K (a.put o.dst v) w'):o.wp P a w K Q:=by
 unfold Oper.wp;rw [h];exact hk
theorem yte {w:World} {ty:TypeId} {r bm since c0:Nat} {seen:List Nat} {es:Array MapEntry} {clock:Nat} (hr:w.heap[r]?=some (.mapIter (some bm) since seen.toArray c0)) (hb:w.heap[bm]?=some (.map es clock)) (hold: ∀x∈es.toList,x.born<since) (hsc:since<=c0) (ad:Addr) (had:ad.block=r/\ad.off=0):
  ((∀x∈es.toList,x.born∈seen)/\(Instr.next (.pointer (some ad)) false ty).run P w= .ok (.tuple #[.bool false]) w)\/
  ∃(j:Nat) (e:MapEntry) (w1:World),es[j]?=some e/\e.born∉seen/\(w1=w\/w1={w with drawn:=w.drawn+1})/\(Instr.next (.pointer (some ad)) false ty).run P w= .ok (.tuple #[.bool true,e.key,e.val]) {w1 with heap:=w1.heap.setIfInBounds r (.mapIter (some bm) since (seen++[e.born]).toArray clock)}:=by
 obtain ⟨ab,ao,asp⟩:=ad
 obtain ⟨rfl,rfl⟩:=had
 simp only [Instr.next,getObj,Sem.run_bind,Sem.run,hr,hb,Result.andThen,next_test_false seen.toArray es since c0 hold hsc,Bool.false_eq_true,if_false]
 have hmem: ∀x∈(Array.filter (fun e=> !seen.toArray.contains e.born) es).toList,x∈es.toList/\x.born∉seen:=fun x hx=>by simp at hx⊢;exact hx
 have hall:(Array.filter (fun e=> !seen.toArray.contains e.born) es)= #[]-> ∀x∈es.toList,x.born∈seen:=fun h x hx=>by
  rw [Array.filter_eq_empty_iff] at h
  have:=h x (by simpa using hx)
  simpa using this
 generalize Array.filter (fun e=> !seen.toArray.contains e.born) es=L at hmem hall⊢
 have e1:L.filter (fun x=>decide (x.born<since))=L:=Array.filter_eq_self.2 (fun x hx=>by simpa using hold x (hmem x (by simpa using hx)).1)
 have e2:L.filter (fun x=>decide (x.born≥since))= #[]:=by
  rw [Array.filter_eq_empty_iff]
  intro x hx
  have:=hold x (hmem x (by simpa using hx)).1
  simp
  omega
 simp only [e1,e2,Array.append_empty]
 by_cases h0:L.size=0
 ·left
  have:L= #[]:=Array.eq_empty_of_size_eq_zero h0
  refine ⟨hall this,?_⟩
  subst this
  simp [choose,Sem.run,Question.forced]
 ·right
  have hne:L.isEmpty=false:=by simp [Array.isEmpty,h0]
  simp only [hne,Bool.false_eq_true,if_false,Array.empty_append,Array.size_map]
  have hch: ∃(j:Nat) (w1:World),j<L.size/\(w1=w\/w1={w with drawn:=w.drawn+1})/\(if (Question.mapNext L.size).forced=true then (Result.ok 0 w:Result Nat) else Result.ok ((Question.mapNext L.size).cut (w.tape w.drawn (Question.mapNext L.size))) w.drew)= .ok j w1:=by
   by_cases hf:L.size<=1
   ·exact ⟨0,w,by omega, .inl rfl,by simp [Question.forced,hf]⟩
   ·refine ⟨_,w.drew,?_, .inr rfl,by rw [if_neg (by simp [Question.forced,hf])]⟩
    simp only [Question.cut]
    exact Nat.mod_lt _ (by omega)
  obtain ⟨j,w1,hj,hw1,hrun⟩:=hch
  obtain ⟨m1,m2⟩:=hmem L[j] (by simp)
  obtain ⟨i,hi,hie⟩:=List.mem_iff_getElem.1 m1
  refine ⟨i,L[j],w1,?_,m2,hw1,?_⟩
  ·rw [←hie];simp at hi⊢
  ·have hb1:w1.heap[ab]?=some (.mapIter (some bm) since seen.toArray c0):=by rcases hw1 with rfl|rfl<;>exact hr
   simp only [choose,Sem.run]
   by_cases hf:(Question.mapNext L.size).forced=true
   ·rw [if_pos hf] at hrun⊢
    injection hrun with q1 q2
    subst q1 q2
    simp [hj,setObj,Sem.run,hb1]
   ·rw [if_neg hf] at hrun⊢
    injection hrun with q1 q2
    subst q2
    simp only [q1]
    simp [hj,setObj,Sem.run,hb1]
theorem SpA.nextG {o:Oper} {x:Operand} {iid mid since last t ck:Nat} {seen:List Nat} {l:List (ByteArray×Nat×AV)} {K:Fr->Hp->Prop} (ho:o.op= .next x false) (hd:dok o.dst N=true) (hx:evA fr x= .ptr iid 0) (hi:hget H iid=some (.iter mid since seen last)) (hm:hget H mid=some (.gmap t ck l))
  (hb: ∀q∈l,q.2.1<since) (hsl:since<=last) (h1:(∀q∈l,q.2.1∈seen)->K (fput fr o.dst (.tup [.bool false])) H)
  (h2: ∀q∈l,q.2.1∉seen->K (fput fr o.dst (.tup [.bool true,gkA t q.1,q.2.2])) (hset H iid (.iter mid since (seen++[q.2.1]) ck))):SpA P N o K fr H:=by
 intro B w0 Mx w ρ a hs Q
 obtain ⟨i1,i2,i3⟩:=hs.objs iid _ hi
 obtain ⟨es,g1,g2,g3⟩:=hs.objs mid _ hm
 have ex:=(hx▸hs.ev x).ptr_inv.1
 have ead:(ρ iid).add 0=ρ iid:=rfl
 rw [ead] at ex
 have hold: ∀e∈es.toList,e.born<since:=fun e he=>by
  obtain ⟨j,hj,rfl⟩:=List.mem_iff_getElem.1 he
  have hj2:j<l.length:=by rw [←g2];simpa using hj
  obtain ⟨_,k2,_⟩:=g3 j _ l[j] (Array.getElem?_eq_getElem (by simpa using hj)) (List.getElem?_eq_getElem hj2)
  show (es[j]'(by simpa using hj)).born<since
  rw [k2];exact hb _ (List.getElem_mem hj2)
 have hrun0:(execOp a.eval o).run P w=((Instr.next (.pointer (some (ρ iid))) false o.type).run P w).andThen fun v w'=> .ok (.value v) w':=by
  simp only [execOp,ho,ex];simp
 rcases yte (P:=P) (ty:=o.type) i3 g1 hold hsl (ρ iid) ⟨rfl,i2⟩ with ⟨k1,k2⟩|⟨j,e,w1,k1,k2,k3,k4⟩
 ·refine Oper.wp_value (by rw [hrun0,k2];rfl) ⟨ρ,_,H,h1 fun q hq=>?_,hs.put hd (.tup [.bool false] [.bool false] rfl fun i v x hv hx=>?_)⟩
  ·obtain ⟨j,hj,rfl⟩:=List.mem_iff_getElem.1 hq
   have hj2:j<es.size:=by omega
   obtain ⟨_,q2,_⟩:=g3 j es[j] l[j] (by simp [hj2]) (List.getElem?_eq_getElem hj)
   rw [←q2];exact k1 _ (by simp)
  ·match i,hv,hx with
   |0,hv,hx=>cases hv;cases hx;exact .bool _
 ·have hj:j<es.size:=(Array.getElem?_eq_some_iff.1 k1).1
  have hj2:j<l.length:=by omega
  obtain ⟨q1,q2,q3⟩:=g3 j e l[j] k1 (List.getElem?_eq_getElem hj2)
  have hs1:Sim B w0 Mx N w1 ρ fr H a:=by
   rcases k3 with rfl|rfl
   ·exact hs
   ·exact hs.draw
  have i3':w1.heap[(ρ iid).block]?=some (.mapIter (some (ρ mid).block) since seen.toArray last):=by rcases k3 with rfl|rfl<;>exact i3
  have hs2:=hs1.chgO (b2:= .mapIter (some (ρ mid).block) since (seen++[e.born]).toArray ck) (o2:= .iter mid since (seen++[e.born]) ck) hi rfl rfl i3' (fun _ _=>by simp) fun M' hc=>⟨(yfg hi mid).2 i1,i2,by simp [yar i3']⟩
  have hq3:VR w1 (MM Mx H ρ) ρ (DD H) e.val (l[j]).2.2:=by
   rcases k3 with rfl|rfl
   ·exact q3
   ·exact q3.carry (w':={w with drawn:=w.drawn+1}) (Nat.le_refl _) (fun _ _ hm=>⟨rfl,hm⟩) (fun id hd=>⟨hd,rfl,fun arr t ha=>⟨arr,ha,rfl⟩⟩)
  have hval:VR {w1 with heap:=w1.heap.setIfInBounds (ρ iid).block (.mapIter (some (ρ mid).block) since (seen++[e.born]).toArray ck)} (MM Mx (hset H iid (.iter mid since (seen++[e.born]) ck)) ρ) ρ (DD (hset H iid (.iter mid since (seen++[e.born]) ck))) e.val (l[j]).2.2:=by
   refine hq3.carry (by simp) (fun b hb hm=>?_) (fun i hi'=>⟨(yfg hi i).2 hi',rfl,fun ar tt har=>?_⟩)
   ·have hne:b≠(ρ iid).block:=fun e'=>hm (.inr ⟨iid,_,hi,rfl,e'.symm⟩)
    exact ⟨by show (w1.heap.setIfInBounds _ _)[b]?=_;rw [Array.getElem?_setIfInBounds_ne (Ne.symm hne)],fun hh=>hm ((yho (o':= .iter mid since (seen++[e.born]) ck) hi rfl b).1 hh)⟩
   ·by_cases e':(ρ i).block=(ρ iid).block
    ·rw [e'] at har;rw [i3'] at har;cases har
    ·exact ⟨ar,by show (w1.heap.setIfInBounds _ _)[(ρ i).block]?=_;rw [Array.getElem?_setIfInBounds_ne (Ne.symm e')];exact har,rfl⟩
  refine Oper.wp_value (by rw [hrun0,k4];rfl) ⟨ρ,_,_,?_,hs2.put hd (.tup [.bool true,e.key,e.val] [.bool true,gkA t (l[j]).1,(l[j]).2.2] rfl fun i v x hv hx=>?_)⟩
  ·have:=h2 l[j] (List.getElem_mem hj2) (by rw [←q2];exact k2)
   rw [←q2] at this
   exact this
  ·match i,hv,hx with
   |0,hv,hx=>cases hv;cases hx;exact .bool _
   |1,hv,hx=>cases hv;cases hx;exact yw3 q1
   |2,hv,hx=>cases hv;cases hx;exact hval
theorem SpA.next {o:Oper} {x:Operand} {iid mid since last t ck:Nat} {seen:List Nat} {l:List (ByteArray×Nat×AV)} {K:Fr->Hp->Prop} (ho:o.op= .next x false) (hd:dok o.dst N=true) (hx:evA fr x= .ptr iid 0) (hi:hget H iid=some (.iter mid since seen last)) (hm:hget H mid=some (.gmap t ck l))
  (hb: ∀q∈l,q.2.1<since) (hsl:since<=last) (h1:(∀q∈l,q.2.1∈seen)->K (fput fr o.dst (.tup [.bool false])) H)
  (h2: ∀q∈l,q.2.1∉seen->K (fput fr o.dst (.tup [.bool true, .str q.1,q.2.2])) (hset H iid (.iter mid since (seen++[q.2.1]) ck))) (ht:t<1000000000):SpA P N o K fr H:=
 SpA.nextG ho hd hx hi hm hb hsl h1 fun q hq hs=>by unfold gkA;rw [if_pos ht];exact h2 q hq hs
theorem VR.mp_D {w:World} {M:Nat->Prop} {ρ:Nat->Addr} {D:Nat->Prop} {v:Value} {id:Nat} (h:VR w M ρ D v (.mp id)):D id:=by cases h;assumption
theorem SpA.range {o:Oper} {x:Operand} {xt kt et mid t ck:Nat} {l:List (ByteArray×Nat×AV)} {K:Fr->Hp->Prop} (ho:o.op= .range xt x) (hd:dok o.dst N=true) (htk:tk P xt= .map kt et) (hx:evA fr x= .mp mid) (hm:hget H mid=some (.gmap t ck l))
  (h:K (fput fr o.dst (.ptr (hnew H) 0)) ((hnew H, .iter mid ck [] ck)::H)):SpA P N o K fr H:=by
 intro B w0 Mx w ρ a hs Q
 obtain ⟨es,g1,g2,g3⟩:=hs.objs mid _ hm
 have ex:=(hx▸hs.ev x).mp_inv
 have hn:hget H (hnew H)=none:=yff (Nat.le_refl _)
 have hmn:mid≠hnew H:=fun e=>by rw [←e,hm] at hn;cases hn
 have hs2:=hs.alloc (hnew H) hn (.mapIter (some (ρ mid).block) ck #[] ck) (.iter mid ck [] ck) fun M' ρ' D' hr hc=>by
  have h0:=hc (D:=DD H) (fun _ h=>h) (VR.mp (w:=w) (M:=MM Mx H ρ) (ρ:=ρ) mid ⟨_,hm⟩)
  have h1:=h0.mp_inv
  simp only [Value.map.injEq,Option.some.injEq] at h1
  exact ⟨h0.mp_D,by rw [hr],by rw [hr,←h1];exact ya6⟩
 ·refine Oper.wp_value (v:= .pointer (some ⟨w.heap.size,0,none⟩)) (w':=w.alloc (.mapIter (some (ρ mid).block) ck #[] ck)) ?_ ⟨_,_,_,h,hs2.put hd ?_⟩
  ·simp only [execOp,ho,ex]
   simp [Instr.range,run_underlying (ybx htk),getObj,Sem.run,g1,newObj]
  ·have:=VR.ptr (w:=w.alloc (.mapIter (some (ρ mid).block) ck #[] ck)) (M:=MM Mx ((hnew H, .iter mid ck [] ck)::H) (upd ρ (hnew H) ⟨w.heap.size,0,none⟩)) (ρ:=upd ρ (hnew H) ⟨w.heap.size,0,none⟩) (D:=DD ((hnew H,AObj.iter mid ck [] ck)::H)) (hnew H) 0 ygr
   rwa [yac] at this
end
end Go.Proofs.YtjpbeacamoijhaaDoor
set_option linter.unusedSimpArgs false
set_option linter.unusedVariables false
namespace Go.Proofs.YtjpbeacamoijhaaDoor
open Go Go.RowKit
set_option linter.unusedVariables false
section
variable {P:Program} {N:Nat} {fr:Fr} {H:Hp} {K:Fr->Hp->Prop} {o:Oper}
theorem SpA.makeMap {t kt et:Nat} {r:Operand} {n:Int} (ho:o.op= .makeMap t (some r)) (hd:dok o.dst N=true) (htk:tk P t= .map kt et) (hr:evA fr r=I n) (h:K (fput fr o.dst (.mp (hnew H))) ((hnew H,mkM P t)::H)):SpA P N o K fr H:=by
 intro B w0 Mx w ρ a hs Q
 have er:=(hr▸hs.ev r).int_inv
 have hn:hget H (hnew H)=none:=yff (Nat.le_refl _)
 have hrun:(execOp a.eval o).run P w= .ok (.value (.map (some w.heap.size))) (w.alloc (.map #[] 0)):=by
  simp only [execOp,ho]
  simp [Instr.makeMap,run_underlying (ybx htk),asInt,asIntOf,newObj,Sem.run,er]
 have hs2:=hs.alloc (hnew H) hn (.map #[] 0) (mkM P t) fun M' ρ' D' hr _=>by
  rcases yoo P t with e|e|e|e|e|e<;>rw [e]
  ·exact ⟨by simp, #[],0,by rw [hr];exact ya6,rfl,by simp⟩
  ·exact ⟨[], #[],0,by rw [hr];exact ya6,rfl,fun _=>rfl⟩
  ·exact ⟨[], #[],0,by rw [hr];exact ya6,rfl,fun _=>rfl⟩
  ·exact ⟨#[],by rw [hr];exact ya6,rfl,fun j e q he=>by simp at he⟩
  ·exact ⟨#[],by rw [hr];exact ya6,rfl,fun j e q he=>by simp at he⟩
  ·exact ⟨[], #[],0,by rw [hr];exact ya6,rfl,fun _=>rfl⟩
 refine Oper.wp_value hrun ⟨_,_,_,h,hs2.put hd ?_⟩
 have:=VR.mp (w:=w.alloc (.map #[] 0)) (M:=MM Mx ((hnew H,mkM P t)::H) (upd ρ (hnew H) ⟨w.heap.size,0,none⟩)) (ρ:=upd ρ (hnew H) ⟨w.heap.size,0,none⟩) (D:=DD ((hnew H,mkM P t)::H)) (hnew H) ygr
 rwa [yac] at this
theorem SpL.ofX {ops:Array Oper} {r:List Oper} (hc:cvOk P o.op=true) (hq:quF P H (evA fr) o.op=none) (ha:alF P (hnew H) (evA fr) o.op=none) (hx:awX P N o fr H fun fr' H'=>awL P N ops r fr' H' K):SpL P N ops fr H K o r:=⟨awO.of hc hq ha hx⟩
theorem SpL.nextG {ops:Array Oper} {r:List Oper} {x:Operand} {iid mid since last t ck:Nat} {seen:List Nat} {l:List (ByteArray×Nat×AV)} (ho:o.op= .next x false) (hd:dok o.dst N=true) (hx:evA fr x= .ptr iid 0) (hi:hget H iid=some (.iter mid since seen last)) (hm:hget H mid=some (.gmap t ck l))
  (hb: ∀q∈l,q.2.1<since) (hsl:since<=last) (h1:(∀q∈l,q.2.1∈seen)->awL P N ops r (fput fr o.dst (.tup [.bool false])) H K)
  (h2: ∀q∈l,q.2.1∉seen->awL P N ops r (fput fr o.dst (.tup [.bool true,gkA t q.1,q.2.2])) (hset H iid (.iter mid since (seen++[q.2.1]) ck)) K):SpL P N ops fr H K o r:=by
 refine SpL.ofX ?_ ?_ ?_ ?_
 ·rw [ho];rfl
 ·rw [ho];rfl
 ·rw [ho];rfl
 ·unfold awX;rw [ho];exact ⟨rfl,SpA.nextG (K:=fun fr' H'=>awL P N ops r fr' H' K) ho hd hx hi hm hb hsl h1 h2⟩
theorem SpL.range {ops:Array Oper} {r:List Oper} {x:Operand} {xt kt et mid t ck:Nat} {l:List (ByteArray×Nat×AV)} (ho:o.op= .range xt x) (hd:dok o.dst N=true) (htk:tk P xt= .map kt et) (hx:evA fr x= .mp mid) (hm:hget H mid=some (.gmap t ck l))
  (h:awL P N ops r (fput fr o.dst (.ptr (hnew H) 0)) ((hnew H, .iter mid ck [] ck)::H) K):SpL P N ops fr H K o r:=by
 refine SpL.ofX ?_ ?_ ?_ ?_
 ·rw [ho];rfl
 ·rw [ho];rfl
 ·rw [ho];rfl
 ·unfold awX;rw [ho];exact ⟨rfl,SpA.range (K:=fun fr' H'=>awL P N ops r fr' H' K) ho hd htk hx hm h⟩
theorem SpL.makeMap {ops:Array Oper} {r:List Oper} {t kt et:Nat} {x:Operand} {n:Int} (ho:o.op= .makeMap t (some x)) (hd:dok o.dst N=true) (htk:tk P t= .map kt et) (hr:evA fr x=I n) (h:awL P N ops r (fput fr o.dst (.mp (hnew H))) ((hnew H,mkM P t)::H) K):SpL P N ops fr H K o r:=by
 refine SpL.ofX ?_ ?_ ?_ ?_
 ·rw [ho];rfl
 ·rw [ho];rfl
 ·rw [ho];rfl
 ·unfold awX;rw [ho];exact ⟨rfl,SpA.makeMap (K:=fun fr' H'=>awL P N ops r fr' H' K) ho hd htk hr h⟩
end
end Go.Proofs.YtjpbeacamoijhaaDoor
set_option linter.unusedSimpArgs false
set_option linter.unusedVariables false
namespace Go.Proofs.YtjpbeacamoijhaaDoor
def nz (l:List (Int×Int)):List (Int×Int):=l.filter fun t=>t.2 !=0
def tmI:Int->List Int->List (Int×Int)
 |_,[]=>[]
 |e,c::r=>if c=0 then tmI (e+1) r else (e,c)::tmI (e+1) r
end Go.Proofs.YtjpbeacamoijhaaDoor
set_option linter.unusedSimpArgs false
set_option linter.unusedVariables false
namespace Go.Proofs.YtjpbeacamoijhaaDoor
def cfL:List (Int×Int)->Int->Int
 |[],_=>0
 |t::p,e=>(if t.1=e then t.2 else 0)+cfL p e
structure AscN (p:List (Int×Int)):Prop where
 asc:p.Pairwise fun a b=>a.1<b.1
 nz: ∀t∈p,t.2≠0
theorem ykt (p q:List (Int×Int)) (e:Int):cfL (p++q) e=cfL p e+cfL q e:=by
 induction p with
 |nil=>simp [cfL]
 |cons t p ih=>simp only [List.cons_append,cfL,ih];omega
theorem yrn {p:List (Int×Int)} {e:Int} (h: ∀t∈p,t.1≠e):cfL p e=0:=by
 induction p with
 |nil=>rfl
 |cons t p ih=>
  simp only [cfL]
  rw [if_neg (h t (List.mem_cons_self ..)),ih fun u hu=>h u (List.mem_cons_of_mem _ hu)];rfl
theorem AscN.tail {t:Int×Int} {p:List (Int×Int)} (h:AscN (t::p)):AscN p:=⟨(List.pairwise_cons.1 h.asc).2,fun u hu=>h.nz u (List.mem_cons_of_mem _ hu)⟩
theorem AscN.head {t:Int×Int} {p:List (Int×Int)} (h:AscN (t::p)): ∀u∈p,t.1<u.1:=(List.pairwise_cons.1 h.asc).1
theorem AscN.nil:AscN []:=⟨.nil,fun _ h=>by cases h⟩
theorem yhz {p:List (Int×Int)} (h:AscN p) {t:Int×Int} (ht:t∈p):cfL p t.1=t.2:=by
 induction p with
 |nil=>cases ht
 |cons u p ih=>
  simp only [cfL]
  rcases List.mem_cons.1 ht with rfl|ht
  ·rw [if_pos rfl,yrn fun v hv=>by have:=h.head v hv;omega];omega
  ·rw [if_neg (by have:=h.head t ht;omega),ih h.tail ht];omega
theorem yy4 {p:List (Int×Int)} {e:Int} (h:cfL p e≠0): ∃t∈p,t.1=e:=by
 induction p with
 |nil=>exact absurd rfl h
 |cons t p ih=>
  by_cases ht:t.1=e
  ·exact ⟨t,List.mem_cons_self ..,ht⟩
  ·simp only [cfL,if_neg ht,Int.zero_add] at h
   obtain ⟨u,hu,e2⟩:=ih h
   exact ⟨u,List.mem_cons_of_mem _ hu,e2⟩
theorem AscN.ext: ∀{p q:List (Int×Int)},AscN p->AscN q->(∀e,cfL p e=cfL q e)->p=q
 |[],[],_,_,_=>rfl
 |[],t::q,_,hq,h=>by
  have:=h t.1
  rw [yhz hq (List.mem_cons_self ..)] at this
  exact absurd this.symm (hq.nz t (List.mem_cons_self ..))
 |t::p,[],hp,_,h=>by
  have:=h t.1
  rw [yhz hp (List.mem_cons_self ..)] at this
  exact absurd this (hp.nz t (List.mem_cons_self ..))
 |t::p,u::q,hp,hq,h=>by
  have m1:cfL (t::p) t.1=t.2:=yhz hp (List.mem_cons_self ..)
  have m2:cfL (u::q) u.1=u.2:=yhz hq (List.mem_cons_self ..)
  have n1:=hp.nz t (List.mem_cons_self ..)
  have n2:=hq.nz u (List.mem_cons_self ..)
  have e1:t.1=u.1:=by
   obtain ⟨v,hv,ev⟩:=yy4 (p:=u::q) (e:=t.1) (by rw [←h,m1];exact n1)
   obtain ⟨w,hw,ew⟩:=yy4 (p:=t::p) (e:=u.1) (by rw [h,m2];exact n2)
   rcases List.mem_cons.1 hv with rfl|hv
   ·exact ev.symm
   ·rcases List.mem_cons.1 hw with rfl|hw
    ·exact ew
    ·have:=hq.head v hv
     have:=hp.head w hw
     omega
  have e2:t.2=u.2:=by rw [←m1,←m2,h,e1]
  have et:t=u:=Prod.ext e1 e2
  subst et
  rw [AscN.ext hp.tail hq.tail fun e=>by have:=h e;simp only [cfL] at this;omega]
theorem yui: ∀(e:Int) (l:List Int),∀t∈tmI e l,e<=t.1/\t.1<e+l.length
 |_,[],t,ht=>by cases ht
 |e,c::r,t,ht=>by
  simp only [tmI] at ht
  have key:t∈tmI (e+1) r->e<=t.1/\t.1<e+(c::r).length:=fun h=>by
   have:=yui (e+1) r t h
   simp only [List.length_cons];omega
  split at ht
  ·exact key ht
  ·rcases List.mem_cons.1 ht with rfl|ht
   ·simp only [List.length_cons];omega
   ·exact key ht
theorem yuj: ∀(e:Int) (l:List Int),AscN (tmI e l)
 |_,[]=> .nil
 |e,c::r=>by
  have ih:=yuj (e+1) r
  simp only [tmI]
  split
  ·exact ih
  ·rename_i h
   refine ⟨List.pairwise_cons.2 ⟨fun u hu=>by have:=yui (e+1) r u hu;show e<u.1;omega,ih.asc⟩,fun u hu=>?_⟩
   rcases List.mem_cons.1 hu with rfl|hu
   ·exact h
   ·exact ih.nz u hu
theorem yuk: ∀(e:Int) (l:List Int) (x:Int),cfL (tmI e l) x=if e<=x then l.getD (x-e).toNat 0 else 0
 |e,[],x=>by simp [tmI,cfL]
 |e,c::r,x=>by
  have ih:=yuk (e+1) r x
  by_cases hx:e=x
  ·subst hx
   rw [if_neg (by omega)] at ih
   simp only [tmI]
   split
   ·rename_i h;rw [ih,if_pos (Int.le_refl _)];simp [h]
   ·simp only [cfL,ih];simp
  ·have k:cfL (tmI e (c::r)) x=cfL (tmI (e+1) r) x:=by
    simp only [tmI]
    split
    ·rfl
    ·simp only [cfL];rw [if_neg hx];omega
   rw [k,ih]
   by_cases hl:e+1<=x
   ·rw [if_pos hl,if_pos (by omega)]
    obtain ⟨d,hd⟩: ∃d:Nat,x=e+1+d:=⟨(x-e-1).toNat,by omega⟩
    rw [hd,show (e+1+(d:Int)-e).toNat=d+1 by omega,show (e+1+(d:Int)-(e+1)).toNat=d by omega,List.getD_cons_succ]
   ·rw [if_neg hl,if_neg (by omega)]
theorem y70 (l:List (Int×Int)) (e:Int):cfL (nz l) e=cfL l e:=by
 induction l with
 |nil=>rfl
 |cons t l ih=>
  unfold nz at ih⊢
  by_cases h:t.2=0
  ·rw [List.filter_cons_of_neg (by simp [h]),ih];simp only [cfL,h];split<;>omega
  ·rw [List.filter_cons_of_pos (by simp [h])];simp only [cfL,ih]
theorem y71 {l:List (Int×Int)} (h:l.Pairwise fun a b=>a.1<b.1):AscN (nz l):=by
 refine ⟨List.Pairwise.filter _ h,fun t ht=>?_⟩
 have:=(List.mem_filter.1 ht).2
 simpa using this
def cvL (p:List (Int×Int)) (g:Int->Int) (e:Int):Int:=match p with
 |[]=>0
 |t::p=>t.2*g (e-t.1)+cvL p g e
theorem yo8 (l:List Int) (i j:Nat) (v:Int) (hi:i<l.length):(l.set i v).getD j 0=if i=j then v else l.getD j 0:=by
 by_cases h:i=j
 ·subst h;simp [hi]
 ·rw [if_neg h];simp [List.getD_eq_getElem?_getD,List.getElem?_set_ne h]
theorem yn4 {p:List (Int×Int)} {i:Nat} (hi:i<p.length):p.getD i (0,0)∈p:=by
 simp [List.getD_eq_getElem?_getD,List.getElem?_eq_getElem hi]
end Go.Proofs.YtjpbeacamoijhaaDoor
namespace Go.Proofs.YtjpbeacamoijhaaDoor
set_option linter.unusedSimpArgs false
set_option linter.unusedVariables false
def bvE (a z:Int):Int:=a*16777216+z
def bvZ (e:Int):Int:=(e+8388608)% 16777216-8388608
def bvA (e:Int):Int:=(e-bvZ e)/16777216
theorem ybk {a z:Int} (h: -8388608<=z/\z<8388608):bvZ (bvE a z)=z:=by unfold bvZ bvE;omega
theorem ycu {a z:Int} (h: -8388608<=z/\z<8388608):bvA (bvE a z)=a:=by unfold bvA;rw [ybk h];unfold bvE;omega
theorem ycf (e:Int):bvE (bvA e) (bvZ e)=e:=by unfold bvA bvE bvZ;omega
theorem yku (e:Int): -8388608<=bvZ e/\bvZ e<8388608:=by unfold bvZ;omega
theorem y72 {a z a' z':Int} (h: -8388608<=z/\z<8388608) (h': -8388608<=z'/\z'<8388608):bvE a z<bvE a' z'↔a<a'\/a=a'/\z<z':=by unfold bvE;omega
theorem y36 (e e':Int):e<e'↔bvA e<bvA e'\/bvA e=bvA e'/\bvZ e<bvZ e':=by
 have:=y72 (yku e) (yku e') (a:=bvA e) (a':=bvA e')
 rwa [ycf,ycf] at this
theorem yn5 (a z a' z':Int):bvE a z+bvE a' z'=bvE (a+a') (z+z'):=by unfold bvE;omega
def bvOk (e:Int):Prop:=(-1048576<=bvA e/\bvA e<=1048576)/\ -1048576<=bvZ e/\bvZ e<=1048576
theorem yul {e e':Int} (h:bvOk e) (h':bvOk e'):bvA (e+e')=bvA e+bvA e'/\bvZ (e+e')=bvZ e+bvZ e':=by
 have h1:=yn5 (bvA e) (bvZ e) (bvA e') (bvZ e')
 rw [ycf,ycf] at h1
 unfold bvOk at h h'
 rw [h1,ycu (by omega),ybk (by omega)]
 exact ⟨rfl,rfl⟩
end Go.Proofs.YtjpbeacamoijhaaDoor
namespace Go.Proofs.YtjpbeacamoijhaaDoor
open Go Go.RowKit
set_option maxRecDepth 100000
set_option maxHeartbeats 8000000
set_option linter.unusedVariables false
set_option linter.unusedSimpArgs false
theorem yb4 (v l:Int) (h0:0<=l) (h1:l<=4611686018427387904):Fn Tryd.prog 26 [I v,I l] (.bool (decide (-l<=v)&&decide (v<=l))):=by
 obtain ⟨b1,e1⟩: ∃b,decide (-l<=v)=b:=⟨_,rfl⟩
 obtain ⟨b2,e2⟩: ∃b,decide (v<=l)=b:=⟨_,rfl⟩
 rw [e1,e2]
 have e3:decide (0-l<=v)=b1:=by rw [←e1];exact decide_eq_decide.2 (by omega)
 refine Fn.intro [.tmp 4] Tryd.func26 rfl rfl (by decide) (by simp [Tryd.ntmps26]) ?_;rw [Tryd.ntmps26]
 cases b1<;>cases b2
 all_goals (repeat' (first|omega|(try apply yaa);simp only [go_sem,sevalprocAttr,e3,e2]|apply yab<;>(intro h_;(try simp only [h_]);revert h_)|apply And.intro|with_reducible intro h_|trivial|simp only [go_sem,la2];omega))
def cmpZ (x y:Int):Int:=if x<y then-1 else if y<x then 1 else 0
theorem yy5 (v:Int) (hv:InI v):yjc v 33554431=v % 33554432:=by
 unfold yjc
 have h1:(BitVec.ofInt 64 v&&&BitVec.ofInt 64 33554431).toNat=(v % 33554432).toNat:=by
  rw [BitVec.toNat_and]
  have e2:(BitVec.ofInt 64 33554431).toNat=2^25-1:=by decide
  have e1:(BitVec.ofInt 64 v).toNat=(v % 18446744073709551616).toNat:=by rw [BitVec.toNat_ofInt];rfl
  rw [e2,Nat.and_two_pow_sub_one_eq_mod,e1]
  omega
 rw [h1,yp6 (by unfold InI;omega)]
 omega
theorem ygi (h l v:Int) (hh: -4611686018427387904<=h/\h<=4611686018427387904) (hl:0<=l/\l<=4611686018427387904) (hv:InI v):Fn Tryd.prog 47 [.agg [I h,I l],I v] (.agg [I (h+v/33554432),I (l+v % 33554432)]):=by
 have hv2:=yy5 v hv
 unfold InI at hv
 refine Fn.intro [.cell 4 84] Tryd.func47 rfl rfl (by decide) (by simp [Tryd.ntmps47]) ?_;rw [Tryd.ntmps47]
 repeat' (first|omega|(try apply yaa);simp only [go_sem,sevalprocAttr,hv2]|apply yab<;>(intro h_;(try simp only [h_]);revert h_)|apply And.intro|with_reducible intro h_|trivial|simp only [go_sem,la2];omega)
end Go.Proofs.YtjpbeacamoijhaaDoor
