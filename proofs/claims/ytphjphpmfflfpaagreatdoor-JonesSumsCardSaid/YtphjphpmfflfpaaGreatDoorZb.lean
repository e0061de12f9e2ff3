/- Walks through maps whose keys are strings, in every order. -/
import Derived.Test.YtphjphpmfflfpaaGreatDoorGc
import Derived.Laws.IdiomRangeMap
import Derived.Laws.BytesString
import Derived.Test.YtphjphpmfflfpaaGreatDoorPl
import Derived.Test.YtphjphpmfflfpaaGreatDoorTy
import Derived.Test.YtphjphpmfflfpaaGreatDoorZa
set_option linter.unusedSimpArgs false
set_option linter.unusedVariables false
namespace Go.Proofs.YtphjphpmfflfpaaGreatDoor
open Go Go.RowKit
section
variable {P:Program} {B:Nat} {w0:ja} {Mx:Nat->Prop} {N:Nat} {fr:Fr} {H:Hp}
theorem awO.of {o:Oper} {K:Fr->Hp->Prop} (hc:cvOk P o.op=true) (hq:quF P H (evA fr) o.op=none) (ha:alF P (hnew H) (evA fr) o.op=none) (hx:awX P N o fr H K):awO P N o fr H K:=by
 unfold awO;rw [hq,ha];exact ⟨hc,hx⟩
theorem Oper.dh {o:Oper} {a:Act} {w w':World} {v:Value} {K:Act->World->Prop} {Q:Exit->Act->World->Prop} (h:(execOp a.eval o).run P w= .ok (.value v) w') (hk:K (a.put o.dst v) w'):o.wp P a w K Q:=by
 unfold Oper.wp;rw [h];exact hk
theorem Yo {w:World} {ty:TypeId} {r bm since c0:Nat} {seen:List Nat} {es:Array MapEntry} {clock:Nat} (hr:w.heap[r]?=some (.mapIter (some bm) since seen.toArray c0)) (hb:w.heap[bm]?=some (.map es clock)) (hold: ∀x∈es.toList,x.born<since) (jg:since<=c0) (ad:Addr) (had:ad.block=r/\ad.off=0):
  ((∀x∈es.toList,x.born∈seen)/\(Instr.next (.pointer (some ad)) false ty).run P w= .ok (.tuple #[.bool false]) w)\/
  ∃(j:Nat) (e:MapEntry) (w1:World),es[j]?=some e/\e.born∉seen/\(w1=w\/w1={w with drawn:=w.drawn+1})/\(Instr.next (.pointer (some ad)) false ty).run P w= .ok (.tuple #[.bool true,e.key,e.val]) {w1 with heap:=w1.heap.setIfInBounds r (.mapIter (some bm) since (seen++[e.born]).toArray clock)}:=by
 obtain ⟨ab,ao,asp⟩:=ad;obtain ⟨rfl,rfl⟩:=had;simp only [Instr.next,getObj,Sem.run_bind,Sem.run,hr,hb,Result.andThen,next_test_false seen.toArray es since c0 hold jg,Bool.false_eq_true,if_false];have gT: ∀x∈(Array.filter (fun e=> !seen.toArray.contains e.born) es).toList,x∈es.toList/\x.born∉seen:=fun x hx=>by simp at hx⊢;exact hx
 have cE:(Array.filter (fun e=> !seen.toArray.contains e.born) es)= #[]-> ∀x∈es.toList,x.born∈seen:=fun h x hx=>by
  rw [Array.filter_eq_empty_iff] at h
  have:=h x (by simpa using hx)
  simpa using this
 generalize Array.filter (fun e=> !seen.toArray.contains e.born) es=L at gT cE⊢;have e1:L.filter (fun x=>decide (x.born<since))=L:=Array.filter_eq_self.2 (fun x hx=>by simpa using hold x (gT x (by simpa using hx)).1);have e2:L.filter (fun x=>decide (x.born≥since))= #[]:=by
  rw [Array.filter_eq_empty_iff];intro x hx
  have:=hold x (gT x (by simpa using hx)).1
  simp;omega
 simp only [e1,e2,Array.append_empty];by_cases h0:L.size=0
 ·left
  have:L= #[]:=Array.eq_empty_of_size_eq_zero h0
  refine ⟨cE this,?_⟩;subst this;simp [choose,Sem.run,Question.forced]
 ·right;have az:L.isEmpty=false:=by simp [Array.isEmpty,h0]
  simp only [az,Bool.false_eq_true,if_false,Array.empty_append,Array.size_map];have nW: ∃(j:Nat) (w1:World),j<L.size/\(w1=w\/w1={w with drawn:=w.drawn+1})/\(if (Question.mapNext L.size).forced=true then (Result.ok 0 w:Result Nat) else Result.ok ((Question.mapNext L.size).cut (w.tape w.drawn (Question.mapNext L.size))) w.drew)= .ok j w1:=by
   by_cases hf:L.size<=1
   ·exact ⟨0,w,by omega, .inl rfl,by simp [Question.forced,hf]⟩
   ·refine ⟨_,w.drew,?_, .inr rfl,by rw [if_neg (by simp [Question.forced,hf])]⟩;simp only [Question.cut];exact Nat.mod_lt _ (by omega)
  obtain ⟨j,w1,hj,mj,aQ⟩:=nW;obtain ⟨m1,m2⟩:=gT L[j] (by simp);obtain ⟨i,hi,Xu⟩:=List.mem_iff_getElem.1 m1;refine ⟨i,L[j],w1,?_,m2,mj,?_⟩
  ·rw [←Xu];simp at hi⊢
  ·have gZ:w1.heap[ab]?=some (.mapIter (some bm) since seen.toArray c0):=by rcases mj with rfl|rfl<;>exact hr
   simp only [choose,Sem.run];by_cases hf:(Question.mapNext L.size).forced=true
   ·rw [if_pos hf] at aQ⊢;injection aQ with q1 q2;subst q1 q2;simp [hj,setObj,Sem.run,gZ]
   ·rw [if_neg hf] at aQ⊢;injection aQ with q1 q2;subst q2;simp only [q1];simp [hj,setObj,Sem.run,gZ]
theorem mJ.next {o:Oper} {x:Operand} {iid mid since last t ck:Nat} {seen:List Nat} {l:List (ByteArray×Nat×AV)} {K:Fr->Hp->Prop} (ho:o.op= .next x false) (hd:dok o.dst N=true) (hx:evA fr x= .ptr iid 0) (hi:hget H iid=some (.iter mid since seen last)) (hm:hget H mid=some (.gmap t ck l))
  (hb: ∀q∈l,q.2.1<since) (cL:since<=last) (h1:(∀q∈l,q.2.1∈seen)->K (fput fr o.dst (.tup [.bool false])) H)
  (h2: ∀q∈l,q.2.1∉seen->K (fput fr o.dst (.tup [.bool true, .str q.1,q.2.2])) (hset H iid (.iter mid since (seen++[q.2.1]) ck))):mJ P N o K fr H:=by
 intro B w0 Mx w ρ a hs Q;obtain ⟨i1,i2,i3⟩:=hs.objs iid _ hi;obtain ⟨es,g1,g2,g3⟩:=hs.objs mid _ hm;have ex:=(hx▸hs.ev x).ff.1;have FF:(ρ iid).add 0=ρ iid:=rfl;rw [FF] at ex;have hold: ∀e∈es.toList,e.born<since:=fun e he=>by
  obtain ⟨j,hj,rfl⟩:=List.mem_iff_getElem.1 he;have wN:j<l.length:=by rw [←g2];simpa using hj
  obtain ⟨_,k2,_⟩:=g3 j _ l[j] (Array.getElem?_eq_getElem (by simpa using hj)) (List.getElem?_eq_getElem wN);show (es[j]'(by simpa using hj)).born<since;rw [k2];exact hb _ (List.getElem_mem wN)
 have qK:(execOp a.eval o).run P w=((Instr.next (.pointer (some (ρ iid))) false o.type).run P w).andThen fun v w'=> .ok (.value v) w':=by
  simp only [execOp,ho,ex];simp
 rcases Yo (P:=P) (ty:=o.type) i3 g1 hold cL (ρ iid) ⟨rfl,i2⟩ with ⟨k1,k2⟩|⟨j,e,w1,k1,k2,k3,k4⟩
 ·refine Oper.dh (by rw [qK,k2];rfl) ⟨ρ,_,H,h1 fun q hq=>?_,hs.put hd (.tup [.bool false] [.bool false] rfl fun i v x hv hx=>?_)⟩
  ·obtain ⟨j,hj,rfl⟩:=List.mem_iff_getElem.1 hq;have wN:j<es.size:=by omega
   obtain ⟨_,q2,_⟩:=g3 j es[j] l[j] (by simp [wN]) (List.getElem?_eq_getElem hj);rw [←q2];exact k1 _ (by simp)
  ·match i,hv,hx with
   |0,hv,hx=>cases hv;cases hx;exact .bool _
 ·have hj:j<es.size:=(Array.getElem?_eq_some_iff.1 k1).1;have wN:j<l.length:=by omega
  obtain ⟨q1,q2,q3⟩:=g3 j e l[j] k1 (List.getElem?_eq_getElem wN);have rL:aK B w0 Mx N w1 ρ fr H a:=by
   rcases k3 with rfl|rfl
   ·exact hs
   ·exact hs.draw
  have Pa:w1.heap[(ρ iid).block]?=some (.mapIter (some (ρ mid).block) since seen.toArray last):=by rcases k3 with rfl|rfl<;>exact i3
  have iW:=rL.AG (b2:= .mapIter (some (ρ mid).block) since (seen++[e.born]).toArray ck) (o2:= .iter mid since (seen++[e.born]) ck) hi rfl rfl Pa (fun _ _=>by simp) fun M' hc=>⟨(zf hi mid).2 i1,i2,by simp [fG Pa]⟩;have hq3:VR w1 (MM Mx H ρ) ρ (DD H) e.val (l[j]).2.2:=by
   rcases k3 with rfl|rfl
   ·exact q3
   ·exact q3.carry (w':={w with drawn:=w.drawn+1}) (Nat.le_refl _) (fun _ _ hm=>⟨rfl,hm⟩) (fun id hd=>⟨hd,rfl,fun arr t ha=>⟨arr,ha,rfl⟩⟩)
  have hval:VR {w1 with heap:=w1.heap.setIfInBounds (ρ iid).block (.mapIter (some (ρ mid).block) since (seen++[e.born]).toArray ck)} (MM Mx (hset H iid (.iter mid since (seen++[e.born]) ck)) ρ) ρ (DD (hset H iid (.iter mid since (seen++[e.born]) ck))) e.val (l[j]).2.2:=by
   refine hq3.carry (by simp) (fun b hb hm=>?_) (fun i iy=>⟨(zf hi i).2 iy,rfl,fun ar tt fO=>?_⟩)
   ·have az:b≠(ρ iid).block:=fun e'=>hm (.inr ⟨iid,_,hi,rfl,e'.symm⟩);exact ⟨by show (w1.heap.setIfInBounds _ _)[b]?=_;rw [Array.getElem?_setIfInBounds_ne (Ne.symm az)],fun hh=>hm ((C9 (o':= .iter mid since (seen++[e.born]) ck) hi rfl b).1 hh)⟩
   ·by_cases e':(ρ i).block=(ρ iid).block
    ·rw [e'] at fO;rw [Pa] at fO;cases fO
    ·exact ⟨ar,by show (w1.heap.setIfInBounds _ _)[(ρ i).block]?=_;rw [Array.getElem?_setIfInBounds_ne (Ne.symm e')];exact fO,rfl⟩
  refine Oper.dh (by rw [qK,k4];rfl) ⟨ρ,_,_,?_,iW.put hd (.tup [.bool true,e.key,e.val] [.bool true, .str (l[j]).1,(l[j]).2.2] rfl fun i v x hv hx=>?_)⟩
  ·have:=h2 l[j] (List.getElem_mem wN) (by rw [←q2];exact k2)
   rw [←q2] at this;exact this
  ·match i,hv,hx with
   |0,hv,hx=>cases hv;cases hx;exact .bool _
   |1,hv,hx=>cases hv;cases hx;rw [q1];exact .str _
   |2,hv,hx=>cases hv;cases hx;exact hval
theorem VR.O8 {w:World} {M:Nat->Prop} {ρ:Nat->Addr} {D:Nat->Prop} {v:Value} {id:Nat} (h:VR w M ρ D v (.mp id)):D id:=by cases h;assumption
theorem mJ.range {o:Oper} {x:Operand} {xt kt et mid t ck:Nat} {l:List (ByteArray×Nat×AV)} {K:Fr->Hp->Prop} (ho:o.op= .range xt x) (hd:dok o.dst N=true) (dH:tk P xt= .map kt et) (hx:evA fr x= .mp mid) (hm:hget H mid=some (.gmap t ck l))
  (h:K (fput fr o.dst (.ptr (hnew H) 0)) ((hnew H, .iter mid ck [] ck)::H)):mJ P N o K fr H:=by
 intro B w0 Mx w ρ a hs Q;obtain ⟨es,g1,g2,g3⟩:=hs.objs mid _ hm;have ex:=(hx▸hs.ev x).fU;have hn:hget H (hnew H)=none:=BO (Nat.le_refl _);have Iu:mid≠hnew H:=fun e=>by rw [←e,hm] at hn;cases hn
 have iW:=hs.alloc (hnew H) hn (.mapIter (some (ρ mid).block) ck #[] ck) (.iter mid ck [] ck) fun M' ρ' D' hr hc=>by
  have h0:=hc (D:=DD H) (fun _ h=>h) (VR.mp (w:=w) (M:=MM Mx H ρ) (ρ:=ρ) mid ⟨_,hm⟩);have h1:=h0.fU;simp only [Value.map.injEq,Option.some.injEq] at h1;exact ⟨h0.O8,by rw [hr],by rw [hr,←h1];exact qv⟩
 ·refine Oper.dh (v:= .pointer (some ⟨w.heap.size,0,none⟩)) (w':=w.alloc (.mapIter (some (ρ mid).block) ck #[] ck)) ?_ ⟨_,_,_,h,iW.put hd ?_⟩
  ·simp only [execOp,ho,ex];simp [Instr.range,run_underlying (rj dH),getObj,Sem.run,g1,newObj]
  ·have:=VR.ptr (w:=w.alloc (.mapIter (some (ρ mid).block) ck #[] ck)) (M:=MM Mx ((hnew H, .iter mid ck [] ck)::H) (dt ρ (hnew H) ⟨w.heap.size,0,none⟩)) (ρ:=dt ρ (hnew H) ⟨w.heap.size,0,none⟩) (D:=DD ((hnew H,AObj.iter mid ck [] ck)::H)) (hnew H) 0 y5
   rwa [iD] at this
end
section
variable {P:Program} {N:Nat} {fr:Fr} {H:Hp} {K:Fr->Hp->Prop} {o:Oper}
theorem mJ.insert {t:Nat} {m k x:Operand} {id:Nat} {ob:AObj} (ho:o.op= .insert t m k x) (hd:dok o.dst N=true) (hs:muF P H t (evA fr m) (evA fr k) (evA fr x)=some (id,ob)) (h:K (fput fr o.dst .any) (hset H id ob)):mJ P N o K fr H:=by
 intro B w0 Mx w ρ a c7 Q;obtain ⟨w',aQ,iW⟩:=Ls (P:=P) c7 (c7.ev m) (c7.ev k) (c7.ev x) hs
 have:(execOp a.eval o).run P w= .ok .skip w':=by simp only [execOp,ho];simp [aQ]
 unfold Oper.wp;rw [this];exact ⟨_,_,_,h,iW.put hd (.any _)⟩
theorem mJ.makeMap {t kt et:Nat} {r:Operand} {n:Int} (ho:o.op= .makeMap t (some r)) (hd:dok o.dst N=true) (dH:tk P t= .map kt et) (hr:evA fr r=I n) (h:K (fput fr o.dst (.mp (hnew H))) ((hnew H,mkM P t)::H)):mJ P N o K fr H:=by
 intro B w0 Mx w ρ a hs Q;have er:=(hr▸hs.ev r).av;have hn:hget H (hnew H)=none:=BO (Nat.le_refl _);have aQ:(execOp a.eval o).run P w= .ok (.value (.map (some w.heap.size))) (w.alloc (.map #[] 0)):=by
  simp only [execOp,ho];simp [Instr.makeMap,run_underlying (rj dH),asInt,asIntOf,newObj,Sem.run,er]
 have iW:=hs.alloc (hnew H) hn (.map #[] 0) (mkM P t) fun M' ρ' D' hr _=>by
  rcases TE P t with e|e|e|e|e<;>rw [e]
  ·exact ⟨by simp, #[],0,by rw [hr];exact qv,rfl,by simp⟩
  ·exact ⟨[], #[],0,by rw [hr];exact qv,rfl,fun _=>rfl⟩
  ·exact ⟨[], #[],0,by rw [hr];exact qv,rfl,fun _=>rfl⟩
  ·exact ⟨#[],by rw [hr];exact qv,rfl,fun j e q he=>by simp at he⟩
  ·exact ⟨[], #[],0,by rw [hr];exact qv,rfl,fun _=>rfl⟩
 refine Oper.dh aQ ⟨_,_,_,h,iW.put hd ?_⟩
 have:=VR.mp (w:=w.alloc (.map #[] 0)) (M:=MM Mx ((hnew H,mkM P t)::H) (dt ρ (hnew H) ⟨w.heap.size,0,none⟩)) (ρ:=dt ρ (hnew H) ⟨w.heap.size,0,none⟩) (D:=DD ((hnew H,mkM P t)::H)) (hnew H) y5
 rwa [iD] at this
def pN (ts:List Int):ByteArray:=ts.foldl (fun r n=>r.push (UInt8.ofNat n.toNat)) ByteArray.empty
theorem mJ.QV {s d e:Nat} {x:Operand} {id t:Nat} {ts:List Int} (ho:o.op= .convert s d x) (hd:dok o.dst N=true) (hs:tk P s= .slice e) (he:tk P e= .int .u8) (ID:tk P d= .str) (hx:evA fr x= .sl 1 id 0 ts.length) (iN:hget H id=some (.cells t (.lst (ts.map (AV.int .u8)))))
  (h:K (fput fr o.dst (.str (pN ts))) H):mJ P N o K fr H:=by
 intro B w0 Mx w ρ a c7 Q;have hv:=c7.ev x;rw [hx] at hv;obtain ⟨h1,arr,h2,h3,h4⟩:=c7.objs id _ iN;simp only [Cs.len,List.length_map] at h3 h4;generalize Ex:a.eval x=v at hv;cases hv with
 |sl es id off len cap hdd hc bo t' ad ha hb hr=>
  have aQ:(execOp a.eval o).run P w= .ok (.value (.string (pN ts))) w:=by
   have Fg:=run_convert_bytes_string (P:=P) w s d e (some ad) ts.length cap (jb hs) (rm he) (s8 ID);have hl:(loadCells ad ts.length).run P w= .ok (ts.map (Value.int .u8)).toArray w:=by
    have fB: ∀j,j<ts.length->w.cell? (ad.add j)=some ((ts.map (Value.int .u8)).getD j undef):=fun j hj=>by
     have jO:0<cap:=by omega
     have e:=ha jO;rw [show (ρ id).add 0=ρ id from rfl] at e;subst e;obtain ⟨u,g1,g2⟩:=h4 j hj;rw [sB h1];have hu:u= .int .u8 (ts[j]):=by
      simp only [Cs.get,List.getD_eq_getElem?_getD,List.getElem?_map,List.getElem?_eq_getElem hj,Option.map_some,Option.getD_some] at g2;exact g2.av
     simp [World.cell?,h2,g1,hu,hj]
    have:=HX (P:=P) (w:=w) (a:=ad) (x:=fun j=>(ts.map (Value.int .u8)).getD j undef) ts.length 0 #[] (fun j _ hj=>fB j (by omega))
    simp only [loadCells,this];congr 1;apply Array.ext';apply List.ext_getElem?;intro i;by_cases hi:i<ts.length
    ·simp [hi]
    ·simp [hi]
   simp only [execOp,ho,Ex];rw [Sem.run_bind,Fg,run_bytesToString w ad ts.length cap ts hl];rfl
  exact Oper.dh aQ ⟨ρ,_,_,h,c7.put hd (.str _)⟩
theorem fb.xW {ops:Array Oper} {r:List Oper} (hc:cvOk P o.op=true) (hq:quF P H (evA fr) o.op=none) (ha:alF P (hnew H) (evA fr) o.op=none) (hx:awX P N o fr H fun fr' H'=>awL P N ops r fr' H' K):fb P N ops fr H K o r:=⟨awO.of hc hq ha hx⟩
theorem fb.QV {ops:Array Oper} {r:List Oper} {s d e:Nat} {x:Operand} {id t:Nat} {ts:List Int} (ho:o.op= .convert s d x) (hd:dok o.dst N=true) (hs:tk P s= .slice e) (he:tk P e= .int .u8) (ID:tk P d= .str) (hx:evA fr x= .sl 1 id 0 ts.length) (iN:hget H id=some (.cells t (.lst (ts.map (AV.int .u8)))))
  (h:awL P N ops r (fput fr o.dst (.str (pN ts))) H K):fb P N ops fr H K o r:=by
 refine fb.xW ?_ ?_ ?_ ?_
 ·rw [ho];simp only [cvOk,hs]
 ·rw [ho];simp only [quF,opF,yp7,ID,hx]
 ·rw [ho];rfl
 ·unfold awX;rw [ho];exact ⟨rfl,mJ.QV (K:=fun fr' H'=>awL P N ops r fr' H' K) ho hd hs he ID hx iN h⟩
theorem fb.next {ops:Array Oper} {r:List Oper} {x:Operand} {iid mid since last t ck:Nat} {seen:List Nat} {l:List (ByteArray×Nat×AV)} (ho:o.op= .next x false) (hd:dok o.dst N=true) (hx:evA fr x= .ptr iid 0) (hi:hget H iid=some (.iter mid since seen last)) (hm:hget H mid=some (.gmap t ck l))
  (hb: ∀q∈l,q.2.1<since) (cL:since<=last) (h1:(∀q∈l,q.2.1∈seen)->awL P N ops r (fput fr o.dst (.tup [.bool false])) H K)
  (h2: ∀q∈l,q.2.1∉seen->awL P N ops r (fput fr o.dst (.tup [.bool true, .str q.1,q.2.2])) (hset H iid (.iter mid since (seen++[q.2.1]) ck)) K):fb P N ops fr H K o r:=by
 refine fb.xW ?_ ?_ ?_ ?_
 ·rw [ho];rfl
 ·rw [ho];rfl
 ·rw [ho];rfl
 ·unfold awX;rw [ho];exact ⟨rfl,mJ.next (K:=fun fr' H'=>awL P N ops r fr' H' K) ho hd hx hi hm hb cL h1 h2⟩
theorem fb.range {ops:Array Oper} {r:List Oper} {x:Operand} {xt kt et mid t ck:Nat} {l:List (ByteArray×Nat×AV)} (ho:o.op= .range xt x) (hd:dok o.dst N=true) (dH:tk P xt= .map kt et) (hx:evA fr x= .mp mid) (hm:hget H mid=some (.gmap t ck l))
  (h:awL P N ops r (fput fr o.dst (.ptr (hnew H) 0)) ((hnew H, .iter mid ck [] ck)::H) K):fb P N ops fr H K o r:=by
 refine fb.xW ?_ ?_ ?_ ?_
 ·rw [ho];rfl
 ·rw [ho];rfl
 ·rw [ho];rfl
 ·unfold awX;rw [ho];exact ⟨rfl,mJ.range (K:=fun fr' H'=>awL P N ops r fr' H' K) ho hd dH hx hm h⟩
theorem fb.insert {ops:Array Oper} {r:List Oper} {t:Nat} {m k x:Operand} {id:Nat} {ob:AObj} (ho:o.op= .insert t m k x) (hd:dok o.dst N=true) (hs:muF P H t (evA fr m) (evA fr k) (evA fr x)=some (id,ob)) (h:awL P N ops r (fput fr o.dst .any) (hset H id ob) K):fb P N ops fr H K o r:=by
 refine fb.xW ?_ ?_ ?_ ?_
 ·rw [ho];rfl
 ·rw [ho];rfl
 ·rw [ho];rfl
 ·unfold awX;rw [ho];exact ⟨rfl,mJ.insert (K:=fun fr' H'=>awL P N ops r fr' H' K) ho hd hs h⟩
theorem fb.makeMap {ops:Array Oper} {r:List Oper} {t kt et:Nat} {x:Operand} {n:Int} (ho:o.op= .makeMap t (some x)) (hd:dok o.dst N=true) (dH:tk P t= .map kt et) (hr:evA fr x=I n) (h:awL P N ops r (fput fr o.dst (.mp (hnew H))) ((hnew H,mkM P t)::H) K):fb P N ops fr H K o r:=by
 refine fb.xW ?_ ?_ ?_ ?_
 ·rw [ho];rfl
 ·rw [ho];rfl
 ·rw [ho];rfl
 ·unfold awX;rw [ho];exact ⟨rfl,mJ.makeMap (K:=fun fr' H'=>awL P N ops r fr' H' K) ho hd dH hr h⟩
end
end Go.Proofs.YtphjphpmfflfpaaGreatDoor
namespace Go.Proofs.YtphjphpmfflfpaaGreatDoor
def gC (v l:Int):Bool:=decide (-l<=v)&&decide (v<=l)
def uE (p:List (Int×Int)):Prop:= ∀t∈p,-1125899906842624<=t.2/\t.2<=1125899906842624
def mrg (f:Int->Int->Int) (p q:List (Int×Int)):List (Int×Int):=match p,q with
 |[],[]=>[]
 |(e,a)::p,[]=>(e,f a 0)::mrg f p []
 |[],(e,b)::q=>(e,f 0 b)::mrg f [] q
 |(e,a)::p,(e',b)::q=>if e<e' then (e,f a 0)::mrg f p ((e',b)::q) else if e'<e then (e',f 0 b)::mrg f ((e,a)::p) q else (e,f a b)::mrg f p q
termination_by p.length+q.length
def pE (l:List (Int×Int)):Bool:=l.all fun t=>gC t.2 1125899906842624
def nz (l:List (Int×Int)):List (Int×Int):=l.filter fun t=>t.2 !=0
def nq (a b:Int):Int:=a+b
def mU (_ b:Int):Int:= -b
def im (k:Int) (p:List (Int×Int)):List (Int×Int):=p.map fun t=>(t.1+k,t.2)
def pz2 (q:List (Int×Int)) (low e c:Int):Nat->List Int->List Int
 |0,zs=>zs
 |j+1,zs=>(pz2 q low e c j zs).set (e+(q.getD j (0,0)).1-low).toNat ((pz2 q low e c j zs).getD (e+(q.getD j (0,0)).1-low).toNat 0+c*(q.getD j (0,0)).2)
def qC (p q:List (Int×Int)) (low:Int):Nat->List Int->List Int
 |0,zs=>zs
 |i+1,zs=>pz2 q low (p.getD i (0,0)).1 (p.getD i (0,0)).2 q.length (qC p q low i zs)
theorem GR (q:List (Int×Int)) (low e c:Int): ∀j zs,(pz2 q low e c j zs).length=zs.length
 |0,zs=>rfl
 |j+1,zs=>by simp only [pz2,List.length_set];exact GR q low e c j zs
theorem C6 (p q:List (Int×Int)) (low:Int): ∀i zs,(qC p q low i zs).length=zs.length
 |0,zs=>rfl
 |i+1,zs=>by simp only [qC];rw [GR,C6]
def tmI:Int->List Int->List (Int×Int)
 |_,[]=>[]
 |e,c::r=>if c=0 then tmI (e+1) r else (e,c)::tmI (e+1) r
theorem Hn: ∀(e:Int) (l:List Int) (c:Int),tmI e (l++[c])=tmI e l++(if c=0 then [] else [(e+l.length,c)])
 |e,[],c=>by simp only [List.nil_append,tmI,List.length_nil];split<;>simp
 |e,x::l,c=>by
  have:=Hn (e+1) l c
  simp only [List.cons_append,tmI,this,List.length_cons];have h:e+1+(l.length:Int)=e+((l.length+1:Nat):Int):=by omega
  rw [h]
  split<;>split<;>simp
theorem GQ: ∀(e:Int) (l:List Int),(tmI e l).length<=l.length
 |_,[]=>Nat.le_refl _
 |e,c::r=>by
  have:=GQ (e+1) r
  simp only [tmI];split<;>simp only [List.length_cons]<;>omega
abbrev aS (p:List (Int×Int)):Int:=(p.getD 0 (0,0)).1
abbrev fv (p:List (Int×Int)):Int:=(p.getD (p.length-1) (0,0)).1
def mW (p q:List (Int×Int)):List Int:=qC p q (aS p+aS q) p.length (List.replicate (fv p+fv q-(aS p+aS q)+1).toNat 0)
open Go Go.RowKit
theorem D5 {x:AV} (h:p1 x=true):p2 x=true:=by cases x<;>first|rfl|cases h
theorem D4 {x:AV} (h:p1 x=true):p3 x=true:=by cases x<;>first|rfl|cases h
theorem D3 {x:AV} (H:Hp) (h:p1 x=true):s1 H x=true:=by cases x<;>first|rfl|cases h
theorem D2 {x:AV} (H:Hp) (h:p1 x=true):s2 H x=true:=by cases x<;>first|rfl|cases h
theorem NW {x:AV} (H:Hp) (n:Nat) (h:p1 x=true):snap H (n+1) x=x:=by cases x<;>first|rfl|cases h
theorem Zq {x:AV} (H:Hp) (n:Nat) (h:p1 x=true):dr H (n+1) x:=by cases x<;>first|trivial|cases h
theorem MG {x:AV} (H:Hp) (n:Nat) (h:p1 x=true):bg H (n+1) x=x:=by cases x<;>first|rfl|cases h
theorem NV {x:AV} (H:Hp) (n:Nat) (h:p1 x=true):bx H (n+1) x:=by cases x<;>first|trivial|cases h
theorem D6 {x:AV} (id:Nat) (h:p1 x=true):n1 id x=true:=by cases x<;>first|rfl|cases h
section
variable {c:List AV} (h:c.all p1=true)
include h
theorem jZ:c.all p2=true:=List.all_eq_true.2 fun x hx=>D5 (List.all_eq_true.1 h x hx)
theorem iU:c.all p3=true:=List.all_eq_true.2 fun x hx=>D4 (List.all_eq_true.1 h x hx)
theorem jY (H:Hp):c.all (s1 H)=true:=List.all_eq_true.2 fun x hx=>D3 H (List.all_eq_true.1 h x hx)
theorem ib (H:Hp):c.all (s2 H)=true:=List.all_eq_true.2 fun x hx=>D2 H (List.all_eq_true.1 h x hx)
theorem jX (i:Nat):c.all (n1 i)=true:=List.all_eq_true.2 fun x hx=>D6 i (List.all_eq_true.1 h x hx)
theorem iE (H:Hp) (n:Nat):c.map (snap H (n+1))=c:=by
 conv=>rhs;rw [←List.map_id c]
 exact List.map_congr_left fun x hx=>NW H n (List.all_eq_true.1 h x hx)
theorem iC (H:Hp) (n:Nat):(∀x∈c,dr H (n+1) x)=True:=eq_true fun x hx=>Zq H n (List.all_eq_true.1 h x hx)
theorem ij (H:Hp) (n:Nat):c.map (bg H (n+1))=c:=by
 conv=>rhs;rw [←List.map_id c]
 exact List.map_congr_left fun x hx=>MG H n (List.all_eq_true.1 h x hx)
theorem ik (H:Hp) (n:Nat):(∀x∈c,bx H (n+1) x)=True:=eq_true fun x hx=>NV H n (List.all_eq_true.1 h x hx)
end
def swI (i j n:Nat):Nat:=if n=i then j else if n=j then i else n
theorem xk (i j n:Nat):swI i j (swI i j n)=n:=by
 unfold swI;by_cases h1:n=i
 ·rw [if_pos h1];by_cases h2:j=i
  ·rw [if_pos h2];omega
  ·rw [if_neg h2,if_pos rfl];omega
 ·rw [if_neg h1];by_cases h2:n=j
  ·rw [if_pos h2,if_pos rfl];omega
  ·rw [if_neg h2,if_neg h1,if_neg h2]
def swV (i j:Nat):Nat->AV->AV
 |0,x=>if p1 x then x else .any
 |n+1,x=>match x with
  | .sl es id off len=> .sl es (swI i j id) off len
  | .ptr id off=> .ptr (swI i j id) off
  | .mp id=> .mp (swI i j id)
  | .agg xs=> .agg (xs.map (swV i j n))
  | .tup xs=> .tup (xs.map (swV i j n))
  | .fn f xs=> .fn f (xs.map (swV i j n))
  |x=>x
def swO (i j:Nat):AObj->AObj
 | .cells t (.lst l)=> .cells t (.lst (l.map (swV i j 4)))
 | .imap t l=> .imap t (l.map fun q=>(q.1,swV i j 4 q.2))
 | .gmap t ck l=> .gmap t ck (l.map fun q=>(q.1,q.2.1,swV i j 4 q.2.2))
 | .iter m s sn la=> .iter (swI i j m) s sn la
 |o=>o
def swH (i j:Nat):Hp->Hp
 |[]=>[]
 |(k,o)::r=>(swI i j k,swO i j o)::swH i j r
def swF (i j:Nat):Fr->Fr
 |[]=>[]
 |(t,x)::r=>(t,swV i j 4 x)::swF i j r
theorem Hm (i j:Nat): ∀(H:Hp) (k:Nat),hget (swH i j H) (swI i j k)=(hget H k).map (swO i j)
 |[],k=>rfl
 |(n,o)::r,k=>by
  simp only [swH,hget];by_cases e:n=k
  ·subst e;simp
  ·have: ¬swI i j n=swI i j k:=fun h=>e (by have:=congrArg (swI i j) h;rwa [xk,xk] at this)
   rw [if_neg this,if_neg e];exact Hm i j r k
theorem Ti (i j:Nat) (H:Hp) (k:Nat):hget (swH i j H) k=(hget H (swI i j k)).map (swO i j):=by
 have:=Hm i j H (swI i j k);rwa [xk] at this
theorem K9 (i j:Nat): ∀(fr:Fr) (t:Nat),fget (swF i j fr) t=swV i j 4 (fget fr t)
 |[],t=>rfl
 |(s,x)::r,t=>by
  simp only [swF,fget]
  split
  ·rfl
  ·exact K9 i j r t
theorem Dp (i j:Nat) (o:AObj):(swO i j o).live=o.live:=by unfold swO;split<;>rfl
theorem xK {w:World} {M:Nat->Prop} {ρ ρ':Nat->Addr} {D D':Nat->Prop} {i j:Nat} (hD: ∀k,D k->D' (swI i j k)/\ρ' (swI i j k)=ρ k): ∀(n:Nat) (v:Value) (x:AV),VR w M ρ D v x->VR w M ρ' D' v (swV i j n x):=by
 intro n
 induction n with
 |zero=>
  intro v x hv;simp only [swV]
  split
  ·rename_i hp;exact hv.bG hp
  ·exact .any _
 |succ n ih=>
  intro v x hv;cases hv with
  |any v=>exact .any _
  |int k m=>exact .int _ _
  |bool b=>exact .bool _
  |str s=>exact .str _
  |nils=>exact .nils
  |mp id hd=>obtain ⟨h1,h2⟩:=hD id hd;simp only [swV];rw [←h2];exact .mp _ h1
  |ro es len c ad cap x hl hc he h0 hv=>exact VR.bG (VR.ro (D:=D) es len c ad cap x hl hc he h0 hv) rfl
  |rp c off b x hb hm hj hv=>exact VR.bG (VR.rp (D:=D) c off b x hb hm hj hv) rfl
  |ptr id off hd=>obtain ⟨h1,h2⟩:=hD id hd;simp only [swV];rw [←h2];exact .ptr _ _ h1
  |sl es id off len cap hd hc arr t ad ha hb hr=>
   obtain ⟨h1,h2⟩:=hD id hd;exact .sl es (swI i j id) off len cap h1 hc arr t ad (fun h=>by rw [h2];exact ha h) (by rw [h2];exact hb) (by rw [h2];exact hr)
  |agg vs xs hl hx=>
   simp only [swV];refine .agg vs _ (by simp [hl]) fun k u y hu hy=>?_;simp only [List.getElem?_map] at hy;obtain ⟨y',g1,rfl⟩:=Option.map_eq_some_iff.1 hy;exact ih u y' (hx k u y' hu g1)
  |tup vs xs hl hx=>
   simp only [swV];refine .tup vs _ (by simp [hl]) fun k u y hu hy=>?_;simp only [List.getElem?_map] at hy;obtain ⟨y',g1,rfl⟩:=Option.map_eq_some_iff.1 hy;exact ih u y' (hx k u y' hu g1)
  |fn f vs xs hl hx=>
   simp only [swV];refine .fn f vs _ (by simp [hl]) fun k u y hu hy=>?_;simp only [List.getElem?_map] at hy;obtain ⟨y',g1,rfl⟩:=Option.map_eq_some_iff.1 hy;exact ih u y' (hx k u y' hu g1)
theorem NT {w:World} {M:Nat->Prop} {ρ ρ':Nat->Addr} {D D':Nat->Prop} {i j:Nat} (hD: ∀k,D k->D' (swI i j k)/\ρ' (swI i j k)=ρ k) {k:Nat} {o:AObj} (hi:D k) (h:fa w M ρ D k o):fa w M ρ' D' (swI i j k) (swO i j o):=by
 have hr:=xK (w:=w) (M:=M) (ρ':=ρ') (D':=D') hD;have he:=(hD k hi).2;cases o with
 |gone=>trivial
 |cells t c=>
  obtain ⟨e1,arr,e2,e3,e4⟩:=h;cases c with
  |ints l=>exact ⟨by rw [he];exact e1,arr,by rw [he];exact e2,by rw [he];exact e3,fun j hj=>let ⟨u,hu,hx⟩:=e4 j hj;⟨u,by rw [he];exact hu,hx.bG rfl⟩⟩
  |bools l=>exact ⟨by rw [he];exact e1,arr,by rw [he];exact e2,by rw [he];exact e3,fun j hj=>let ⟨u,hu,hx⟩:=e4 j hj;⟨u,by rw [he];exact hu,hx.bG rfl⟩⟩
  |lst l=>
   refine ⟨by rw [he];exact e1,arr,by rw [he];exact e2,by rw [he];simpa [swO,Cs.len] using e3,fun n hj=>?_⟩;simp only [Cs.len,List.length_map] at hj;obtain ⟨u,hu,hx⟩:=e4 n hj;refine ⟨u,by rw [he];exact hu,?_⟩;simp only [Cs.get,List.getD_eq_getElem?_getD,List.getElem?_eq_getElem hj,Option.getD_some] at hx
   have:=hr 4 u _ hx
   simpa [Cs.get,hj] using this
 |fmap t c=>
  obtain ⟨k0,es,ck,k1,k2⟩:=h;exact ⟨k0,es,ck,by rw [he];exact k1,k2⟩
 |gmap t ck l=>
  obtain ⟨es,k1,k2,k3⟩:=h;refine ⟨es,by rw [he];exact k1,by simpa using k2,fun j e q h1 h2=>?_⟩;simp only [List.getElem?_map] at h2;obtain ⟨q',g1,g2⟩:=Option.map_eq_some_iff.1 h2;cases g2;obtain ⟨g3,g4,g5⟩:=k3 j e q' h1 g1;exact ⟨g3,g4,hr 4 _ _ g5⟩
 |iter mid s sn la=>
  obtain ⟨k1,k2,k3⟩:=h;obtain ⟨d1,d2⟩:=hD mid k1;exact ⟨d1,by rw [he];exact k2,by rw [he,d2];exact k3⟩
 |imap t l=>
  obtain ⟨k0,es,ck,k1,k2,k3⟩:=h;refine ⟨fun k x hx=>?_,es,ck,by rw [he];exact k1,by simpa using k2,fun j e k x h1 h2=>?_⟩
  ·obtain ⟨q,g1,g2⟩:=List.mem_map.1 hx;cases g2
   have:=k0 q.1 q.2 g1
   cases hq:q.2<;>rw [hq] at this<;>first|(cases this;done)|rfl
  simp only [List.getElem?_map] at h2;obtain ⟨q,g1,g2⟩:=Option.map_eq_some_iff.1 h2;cases g2;obtain ⟨g3,g4,g5⟩:=k3 j e q.1 q.2 h1 g1;exact ⟨g3,hr 4 _ _ g4,g5⟩
section
variable {B:Nat} {w0:ja} {Mx:Nat->Prop} {N:Nat} {w:World} {ρ:Nat->Addr} {fr:Fr} {H:Hp} {a:Act}
theorem aK.swap (h:aK B w0 Mx N w ρ fr H a) (i j:Nat):aK B w0 Mx N w (fun k=>ρ (swI i j k)) (swF i j fr) (swH i j H) a:=by
 have hg: ∀k o,hget (swH i j H) k=some o-> ∃o',hget H (swI i j k)=some o'/\o=swO i j o':=fun k o hk=>by
  rw [Ti] at hk;obtain ⟨o',h1,h2⟩:=Option.map_eq_some_iff.1 hk;exact ⟨o',h1,h2.symm⟩
 have hM:MM Mx (swH i j H) (fun k=>ρ (swI i j k))=MM Mx H ρ:=by
  funext b;apply propext;constructor
  ·rintro (g|⟨id,o,g1,g2,g3⟩)
   ·exact .inl g
   ·obtain ⟨o',k1,rfl⟩:=hg id o g1;exact .inr ⟨_,o',k1,by rw [Dp] at g2;exact g2,g3⟩
  ·rintro (g|⟨id,o,g1,g2,g3⟩)
   ·exact .inl g
   ·exact .inr ⟨swI i j id,swO i j o,by rw [Hm,g1];rfl,by rw [Dp];exact g2,by show (ρ (swI i j (swI i j id))).block=b;rw [xk];exact g3⟩
 have hD: ∀k,DD H k->DD (swH i j H) (swI i j k)/\(fun k=>ρ (swI i j k)) (swI i j k)=ρ k:=fun k ⟨o,ho⟩=>⟨⟨swO i j o,by rw [Hm,ho];rfl⟩,by show ρ (swI i j (swI i j k))=ρ k;rw [xk]⟩;refine ⟨h.below,h.hB,h.mx,fun id o ho hl=>?_,fun id o ho=>?_,fun id o bX o' ho hl vr rP e=>?_,fun t=>?_,h.defers,h.size⟩
 ·obtain ⟨o',k1,rfl⟩:=hg id o ho;exact h.own _ o' k1 (by rw [Dp] at hl;exact hl)
 ·obtain ⟨o',k1,rfl⟩:=hg id o ho
  have:=NT (w:=w) (M:=MM Mx H ρ) (ρ':=fun k=>ρ (swI i j k)) hD ⟨o',k1⟩ (h.objs _ o' k1)
  rw [xk] at this;rw [hM];exact this
 ·obtain ⟨q,k1,rfl⟩:=hg id o ho;obtain ⟨q',k1',rfl⟩:=hg bX o' vr
  have:=h.inj _ q _ q' k1 (by rw [Dp] at hl;exact hl) k1' (by rw [Dp] at rP;exact rP) e
  have:=congrArg (swI i j) this
  rwa [xk,xk] at this
 ·rw [hM,K9];exact xK hD 4 _ _ (h.frv t)
end
theorem Wk.swap (i j:Nat) (fr:Fr) (H:Hp):Wk fr H (swF i j fr) (swH i j H):=fun _ _ _ _ _ ρ _ hs=>⟨fun k=>ρ (swI i j k),hs.swap i j⟩
theorem Wk.zA (i j:Nat) {fr fr' fr1:Fr} {H H' H1:Hp} (e1:swF i j fr'=fr1) (e2:swH i j H'=H1) (e3:swF i j fr1=fr') (e4:swH i j H1=H') (hf:subF fr H1 fr1) (hh:subH H H1 H1):Wk fr H fr' H':=by
 have:=(Wk.sub hf hh).trans (Wk.swap i j fr1 H1)
 rwa [e3,e4] at this
attribute [go_sem] swI swV swO swH swF
set_option maxRecDepth 100000
set_option maxHeartbeats 4000000
def dw (p:List (Int×Int)):List AV:=p.flatMap fun t=>[I t.1,I t.2]
abbrev tmA (p:List (Int×Int)):AV:= .ro 2 p.length (.lst (dw p))
abbrev plA (b:Bool) (p:List (Int×Int)):AV:= .agg [.bool b,tmA p]
attribute [go_sem] tmA plA
theorem ybn (p:List (Int×Int)):(dw p).length=2*p.length:=by
 unfold dw;induction p with
 |nil=>rfl
 |cons x p ih=>simp [ih];omega
theorem l7 (p:List (Int×Int)) (i:Nat) (h:i<p.length):(dw p).getD (i*2) .any=I (p.getD i (0,0)).1:=by
 unfold dw;induction p generalizing i with
 |nil=>simp at h
 |cons x p ih=>
  cases i with
  |zero=>simp
  |succ i=>
   have:=ih i (by simpa using h)
   simp only [List.flatMap_cons,List.getD_cons_succ];rw [show (i+1)*2=i*2+1+1 by omega];simpa using this
theorem qt (p:List (Int×Int)) (i:Nat) (h:i<p.length):(dw p).getD (i*2+1) .any=I (p.getD i (0,0)).2:=by
 unfold dw;induction p generalizing i with
 |nil=>simp at h
 |cons x p ih=>
  cases i with
  |zero=>simp
  |succ i=>
   have:=ih i (by simpa using h)
   simp only [List.flatMap_cons,List.getD_cons_succ];rw [show (i+1)*2+1=i*2+1+1+1 by omega];simpa using this
theorem u9 (v l:Int) (h0:0<=l) (h1:l<=9000000000000000000):Fn Tryz.prog 94 [I v,I l] (.bool (gC v l)):=by
 unfold gC;refine Fn.intro [.tmp 4] Tryz.func94 rfl rfl (by decide) (by simp [Tryz.ntmps94]) ?_;rw [Tryz.ntmps94]
 repeat' (first|omega|(try apply ag);simp only [go_sem,sevalprocAttr]|apply ah<;>(intro h_;(try simp only [h_]);revert h_)|apply ai|apply aj|apply ae|apply And.intro|with_reducible intro h_|trivial|simp only [go_sem,ak];omega)
 all_goals simp_all
 all_goals omega
theorem C5 {p:List (Int×Int)} {x:AV} (h:x∈dw p): ∃n,x=I n:=by
 unfold dw at h;obtain ⟨t,_,ht⟩:=List.mem_flatMap.1 h;simp only [List.mem_cons,List.not_mem_nil,or_false] at ht;rcases ht with e|e<;>exact ⟨_,e⟩
theorem Gl (p:List (Int×Int)):(dw p).all p1=true:=List.all_eq_true.2 fun x hx=>by obtain ⟨n,rfl⟩:=C5 hx;rfl
theorem yap (H:Hp) (p:List (Int×Int)):(dw p).all (s3 H)=true:=List.all_eq_true.2 fun x hx=>by obtain ⟨n,rfl⟩:=C5 hx;rfl
theorem yaft (p:List (Int×Int)):(dw p).all yca=true:=List.all_eq_true.2 fun x hx=>by obtain ⟨n,rfl⟩:=C5 hx;rfl
theorem yadd (i:Nat) (p:List (Int×Int)):(dw p).map (cutV i)=dw p:=by
 conv=>rhs;rw [←List.map_id (dw p)]
 exact List.map_congr_left fun x hx=>by obtain ⟨n,rfl⟩:=C5 hx;rfl
theorem yvr (H:Hp) (n:Nat) (p:List (Int×Int)):(dw p).map (snap H (n+1))=dw p:=iE (Gl p) H n
theorem yfy (H:Hp) (n:Nat) (p:List (Int×Int)):(∀x∈dw p,dr H (n+1) x)=True:=iC (Gl p) H n
theorem yda (H:Hp) (n:Nat) (p:List (Int×Int)):(dw p).map (bg H (n+1))=dw p:=ij (Gl p) H n
theorem ycr (H:Hp) (n:Nat) (p:List (Int×Int)):(∀x∈dw p,bx H (n+1) x)=True:=ik (Gl p) H n
theorem zr (p:List (Int×Int)) (e c:Int):dw p++[AV.int .i64 e,AV.int .i64 c]=dw (p++[(e,c)]):=by simp [dw]
attribute [go_sem] yap yaft yadd yvr yfy yda ycr ybn
theorem yade (fr:Fr):unl (lft fr)=fr:=by
 induction fr with
 |nil=>rfl
 |cons q r ih=>
  obtain ⟨t,x⟩:=q;simp only [lft,unl];rw [if_pos (by omega),ih,Nat.add_sub_cancel]
theorem y9b (i:Nat) (fr:Fr):fcut i (lft fr)=lft (fcut i fr):=by
 induction fr with
 |nil=>rfl
 |cons q r ih=>obtain ⟨t,x⟩:=q;simp only [lft,fcut,ih]
attribute [go_sem] yade y9b
theorem Ds {p:List (Int×Int)} (h:uE p) {i:Nat} (hi:i<p.length): -1125899906842624<=(p.getD i (0,0)).2/\(p.getD i (0,0)).2<=1125899906842624:=h _ (by simp [hi])
set_option maxHeartbeats 8000000
def Vx:Tr:= .node [(0, .node [(1, .node [(2, .node [(3, .node [(4, .node [(5, .node [(6, .node [(7, .done)])])])])]),(3, .node [(2, .node [(4, .node [(5, .node [(6, .node [(7, .done)])])])])])]),(3, .node [(1, .node [(2, .node [(4, .node [(5, .node [(6, .node [(7, .done)])])])])])])]),(1, .node [(0, .node [(2, .node [(3, .node [(4, .node [(5, .node [(6, .node [(7, .done)])])])])]),(3, .node [(2, .node [(4, .node [(5, .node [(6, .node [(7, .done)])])])])])]),(2, .node [(0, .node [(3, .node [(4, .node [(5, .node [(6, .node [(7, .done)])])])])]),(3, .node [(0, .node [(4, .node [(5, .node [(6, .node [(7, .done)])])])]),(4, .node [(0, .node [(5, .node [(6, .node [(7, .done)])])]),(5, .node [(0, .node [(6, .node [(7, .done)])])])])])]),(3, .node [(0, .node [(2, .node [(4, .node [(5, .node [(6, .node [(7, .done)])])])])]),(2, .node [(0, .node [(4, .node [(5, .node [(6, .node [(7, .done)])])])]),(4, .node [(0, .node [(5, .node [(6, .node [(7, .done)])])]),(5, .node [(0, .node [(6, .node [(7, .done)])])])])])])]),(3, .node [(0, .node [(1, .node [(2, .node [(4, .node [(5, .node [(6, .node [(7, .done)])])])])])]),(1, .node [(0, .node [(2, .node [(4, .node [(5, .node [(6, .node [(7, .done)])])])])]),(2, .node [(0, .node [(4, .node [(5, .node [(6, .node [(7, .done)])])])]),(4, .node [(0, .node [(5, .node [(6, .node [(7, .done)])])]),(5, .node [(0, .node [(6, .node [(7, .done)])])])])])])])]
def CF (k h:Int) (g:Int->Option (Int×Int)):Int->Option (Int×Int):=if h % 2=0 then updP g (h/4) k ((g (h/4)).getD (0,0)).2 else updP g (h/4) ((g (h/4)).getD (0,0)).1 k
def atN (k:Int) (l:List Int) (g:Int->Option (Int×Int)):Nat->Int->Option (Int×Int)
 |0=>g
 |j+1=>CF k (l.getD j 0) (atN k l g j)
def lS (ls:List (List Int)):Nat->Int->Option (Int×Int)
 |0=>fun _=>none
 |k+1=>atN k (ls.getD k []) (lS ls k) (ls.getD k []).length
theorem Um (s m:List Int) (L:Int) (hv:bF s m L=true):oU Tryz.prog 148 [dgA s m L] (.mp 1) [(1, .fmap 160 (.pairs (lS (a8 s m) (a8 s m).length)))]:=by
 have hS:=Ly s m L;unfold BK at hS;rw [hv,if_pos rfl] at hS;have v1:=cK hv;have qh:=v1.s64;have hl:=v1.len;have cL:=zu s m;have gT:=fun l (hl:l∈a8 s m)=>Uf v1.prd hl;refine oU.intro [.tmp 2] Tryz.func148 rfl rfl (by decide) (by simp [Tryz.ntmps148]) ?_;rw [Tryz.ntmps148]
 repeat' (first|omega|(try apply ag);simp only [go_sem,sevalprocAttr]|apply ah<;>(intro h_;(try simp only [h_]);revert h_)|apply ai|apply aj|apply ae|apply And.intro|with_reducible intro h_|trivial|simp only [go_sem,ak];omega)
 refine fb.makeMap (n:=(s.length:Int)) (kt:=3) (et:=162) rfl rfl (by simp only [go_sem,sevalprocAttr]) rfl ?_
 repeat' (first|omega|(try apply ag);simp only [go_sem,sevalprocAttr]|apply ah<;>(intro h_;(try simp only [h_]);revert h_)|apply ai|apply aj|apply ae|apply And.intro|with_reducible intro h_|trivial|simp only [go_sem,ak];omega)
 refine ⟨aA.fn rfl hS ?_⟩
 repeat' (first|omega|(try apply ag);simp only [go_sem,sevalprocAttr]|apply ah<;>(intro h_;(try simp only [h_]);revert h_)|apply ai|apply aj|apply ae|apply And.intro|with_reducible intro h_|trivial|simp only [go_sem,ak];omega)
 generalize a8 s m=ls at*;refine bV.intro (fun n fr H=> ∃i:Nat,i<=ls.length/\n=ls.length-i/\fr=[(16,I i),(15,I ls.length),(14,wg ls),(3, .mp 1),(1, .ptr 0 0)]/\H=[(1, .fmap 160 (.pairs (lS ls i))),(0, .cells 24 (.lst [roI s,roI m,I L]))]) ?_ ?_
 ·refine ⟨_,_,_,Wk.sub ?_ ?_,0,by omega,rfl,rfl,rfl⟩
  ·simp only [go_sem,sevalprocAttr]
  ·(simp only [go_sem,sevalprocAttr,lS])<;>rfl
 rintro n fr H ⟨i,hi,rfl,rfl,rfl⟩;by_cases fi:i<ls.length
 ·have bi:decide ((i:Int)<ls.length)=true:=by simpa using fi
  have hg:=Sy ls i fi;have Iv:=gT (ls.getD i []) (by simp [fi]);have eA:lS ls (i+1)=atN i (ls.getD i []) (lS ls i) (ls.getD i []).length:=rfl;generalize ls.getD i []=l at*;generalize lS ls i=g0 at*
  repeat' (first|omega|(try apply ag);simp only [go_sem,sevalprocAttr,hg,bi]|apply ah<;>(intro h_;(try simp only [h_]);revert h_)|apply ai|apply aj|apply ae|apply And.intro|with_reducible intro h_|trivial|simp only [go_sem,ak];omega)
  refine bV.intro (fun n fr H=> ∃k:Nat,k<=l.length/\n=l.length-k/\fr=[(23,I k),(22,I l.length),(21,roI l),(4,I i),(16,I i),(15,I ls.length),(14,wg ls),(3, .mp 1),(1, .ptr 0 0)]/\H=[(1, .fmap 160 (.pairs (atN i l g0 k))),(0, .cells 24 (.lst [roI s,roI m,I L]))]) ?_ ?_
  ·refine ⟨_,_,_,Wk.sub ?_ ?_,0,by omega,rfl,rfl,rfl⟩
   ·simp only [go_sem,sevalprocAttr]
   ·(simp only [go_sem,sevalprocAttr,atN])<;>rfl
  rintro n fr H ⟨k,hk,rfl,rfl,rfl⟩;by_cases bN:k<l.length
  ·have bk:decide ((k:Int)<l.length)=true:=by simpa using bN
   have hx:=Iv.2 (l.getD k 0) (by simp [bN]);have e1:(l.getD k 0).tdiv 4=l.getD k 0/4:=zd hx.1;have e2:(l.getD k 0).tmod 2=l.getD k 0 % 2:=C7 hx.1;have eN:atN i l g0 (k+1)=CF i (l.getD k 0) (atN i l g0 k):=rfl;obtain ⟨h,hh⟩: ∃h,l.getD k 0=h:=⟨_,rfl⟩;rw [hh] at hx e1 e2 eN;generalize atN i l g0 k=g at*;by_cases hp:h % 2=0
   ·have e3:CF i h g=updP g (h/4) i ((g (h/4)).getD (0,0)).2:=if_pos hp
    repeat' (first|omega|(try apply ag);simp only [go_sem,sevalprocAttr,bk,hh,e1,e2,hp]|apply ah<;>(intro h_;(try simp only [h_]);revert h_)|apply ai|apply aj|apply ae|apply And.intro|with_reducible intro h_|trivial|simp only [go_sem,ak];omega)
    refine ⟨_,_,_,?_,Wk.sub ?_ ?_,k+1,by omega,rfl,rfl,rfl⟩
    ·omega
    ·simp only [go_sem,sevalprocAttr]
    ·(simp only [go_sem,sevalprocAttr,eN,e3])<;>rfl
   ·have aC:h % 2=1:=by omega
    have e3:CF i h g=updP g (h/4) ((g (h/4)).getD (0,0)).1 i:=if_neg hp
    repeat' (first|omega|(try apply ag);simp only [go_sem,sevalprocAttr,bk,hh,e1,e2,aC]|apply ah<;>(intro h_;(try simp only [h_]);revert h_)|apply ai|apply aj|apply ae|apply And.intro|with_reducible intro h_|trivial|simp only [go_sem,ak];omega)
    refine ⟨_,_,_,?_,Wk.sub ?_ ?_,k+1,by omega,rfl,rfl,rfl⟩
    ·omega
    ·simp only [go_sem,sevalprocAttr]
    ·(simp only [go_sem,sevalprocAttr,eN,e3])<;>rfl
  ·obtain rfl:k=l.length:=by omega
   have bk:decide (((l.length:Nat):Int)<l.length)=false:=by simp
   repeat' (first|omega|(try apply ag);simp only [go_sem,sevalprocAttr,bk]|apply ah<;>(intro h_;(try simp only [h_]);revert h_)|apply ai|apply aj|apply ae|apply And.intro|with_reducible intro h_|trivial|simp only [go_sem,ak];omega)
   refine ⟨_,_,_,?_,Wk.sub ?_ ?_,i+1,by omega,rfl,rfl,rfl⟩
   ·omega
   ·simp only [go_sem,sevalprocAttr]
   ·(simp only [go_sem,sevalprocAttr,eA])<;>rfl
 ·obtain rfl:i=ls.length:=by omega
  have bi:decide (((ls.length:Nat):Int)<ls.length)=false:=by simp
  repeat' (first|omega|(try apply ag);simp only [go_sem,sevalprocAttr,bi]|apply ah<;>(intro h_;(try simp only [h_]);revert h_)|apply ai|apply aj|apply ae|apply And.intro|with_reducible intro h_|trivial|simp only [go_sem,ak];omega)
theorem y16 (a b:Int):Fn Tryz.prog 93 [I a,I b] (.bool true):=by
 refine Fn.intro [.tmp 4] Tryz.func93 rfl rfl (by decide) (by simp [Tryz.ntmps93]) ?_;rw [Tryz.ntmps93]
 repeat' (first|omega|(try apply ag);simp only [go_sem,sevalprocAttr]|apply ah<;>(intro h_;(try simp only [h_]);revert h_)|apply ai|apply aj|apply ae|apply And.intro|with_reducible intro h_|trivial|simp only [go_sem,ak];omega)
def bq (s:List Int):Nat->Int
 |0=>0
 |n+1=>bq s n+s.getD n 0
abbrev B9 (s m:List Int) (L:Int) (g:Int->Option (Int×Int)) (f:AV) (t:Int):Hp:=[(5, .cells 3 (.lst [I t])),(4, .cells 160 (.lst [.mp 3])),(3, .fmap 160 (.pairs g)),(1, .cells 113 (.lst [f])),(0, .cells 24 (.lst [roI s,roI m,I L]))]
theorem y4p (s m:List Int) (L:Int) (g:Int->Option (Int×Int)) (t:Int) (c:Nat) (hc:c<s.length) (ht: -1000<=t/\t<=1000) (hs:s.getD c 0=1\/s.getD c 0= -1) {fr:Fr} {K:AV->Fr->Hp->Prop}
  (hK:K (.tup []) fr ((6, .cells 162 (.lst [I ((g c).getD (0,0)).1,I ((g c).getD (0,0)).2]))::B9 s m L g (.fn 93 []) (t+s.getD c 0))):
  fM Tryz.prog 149 [I c, .ptr 4 0, .ptr 1 0, .ptr 5 0, .ptr 0 0] fr (B9 s m L g (.fn 93 []) t) K:=by
 have hW:=y16 ((g c).getD (0,0)).1 ((g c).getD (0,0)).2;obtain ⟨x,hx⟩: ∃x,s.getD c 0=x:=⟨_,rfl⟩;rw [hx] at hs hK;refine fM.intro [] Tryz.func149 rfl rfl (by decide) (by simp [Tryz.ntmps149]) ?_;rw [Tryz.ntmps149]
 repeat' (first|omega|(try apply ag);simp only [go_sem,sevalprocAttr]|apply ah<;>(intro h_;(try simp only [h_]);revert h_)|apply ai|apply aj|apply ae|apply And.intro|with_reducible intro h_|trivial|simp only [go_sem,ak];omega)
 refine ⟨aA.fn rfl hW ?_⟩
 repeat' (first|omega|(first|apply ag|(refine an.intro (id:=2) [[17,18,19,20,21],[16,19],[16,19],[16,17,18],[16],[16],[],[]] [[],[0],[0],[0,1,2],[0],[0],[],[]] (by decide+kernel) mixed ?_)|(refine an.aB (id:=2) (Vx) (by decide+kernel) mixed ?_)|skip);simp only [go_sem,sevalprocAttr,hx,↓reduceIte,reduceCtorEq,Vx]|apply ah<;>(intro h_;(try simp only [h_]);revert h_)|apply ai|apply aj|apply ae|apply And.intro|with_reducible intro h_|trivial|simp only [go_sem,ak];omega)
 all_goals exact hK
theorem NS (s m:List Int) (L:Int) (hv:bF s m L=true):Fn Tryz.prog 92 [dgA s m L, .fn 93 []] (I (bq s s.length)):=by
 have hA:=Um s m L hv;have v1:=cK hv;have qh:=v1.s64;have hb: ∀c,c<=s.length-> -(c:Int)<=bq s c/\bq s c<=c:=fun c=>by
  induction c with
  |zero=>intro _;simp [bq]
  |succ c ih=>
   intro hc
   have:=ih (by omega)
   have:=v1.sg c (by omega)
   simp only [bq];omega
 generalize lS (a8 s m) (a8 s m).length=g at*;refine Fn.intro [.tmp 4] Tryz.func92 rfl rfl (by decide) (by simp [Tryz.ntmps92]) ?_;rw [Tryz.ntmps92]
 repeat' (first|omega|(try apply ag);simp only [go_sem,sevalprocAttr]|apply ah<;>(intro h_;(try simp only [h_]);revert h_)|apply ai|apply aj|apply ae|apply And.intro|with_reducible intro h_|trivial|simp only [go_sem,ak];omega)
 refine ⟨aA.IZ rfl hA ?_⟩
 repeat' (first|omega|(try apply ag);simp only [go_sem,sevalprocAttr]|apply ah<;>(intro h_;(try simp only [h_]);revert h_)|apply ai|apply aj|apply ae|apply And.intro|with_reducible intro h_|trivial|simp only [go_sem,ak];omega)
 refine bV.intro (fun n fr H=> ∃c:Nat,c<=s.length/\n=s.length-c/\fr=[(15,I c),(14,I s.length),(7, .fn 149 [.ptr 4 0, .ptr 1 0, .ptr 5 0, .ptr 0 0]),(6, .ptr 5 0)]/\H=B9 s m L g (.fn 93 []) (bq s c)) ?_ ?_
 ·refine ⟨_,_,_,Wk.sub ?_ ?_,0,by omega,rfl,rfl,rfl⟩
  ·simp only [go_sem,sevalprocAttr]
  ·(simp only [go_sem,sevalprocAttr,bq])<;>rfl
 rintro n fr H ⟨c,hc,rfl,rfl,rfl⟩;have IK:=hb c hc;by_cases bO:c<s.length
 ·have bc:decide ((c:Int)<s.length)=true:=by simpa using bO
  repeat' (first|omega|(try apply ag);simp only [go_sem,sevalprocAttr,bc]|apply ah<;>(intro h_;(try simp only [h_]);revert h_)|apply ai|apply aj|apply ae|apply And.intro|with_reducible intro h_|trivial|simp only [go_sem,ak];omega)
  refine ⟨aA.inline (y4p s m L g (bq s c) c bO (by omega) (v1.sg c bO) ?_)⟩
  repeat' (first|omega|(try apply ag);simp only [go_sem,sevalprocAttr]|apply ah<;>(intro h_;(try simp only [h_]);revert h_)|apply ai|apply aj|apply ae|apply And.intro|with_reducible intro h_|trivial|simp only [go_sem,ak];omega)
  refine ⟨_,_,_,?_,Wk.sub ?_ ?_,c+1,by omega,rfl,rfl,rfl⟩
  ·omega
  ·simp only [go_sem,sevalprocAttr]
  ·(simp only [go_sem,sevalprocAttr,bq])<;>rfl
 ·obtain rfl:c=s.length:=by omega
  have bc:decide (((s.length:Nat):Int)<s.length)=false:=by simp
  repeat' (first|omega|(try apply ag);simp only [go_sem,sevalprocAttr,bc]|apply ah<;>(intro h_;(try simp only [h_]);revert h_)|apply ai|apply aj|apply ae|apply And.intro|with_reducible intro h_|trivial|simp only [go_sem,ak];omega)
theorem Th (s m:List Int) (L:Int) (hv:bF s m L=true):Fn Tryz.prog 37 [dgA s m L] (I (bq s s.length)):=by
 have hV:=l8 s m L;rw [hv] at hV;have hS:=NS s m L hv;refine Fn.intro [.tmp 2] Tryz.func37 rfl rfl (by decide) (by simp [Tryz.ntmps37]) ?_;rw [Tryz.ntmps37]
 repeat' (first|omega|(try apply ag);simp only [go_sem,sevalprocAttr]|apply ah<;>(intro h_;(try simp only [h_]);revert h_)|apply ai|apply aj|apply ae|apply And.intro|with_reducible intro h_|trivial|simp only [go_sem,ak];omega)
 refine ⟨aA.fn rfl hV ?_⟩
 repeat' (first|omega|(try apply ag);simp only [go_sem,sevalprocAttr]|apply ah<;>(intro h_;(try simp only [h_]);revert h_)|apply ai|apply aj|apply ae|apply And.intro|with_reducible intro h_|trivial|simp only [go_sem,ak];omega)
 refine ⟨aA.fn rfl hS ?_⟩
 repeat' (first|omega|(try apply ag);simp only [go_sem,sevalprocAttr]|apply ah<;>(intro h_;(try simp only [h_]);revert h_)|apply ai|apply aj|apply ae|apply And.intro|with_reducible intro h_|trivial|simp only [go_sem,ak];omega)
def Gk:List (List Nat):=[[17,18,19,20,21,22],[17,18,19,20,21,22],[15,16,18,19],[15,16,17],[15,16,17],[15,16],[15,16],[15,16],[],[]]
theorem Wk.ln (ids:List Nat) {fr fr':Fr} {H H':Hp} (h1:yem (hsel H ids) fr) (h2:ydp (hsel H ids) H) (dA:frzF (hsel H ids) fr=fr') (hH:c9 (hsel H ids) H=H'):Wk fr H fr' H':=by
 subst dA;subst hH;exact fun _ _ _ _ _ ρ _ hs=>⟨ρ,hs.freeze (fun i o=>BN i o) h1 h2⟩
theorem Tg: ∀(ts:List Int) (r:ByteArray),(ts.foldl (fun r n=>r.push (UInt8.ofNat n.toNat)) r).data.toList=r.data.toList++ts.map fun t=>UInt8.ofNat t.toNat
 |[],r=>by simp
 |t::ts,r=>by
  rw [List.foldl_cons,Tg ts];simp [ByteArray.push]
def pS (T:List Nat):ByteArray:=pN (T.map fun (i:Nat)=>(97:Int)+i)
theorem Kg (T:List Nat):(pS T).data.toList=T.map fun i=>UInt8.ofNat (97+i):=by
 unfold pS pN;rw [Tg];simp only [ByteArray.data_empty,Array.toList_empty,List.nil_append,List.map_map];exact List.map_congr_left fun i _=>by
  simp only [Function.comp];congr 1
theorem NR (T:List Nat):(pS T).size=T.length:=by
 have:=congrArg List.length (Kg T)
 simpa using this
theorem D1 {T:List Nat} {x:Nat} (h:x<T.length) (hb:T.getD x 0<100):(((pS T).data.toList.getD x 0).toNat:Int)=97+(T.getD x 0:Nat):=by
 rw [Kg];simp only [List.getD_eq_getElem?_getD,List.getElem?_map,List.getElem?_eq_getElem h,Option.map_some,Option.getD_some] at hb⊢;rw [UInt8.toNat_ofNat'];omega
def kY (bt:Nat) (T:List Nat) (J:List Int) (x:Nat):Int:=if x<bt then (T.getD x 0:Nat) else bt+J.getD (x-bt) 0
abbrev seamC (bt:Nat) (glue index ends:List Int):Cs:= .lst [I bt,roI glue,roI index,roI ends]
attribute [go_sem] seamC
theorem ME (bt x:Nat) (glue index ends:List Int) (T:List Nat) (J:List Int) (hT:T.length=bt) (hb: ∀i∈T,i<100) (hJ:J.length=4) (Qv: ∀i,0<=J.getD i 0/\J.getD i 0<=3) (hx:x<bt+4) (hc:bt<=1000):
  Fn Tryz.prog 193 [I x, .rp (seamC bt glue index ends) 0, .rp (.lst [.str (pS T)]) 0, .rp (.lst (J.map (AV.int .i64))) 0] (I (kY bt T J x)):=by
 by_cases h:x<bt
 ·have b0:decide ((x:Int)<bt)=true:=by simp;omega
  have hTb:T.getD x 0<100:=by
   rw [List.getD_eq_getElem?_getD,List.getElem?_eq_getElem (show x<T.length by omega)];exact hb _ (List.getElem_mem _)
  have e1:=D1 (T:=T) (x:=x) (by omega) hTb;have e2:=NR T;unfold kY;rw [if_pos h];have w1:IntKind.u8.wrap (97+((T.getD x 0:Nat):Int)-97)=((T.getD x 0:Nat):Int):=by rw [IntWalk.u8_in _ (by omega)];omega
  have w2:IntKind.i64.wrap ((T.getD x 0:Nat):Int)=((T.getD x 0:Nat):Int):=IntWalk.i64_in _ (by omega);refine Fn.intro [.tmp 5] Tryz.func193 rfl rfl (by decide) (by simp [Tryz.ntmps193]) ?_;rw [Tryz.ntmps193]
  repeat' (first|omega|(first|apply ag|(refine an.intro (id:=3) Gk [[],[],[0,1],[0,1,2],[0,1,2],[0,1],[0,1],[0,1],[],[]] (by decide+kernel) mixed ?_)|skip);simp only [go_sem,sevalprocAttr,b0,e1,e2,w1,w2,Int.toNat_natCast,↓reduceIte,reduceCtorEq,Gk]|apply ah<;>(intro h_;(try simp only [h_]);revert h_)|apply ai|apply aj|apply ae|apply And.intro|with_reducible intro h_|trivial|simp only [go_sem,ak];omega)
 ·have b0:decide ((x:Int)<bt)=false:=by simp;omega
  unfold kY;rw [if_neg h];have e1:((x:Int)-bt).toNat=x-bt:=by omega
  have e2:(J.map (AV.int .i64)).getD (x-bt) .any=I (J.getD (x-bt) 0):=by
   have:x-bt<J.length:=by omega
   simp [List.getD_eq_getElem?_getD,this]
  have hr:=Qv (x-bt);refine Fn.intro [.tmp 5] Tryz.func193 rfl rfl (by decide) (by simp [Tryz.ntmps193]) ?_;rw [Tryz.ntmps193]
  repeat' (first|omega|(first|apply ag|(refine an.intro (id:=3) Gk [[],[],[0,1],[0,1,2],[0,1,2],[0,1],[0,1],[0,1],[],[]] (by decide+kernel) mixed ?_)|skip);simp only [go_sem,sevalprocAttr,b0,e1,e2,Int.toNat_natCast,List.length_map,hJ,↓reduceIte,reduceCtorEq,Gk]|apply ah<;>(intro h_;(try simp only [h_]);revert h_)|apply ai|apply aj|apply ae|apply And.intro|with_reducible intro h_|trivial|simp only [go_sem,ak];omega)
def du (cs:List Int) (k:Nat):List Int:=(List.range (cs.length+2)).map fun i=>(if i<k then-(cs.getD i 0) else 0)-(if 2<=i/\i-2<k then cs.getD (i-2) 0 else 0)
theorem zq (cs:List Int) (k:Nat):(du cs k).length=cs.length+2:=by simp [du]
theorem MD (cs:List Int):du cs 0=List.replicate (cs.length+2) 0:=by
 apply List.ext_getElem?;intro i;by_cases h:i<cs.length+2<;>simp [du,h]
theorem BE (cs:List Int) (k i:Nat) (h:i<cs.length+2):(du cs k).getD i 0=(if i<k then-(cs.getD i 0) else 0)-(if 2<=i/\i-2<k then cs.getD (i-2) 0 else 0):=by
 simp [du,List.getD_eq_getElem?_getD,h]
theorem y4q (cs:List Int) (k:Nat) (hk:k<cs.length):((du cs k).set k ((du cs k).getD k 0-cs.getD k 0)).set (k+2) ((du cs k).getD (k+2) 0-cs.getD k 0)=du cs (k+1):=by
 rw [BE _ _ _ (by omega),BE _ _ _ (by omega)];apply List.ext_getElem?;intro i;rw [List.getElem?_set,List.getElem?_set];simp only [List.length_set,zq];by_cases h2:k+2=i
 ·subst h2;rw [if_pos rfl,if_pos (by omega)];simp [du,show k+2<cs.length+2 by omega];omega
 ·rw [if_neg h2];by_cases h1:k=i
  ·subst h1;rw [if_pos rfl,if_pos (by omega)];simp only [du,List.getElem?_map,List.getElem?_range (show k<cs.length+2 by omega),Option.map_some];congr 1;by_cases h3:2<=k/\k-2<k
   ·rw [if_neg (by omega),if_pos h3,if_pos (by omega),if_pos (by omega)];omega
   ·rw [if_neg (by omega),if_neg h3,if_pos (by omega),if_neg (by omega)];omega
  ·rw [if_neg h1];by_cases hi:i<cs.length+2
   ·simp only [du,List.getElem?_map,List.getElem?_range hi,Option.map_some];congr 1;have e1:(i<k)=(i<k+1):=propext ⟨fun h=>by omega,fun h=>by omega⟩;have e2:(2<=i/\i-2<k)=(2<=i/\i-2<k+1):=propext ⟨fun h=>⟨h.1,by omega⟩,fun h=>⟨h.1,by omega⟩⟩;simp only [e1,e2]
   ·rw [List.getElem?_eq_none (by rw [zq];omega),List.getElem?_eq_none (by rw [zq];omega)]
abbrev tpA (lo:Int) (cs:List Int):AV:= .agg [I lo,roI cs]
attribute [go_sem] tpA
theorem Sx (lo:Int) (cs:List Int) (lN: -100000<=lo/\lo<=100000) (hl:cs.length<=100000) (hc: ∀i,-1152921504606846976<=cs.getD i 0/\cs.getD i 0<=1152921504606846976):Fn Tryz.prog 177 [tpA lo cs] (tpA (lo-2) (du cs cs.length)):=by
 refine Fn.aq [.cell 2 151] Tryz.func177 rfl rfl (by decide) (by simp [Tryz.ntmps177]) ?_;rw [Tryz.ntmps177]
 repeat' (first|omega|(try apply ag);simp only [go_sem,sevalprocAttr]|apply ah<;>(intro h_;(try simp only [h_]);revert h_)|apply ai|apply aj|apply ae|apply And.intro|with_reducible intro h_|trivial|simp only [go_sem,ak];omega)
 refine bV.intro (fun n fr H=> ∃k:Nat,k<=cs.length/\n=cs.length-k/\fr=[(14,I k),(13,I cs.length),(12,roI cs),(3, .sl 1 2 0 (cs.length+2)),(2, .ptr 1 0),(1, .ptr 0 0)]/\H=[(2, .cells 3 (.ints (du cs k))),(1, .cells 151 (.lst [I 0, .nils])),(0, .cells 151 (.lst [I lo,roI cs]))]) ?_ ?_
 ·refine ⟨_,_,_,?_,0,by omega,rfl,rfl,rfl⟩;rw [MD];have e0:((cs.length:Int)+2).toNat=cs.length+2:=by omega
  refine Wk.sub ?_ ?_<;>(simp only [go_sem,sevalprocAttr,e0])
 rintro n fr H ⟨k,hk,rfl,rfl,rfl⟩;have tl:=zq cs k;by_cases bN:k<cs.length
 ·have bk:decide ((k:Int)<cs.length)=true:=by simp;omega
  have bH:=y4q cs k bN;have a1:=BE cs k k (by omega);have a2:=BE cs k (k+2) (by omega);rw [if_neg (by omega)] at a1;rw [if_neg (by omega),if_neg (by omega)] at a2;have c0:=hc k;have c2:=hc (k-2);have h1: -1152921504606846976<=(du cs k).getD k 0/\(du cs k).getD k 0<=1152921504606846976:=by rw [a1];split<;>omega
  have h2:(du cs k).getD (k+2) 0=0:=by rw [a2];rfl
  have e1:((k:Int)+2).toNat=k+2:=by omega
  have e2:((du cs k).set k ((du cs k).getD k 0-cs.getD k 0)).getD (k+2) 0=(du cs k).getD (k+2) 0:=by simp [List.getD_eq_getElem?_getD,List.getElem?_set,show¬k=k+2 by omega]
  generalize du cs k=R at*
  repeat' (first|omega|(try apply ag);simp only [go_sem,sevalprocAttr,bk,e1,e2,tl,bH,List.length_set]|apply ah<;>(intro h_;(try simp only [h_]);revert h_)|apply ai|apply aj|apply ae|apply And.intro|with_reducible intro h_|trivial|simp only [go_sem,ak];omega)
  refine ⟨_,_,_,?_,?_,⟨k+1,by omega,rfl,rfl,rfl⟩⟩
  ·omega
  ·refine Wk.sub ?_ ?_<;>simp only [go_sem,sevalprocAttr]
   all_goals simp_all
 ·obtain rfl:k=cs.length:=by omega
  have bk:decide ((cs.length:Int)<cs.length)=false:=by simp
  repeat' (first|omega|(try apply ag);simp only [go_sem,sevalprocAttr,bk,tl]|apply ah<;>(intro h_;(try simp only [h_]);revert h_)|apply ai|apply aj|apply ae|apply And.intro|with_reducible intro h_|trivial|simp only [go_sem,ak];omega)
  all_goals (rw [List.take_of_length_le (by omega)];exact aR.of (by simp [tl]))
end Go.Proofs.YtphjphpmfflfpaaGreatDoor
