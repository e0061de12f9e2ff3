/- Walks through maps whose keys are strings, in every order. -/
import Derived.Test.YtphjphpmfflfpaaGreatDoorGc
import Derived.Laws.IdiomRangeMap
import Derived.Laws.BytesString
import Derived.Test.YtphjphpmfflfpaaGreatDoorPl
import Derived.Test.YtphjphpmfflfpaaGreatDoorTy
set_option linter.unusedSimpArgs false
set_option linter.unusedVariables false
namespace Go.Proofs.YtphjphpmfflfpaaGreatDoor
open Go Go.RowKit
section
variable {P:Program} {B:Nat} {w0:ik} {Mx:Nat->Prop} {N:Nat} {fr:Fr} {H:Hp}
theorem awO.of {o:Oper} {K:Fr->Hp->Prop} (hc:cvOk P o.op=true) (hq:quF P H (evA fr) o.op=none) (ha:alF P (hnew H) (evA fr) o.op=none) (hx:awX P N o fr H K):awO P N o fr H K:=by
 unfold awO;rw [hq,ha];exact ⟨hc,hx⟩
theorem Oper.cu {o:Oper} {a:Act} {w w':World} {v:Value} {K:Act->World->Prop} {Q:Exit->Act->World->Prop} (h:(execOp a.eval o).run P w= .ok (.value v) w') (hk:K (a.put o.dst v) w'):o.wp P a w K Q:=by
 unfold Oper.wp;rw [h];exact hk
theorem TD {w:World} {ty:TypeId} {r bm since c0:Nat} {seen:List Nat} {es:Array MapEntry} {clock:Nat} (hr:w.heap[r]?=some (.mapIter (some bm) since seen.toArray c0)) (hb:w.heap[bm]?=some (.map es clock)) (hold: ∀x∈es.toList,x.born<since) (ke:since<=c0) (ad:Addr) (YD:ad.block=r/\ad.off=0):
  ((∀x∈es.toList,x.born∈seen)/\(Instr.next (.pointer (some ad)) false ty).run P w= .ok (.tuple #[.bool false]) w)\/
  ∃(j:Nat) (e:MapEntry) (w1:World),es[j]?=some e/\e.born∉seen/\(w1=w\/w1={w with drawn:=w.drawn+1})/\(Instr.next (.pointer (some ad)) false ty).run P w= .ok (.tuple #[.bool true,e.key,e.val]) {w1 with heap:=w1.heap.setIfInBounds r (.mapIter (some bm) since (seen++[e.born]).toArray clock)}:=by
 obtain ⟨ab,ao,asp⟩:=ad;obtain ⟨rfl,rfl⟩:=YD;simp only [Instr.next,getObj,Sem.run_bind,Sem.run,hr,hb,Result.andThen,next_test_false seen.toArray es since c0 hold ke,Bool.false_eq_true,if_false];have iB: ∀x∈(Array.filter (fun e=> !seen.toArray.contains e.born) es).toList,x∈es.toList/\x.born∉seen:=fun x hx=>by simp at hx⊢;exact hx
 have b6:(Array.filter (fun e=> !seen.toArray.contains e.born) es)= #[]-> ∀x∈es.toList,x.born∈seen:=fun h x hx=>by
  rw [Array.filter_eq_empty_iff] at h
  have:=h x (by simpa using hx)
  simpa using this
 generalize Array.filter (fun e=> !seen.toArray.contains e.born) es=L at iB b6⊢;have e1:L.filter (fun x=>decide (x.born<since))=L:=Array.filter_eq_self.2 (fun x hx=>by simpa using hold x (iB x (by simpa using hx)).1);have e2:L.filter (fun x=>decide (x.born≥since))= #[]:=by
  rw [Array.filter_eq_empty_iff];intro x hx
  have:=hold x (iB x (by simpa using hx)).1
  simp;omega
 simp only [e1,e2,Array.append_empty];by_cases h0:L.size=0
 ·left
  have:L= #[]:=Array.eq_empty_of_size_eq_zero h0
  refine ⟨b6 this,?_⟩;subst this;simp [choose,Sem.run,Question.forced]
 ·right;have aw:L.isEmpty=false:=by simp [Array.isEmpty,h0]
  simp only [aw,Bool.false_eq_true,if_false,Array.empty_append,Array.size_map];have mq: ∃(j:Nat) (w1:World),j<L.size/\(w1=w\/w1={w with drawn:=w.drawn+1})/\(if (Question.mapNext L.size).forced=true then (Result.ok 0 w:Result Nat) else Result.ok ((Question.mapNext L.size).cut (w.tape w.drawn (Question.mapNext L.size))) w.drew)= .ok j w1:=by
   by_cases hf:L.size<=1
   ·exact ⟨0,w,by omega, .inl rfl,by simp [Question.forced,hf]⟩
   ·refine ⟨_,w.drew,?_, .inr rfl,by rw [if_neg (by simp [Question.forced,hf])]⟩;simp only [Question.cut];exact Nat.mod_lt _ (by omega)
  obtain ⟨j,w1,hj,mU,aH⟩:=mq;obtain ⟨m1,m2⟩:=iB L[j] (by simp);obtain ⟨i,hi,Sa⟩:=List.mem_iff_getElem.1 m1;refine ⟨i,L[j],w1,?_,m2,mU,?_⟩
  ·rw [←Sa];simp at hi⊢
  ·have hZ:w1.heap[ab]?=some (.mapIter (some bm) since seen.toArray c0):=by rcases mU with rfl|rfl<;>exact hr
   simp only [choose,Sem.run];by_cases hf:(Question.mapNext L.size).forced=true
   ·rw [if_pos hf] at aH⊢;injection aH with q1 q2;subst q1 q2;simp [hj,setObj,Sem.run,hZ]
   ·rw [if_neg hf] at aH⊢;injection aH with q1 q2;subst q2;simp only [q1];simp [hj,setObj,Sem.run,hZ]
theorem lf.next {o:Oper} {x:Operand} {iid mid since last t ck:Nat} {seen:List Nat} {l:List (ByteArray×Nat×AV)} {K:Fr->Hp->Prop} (ho:o.op= .next x false) (hd:dok o.dst N=true) (hx:evA fr x= .ptr iid 0) (hi:hget H iid=some (.iter mid since seen last)) (hm:hget H mid=some (.gmap t ck l))
  (hb: ∀q∈l,q.2.1<since) (dq:since<=last) (h1:(∀q∈l,q.2.1∈seen)->K (fput fr o.dst (.tup [.bool false])) H)
  (h2: ∀q∈l,q.2.1∉seen->K (fput fr o.dst (.tup [.bool true, .str q.1,q.2.2])) (hset H iid (.iter mid since (seen++[q.2.1]) ck))):lf P N o K fr H:=by
 intro B w0 Mx w ρ a hs Q;obtain ⟨i1,i2,i3⟩:=hs.objs iid _ hi;obtain ⟨es,g1,g2,g3⟩:=hs.objs mid _ hm;have ex:=(hx▸hs.ev x).dR.1;have C7:(ρ iid).add 0=ρ iid:=rfl;rw [C7] at ex;have hold: ∀e∈es.toList,e.born<since:=fun e he=>by
  obtain ⟨j,hj,rfl⟩:=List.mem_iff_getElem.1 he;have uz:j<l.length:=by rw [←g2];simpa using hj
  obtain ⟨_,k2,_⟩:=g3 j _ l[j] (Array.getElem?_eq_getElem (by simpa using hj)) (List.getElem?_eq_getElem uz);show (es[j]'(by simpa using hj)).born<since;rw [k2];exact hb _ (List.getElem_mem uz)
 have oT:(execOp a.eval o).run P w=((Instr.next (.pointer (some (ρ iid))) false o.type).run P w).andThen fun v w'=> .ok (.value v) w':=by
  simp only [execOp,ho,ex];simp
 rcases TD (P:=P) (ty:=o.type) i3 g1 hold dq (ρ iid) ⟨rfl,i2⟩ with ⟨k1,k2⟩|⟨j,e,w1,k1,k2,k3,k4⟩
 ·refine Oper.cu (by rw [oT,k2];rfl) ⟨ρ,_,H,h1 fun q hq=>?_,hs.put hd (.tup [.bool false] [.bool false] rfl fun i v x hv hx=>?_)⟩
  ·obtain ⟨j,hj,rfl⟩:=List.mem_iff_getElem.1 hq;have uz:j<es.size:=by omega
   obtain ⟨_,q2,_⟩:=g3 j es[j] l[j] (by simp [uz]) (List.getElem?_eq_getElem hj);rw [←q2];exact k1 _ (by simp)
  ·match i,hv,hx with
   |0,hv,hx=>cases hv;cases hx;exact .bool _
 ·have hj:j<es.size:=(Array.getElem?_eq_some_iff.1 k1).1;have uz:j<l.length:=by omega
  obtain ⟨q1,q2,q3⟩:=g3 j e l[j] k1 (List.getElem?_eq_getElem uz);have nY:aC B w0 Mx N w1 ρ fr H a:=by
   rcases k3 with rfl|rfl
   ·exact hs
   ·exact hs.draw
  have Kn:w1.heap[(ρ iid).block]?=some (.mapIter (some (ρ mid).block) since seen.toArray last):=by rcases k3 with rfl|rfl<;>exact i3
  have gh:=nY.xU (b2:= .mapIter (some (ρ mid).block) since (seen++[e.born]).toArray ck) (o2:= .iter mid since (seen++[e.born]) ck) hi rfl rfl Kn (fun _ _=>by simp) fun M' hc=>⟨(wF hi mid).2 i1,i2,by simp [eI Kn]⟩;have XS:VR w1 (MM Mx H ρ) ρ (DD H) e.val (l[j]).2.2:=by
   rcases k3 with rfl|rfl
   ·exact q3
   ·exact q3.carry (w':={w with drawn:=w.drawn+1}) (Nat.le_refl _) (fun _ _ hm=>⟨rfl,hm⟩) (fun id hd=>⟨hd,rfl,fun arr t ha=>⟨arr,ha,rfl⟩⟩)
  have hval:VR {w1 with heap:=w1.heap.setIfInBounds (ρ iid).block (.mapIter (some (ρ mid).block) since (seen++[e.born]).toArray ck)} (MM Mx (hset H iid (.iter mid since (seen++[e.born]) ck)) ρ) ρ (DD (hset H iid (.iter mid since (seen++[e.born]) ck))) e.val (l[j]).2.2:=by
   refine XS.carry (by simp) (fun b hb hm=>?_) (fun i jv=>⟨(wF hi i).2 jv,rfl,fun ar tt eY=>?_⟩)
   ·have aw:b≠(ρ iid).block:=fun e'=>hm (.inr ⟨iid,_,hi,rfl,e'.symm⟩);exact ⟨by show (w1.heap.setIfInBounds _ _)[b]?=_;rw [Array.getElem?_setIfInBounds_ne (Ne.symm aw)],fun hh=>hm ((An (o':= .iter mid since (seen++[e.born]) ck) hi rfl b).1 hh)⟩
   ·by_cases e':(ρ i).block=(ρ iid).block
    ·rw [e'] at eY;rw [Kn] at eY;cases eY
    ·exact ⟨ar,by show (w1.heap.setIfInBounds _ _)[(ρ i).block]?=_;rw [Array.getElem?_setIfInBounds_ne (Ne.symm e')];exact eY,rfl⟩
  refine Oper.cu (by rw [oT,k4];rfl) ⟨ρ,_,_,?_,gh.put hd (.tup [.bool true,e.key,e.val] [.bool true, .str (l[j]).1,(l[j]).2.2] rfl fun i v x hv hx=>?_)⟩
  ·have:=h2 l[j] (List.getElem_mem uz) (by rw [←q2];exact k2)
   rw [←q2] at this;exact this
  ·match i,hv,hx with
   |0,hv,hx=>cases hv;cases hx;exact .bool _
   |1,hv,hx=>cases hv;cases hx;rw [q1];exact .str _
   |2,hv,hx=>cases hv;cases hx;exact hval
theorem VR.Kg {w:World} {M:Nat->Prop} {ρ:Nat->Addr} {D:Nat->Prop} {v:Value} {id:Nat} (h:VR w M ρ D v (.mp id)):D id:=by cases h;assumption
theorem lf.range {o:Oper} {x:Operand} {xt kt et mid t ck:Nat} {l:List (ByteArray×Nat×AV)} {K:Fr->Hp->Prop} (ho:o.op= .range xt x) (hd:dok o.dst N=true) (cP:tk P xt= .map kt et) (hx:evA fr x= .mp mid) (hm:hget H mid=some (.gmap t ck l))
  (h:K (fput fr o.dst (.ptr (hnew H) 0)) ((hnew H, .iter mid ck [] ck)::H)):lf P N o K fr H:=by
 intro B w0 Mx w ρ a hs Q;obtain ⟨es,g1,g2,g3⟩:=hs.objs mid _ hm;have ex:=(hx▸hs.ev x).fe;have hn:hget H (hnew H)=none:=yJ (Nat.le_refl _);have Fo:mid≠hnew H:=fun e=>by rw [←e,hm] at hn;cases hn
 have gh:=hs.alloc (hnew H) hn (.mapIter (some (ρ mid).block) ck #[] ck) (.iter mid ck [] ck) fun M' ρ' D' hr hc=>by
  have h0:=hc (D:=DD H) (fun _ h=>h) (VR.mp (w:=w) (M:=MM Mx H ρ) (ρ:=ρ) mid ⟨_,hm⟩);have h1:=h0.fe;simp only [Value.map.injEq,Option.some.injEq] at h1;exact ⟨h0.Kg,by rw [hr],by rw [hr,←h1];exact pC⟩
 ·refine Oper.cu (v:= .pointer (some ⟨w.heap.size,0,none⟩)) (w':=w.alloc (.mapIter (some (ρ mid).block) ck #[] ck)) ?_ ⟨_,_,_,h,gh.put hd ?_⟩
  ·simp only [execOp,ho,ex];simp [Instr.range,run_underlying (pw cP),getObj,Sem.run,g1,newObj]
  ·have:=VR.ptr (w:=w.alloc (.mapIter (some (ρ mid).block) ck #[] ck)) (M:=MM Mx ((hnew H, .iter mid ck [] ck)::H) (cI ρ (hnew H) ⟨w.heap.size,0,none⟩)) (ρ:=cI ρ (hnew H) ⟨w.heap.size,0,none⟩) (D:=DD ((hnew H,AObj.iter mid ck [] ck)::H)) (hnew H) 0 wx
   rwa [im] at this
end
section
variable {P:Program} {N:Nat} {fr:Fr} {H:Hp} {K:Fr->Hp->Prop} {o:Oper}
theorem lf.insert {t:Nat} {m k x:Operand} {id:Nat} {ob:AObj} (ho:o.op= .insert t m k x) (hd:dok o.dst N=true) (hs:muF P H t (evA fr m) (evA fr k) (evA fr x)=some (id,ob)) (h:K (fput fr o.dst .any) (hset H id ob)):lf P N o K fr H:=by
 intro B w0 Mx w ρ a ca Q;obtain ⟨w',aH,gh⟩:=Iw (P:=P) ca (ca.ev m) (ca.ev k) (ca.ev x) hs
 have:(execOp a.eval o).run P w= .ok .skip w':=by simp only [execOp,ho];simp [aH]
 unfold Oper.wp;rw [this];exact ⟨_,_,_,h,gh.put hd (.any _)⟩
theorem lf.makeMap {t kt et:Nat} {r:Operand} {n:Int} (ho:o.op= .makeMap t (some r)) (hd:dok o.dst N=true) (cP:tk P t= .map kt et) (hr:evA fr r=I n) (h:K (fput fr o.dst (.mp (hnew H))) ((hnew H,mkM P t)::H)):lf P N o K fr H:=by
 intro B w0 Mx w ρ a hs Q;have er:=(hr▸hs.ev r).aq;have hn:hget H (hnew H)=none:=yJ (Nat.le_refl _);have aH:(execOp a.eval o).run P w= .ok (.value (.map (some w.heap.size))) (w.alloc (.map #[] 0)):=by
  simp only [execOp,ho];simp [Instr.makeMap,run_underlying (pw cP),asInt,asIntOf,newObj,Sem.run,er]
 have gh:=hs.alloc (hnew H) hn (.map #[] 0) (mkM P t) fun M' ρ' D' hr _=>by
  rcases Pk P t with e|e|e|e|e<;>rw [e]
  ·exact ⟨by simp, #[],0,by rw [hr];exact pC,rfl,by simp⟩
  ·exact ⟨[], #[],0,by rw [hr];exact pC,rfl,fun _=>rfl⟩
  ·exact ⟨[], #[],0,by rw [hr];exact pC,rfl,fun _=>rfl⟩
  ·exact ⟨#[],by rw [hr];exact pC,rfl,fun j e q he=>by simp at he⟩
  ·exact ⟨[], #[],0,by rw [hr];exact pC,rfl,fun _=>rfl⟩
 refine Oper.cu aH ⟨_,_,_,h,gh.put hd ?_⟩
 have:=VR.mp (w:=w.alloc (.map #[] 0)) (M:=MM Mx ((hnew H,mkM P t)::H) (cI ρ (hnew H) ⟨w.heap.size,0,none⟩)) (ρ:=cI ρ (hnew H) ⟨w.heap.size,0,none⟩) (D:=DD ((hnew H,mkM P t)::H)) (hnew H) wx
 rwa [im] at this
def nU (ts:List Int):ByteArray:=ts.foldl (fun r n=>r.push (UInt8.ofNat n.toNat)) ByteArray.empty
theorem lf.Mf {s d e:Nat} {x:Operand} {id t:Nat} {ts:List Int} (ho:o.op= .convert s d x) (hd:dok o.dst N=true) (hs:tk P s= .slice e) (he:tk P e= .int .u8) (Fy:tk P d= .str) (hx:evA fr x= .sl 1 id 0 ts.length) (gK:hget H id=some (.cells t (.lst (ts.map (AV.int .u8)))))
  (h:K (fput fr o.dst (.str (nU ts))) H):lf P N o K fr H:=by
 intro B w0 Mx w ρ a ca Q;have hv:=ca.ev x;rw [hx] at hv;obtain ⟨h1,arr,h2,h3,h4⟩:=ca.objs id _ gK;simp only [Cs.len,List.length_map] at h3 h4;generalize vC:a.eval x=v at hv;cases hv with
 |sl es id off len cap hdd hc aP t' ad ha hb hr=>
  have aH:(execOp a.eval o).run P w= .ok (.value (.string (nU ts))) w:=by
   have CH:=run_convert_bytes_string (P:=P) w s d e (some ad) ts.length cap (iu hs) (px he) (qY Fy);have hl:(loadCells ad ts.length).run P w= .ok (ts.map (Value.int .u8)).toArray w:=by
    have ei: ∀j,j<ts.length->w.cell? (ad.add j)=some ((ts.map (Value.int .u8)).getD j undef):=fun j hj=>by
     have iU:0<cap:=by omega
     have e:=ha iU;rw [show (ρ id).add 0=ρ id from rfl] at e;subst e;obtain ⟨u,g1,g2⟩:=h4 j hj;rw [qy h1];have hu:u= .int .u8 (ts[j]):=by
      simp only [Cs.get,List.getD_eq_getElem?_getD,List.getElem?_map,List.getElem?_eq_getElem hj,Option.map_some,Option.getD_some] at g2;exact g2.aq
     simp [World.cell?,h2,g1,hu,hj]
    have:=EY (P:=P) (w:=w) (a:=ad) (x:=fun j=>(ts.map (Value.int .u8)).getD j undef) ts.length 0 #[] (fun j _ hj=>ei j (by omega))
    simp only [loadCells,this];congr 1;apply Array.ext';apply List.ext_getElem?;intro i;by_cases hi:i<ts.length
    ·simp [hi]
    ·simp [hi]
   simp only [execOp,ho,vC];rw [Sem.run_bind,CH,run_bytesToString w ad ts.length cap ts hl];rfl
  exact Oper.cu aH ⟨ρ,_,_,h,ca.put hd (.str _)⟩
theorem dM.vv {ops:Array Oper} {r:List Oper} (hc:cvOk P o.op=true) (hq:quF P H (evA fr) o.op=none) (ha:alF P (hnew H) (evA fr) o.op=none) (hx:awX P N o fr H fun fr' H'=>awL P N ops r fr' H' K):dM P N ops fr H K o r:=⟨awO.of hc hq ha hx⟩
theorem dM.Mf {ops:Array Oper} {r:List Oper} {s d e:Nat} {x:Operand} {id t:Nat} {ts:List Int} (ho:o.op= .convert s d x) (hd:dok o.dst N=true) (hs:tk P s= .slice e) (he:tk P e= .int .u8) (Fy:tk P d= .str) (hx:evA fr x= .sl 1 id 0 ts.length) (gK:hget H id=some (.cells t (.lst (ts.map (AV.int .u8)))))
  (h:awL P N ops r (fput fr o.dst (.str (nU ts))) H K):dM P N ops fr H K o r:=by
 refine dM.vv ?_ ?_ ?_ ?_
 ·rw [ho];simp only [cvOk,hs]
 ·rw [ho];simp only [quF,opF,yn3,Fy,hx]
 ·rw [ho];rfl
 ·unfold awX;rw [ho];exact ⟨rfl,lf.Mf (K:=fun fr' H'=>awL P N ops r fr' H' K) ho hd hs he Fy hx gK h⟩
theorem dM.next {ops:Array Oper} {r:List Oper} {x:Operand} {iid mid since last t ck:Nat} {seen:List Nat} {l:List (ByteArray×Nat×AV)} (ho:o.op= .next x false) (hd:dok o.dst N=true) (hx:evA fr x= .ptr iid 0) (hi:hget H iid=some (.iter mid since seen last)) (hm:hget H mid=some (.gmap t ck l))
  (hb: ∀q∈l,q.2.1<since) (dq:since<=last) (h1:(∀q∈l,q.2.1∈seen)->awL P N ops r (fput fr o.dst (.tup [.bool false])) H K)
  (h2: ∀q∈l,q.2.1∉seen->awL P N ops r (fput fr o.dst (.tup [.bool true, .str q.1,q.2.2])) (hset H iid (.iter mid since (seen++[q.2.1]) ck)) K):dM P N ops fr H K o r:=by
 refine dM.vv ?_ ?_ ?_ ?_
 ·rw [ho];rfl
 ·rw [ho];rfl
 ·rw [ho];rfl
 ·unfold awX;rw [ho];exact ⟨rfl,lf.next (K:=fun fr' H'=>awL P N ops r fr' H' K) ho hd hx hi hm hb dq h1 h2⟩
theorem dM.range {ops:Array Oper} {r:List Oper} {x:Operand} {xt kt et mid t ck:Nat} {l:List (ByteArray×Nat×AV)} (ho:o.op= .range xt x) (hd:dok o.dst N=true) (cP:tk P xt= .map kt et) (hx:evA fr x= .mp mid) (hm:hget H mid=some (.gmap t ck l))
  (h:awL P N ops r (fput fr o.dst (.ptr (hnew H) 0)) ((hnew H, .iter mid ck [] ck)::H) K):dM P N ops fr H K o r:=by
 refine dM.vv ?_ ?_ ?_ ?_
 ·rw [ho];rfl
 ·rw [ho];rfl
 ·rw [ho];rfl
 ·unfold awX;rw [ho];exact ⟨rfl,lf.range (K:=fun fr' H'=>awL P N ops r fr' H' K) ho hd cP hx hm h⟩
theorem dM.insert {ops:Array Oper} {r:List Oper} {t:Nat} {m k x:Operand} {id:Nat} {ob:AObj} (ho:o.op= .insert t m k x) (hd:dok o.dst N=true) (hs:muF P H t (evA fr m) (evA fr k) (evA fr x)=some (id,ob)) (h:awL P N ops r (fput fr o.dst .any) (hset H id ob) K):dM P N ops fr H K o r:=by
 refine dM.vv ?_ ?_ ?_ ?_
 ·rw [ho];rfl
 ·rw [ho];rfl
 ·rw [ho];rfl
 ·unfold awX;rw [ho];exact ⟨rfl,lf.insert (K:=fun fr' H'=>awL P N ops r fr' H' K) ho hd hs h⟩
theorem dM.makeMap {ops:Array Oper} {r:List Oper} {t kt et:Nat} {x:Operand} {n:Int} (ho:o.op= .makeMap t (some x)) (hd:dok o.dst N=true) (cP:tk P t= .map kt et) (hr:evA fr x=I n) (h:awL P N ops r (fput fr o.dst (.mp (hnew H))) ((hnew H,mkM P t)::H) K):dM P N ops fr H K o r:=by
 refine dM.vv ?_ ?_ ?_ ?_
 ·rw [ho];rfl
 ·rw [ho];rfl
 ·rw [ho];rfl
 ·unfold awX;rw [ho];exact ⟨rfl,lf.makeMap (K:=fun fr' H'=>awL P N ops r fr' H' K) ho hd cP hr h⟩
end
end Go.Proofs.YtphjphpmfflfpaaGreatDoor
namespace Go.Proofs.YtphjphpmfflfpaaGreatDoor
def gP (v l:Int):Bool:=decide (-l<=v)&&decide (v<=l)
def qi (p:List (Int×Int)):Prop:= ∀t∈p,-1125899906842624<=t.2/\t.2<=1125899906842624
def mrg (f:Int->Int->Int) (p q:List (Int×Int)):List (Int×Int):=match p,q with
 |[],[]=>[]
 |(e,a)::p,[]=>(e,f a 0)::mrg f p []
 |[],(e,b)::q=>(e,f 0 b)::mrg f [] q
 |(e,a)::p,(e',b)::q=>if e<e' then (e,f a 0)::mrg f p ((e',b)::q) else if e'<e then (e',f 0 b)::mrg f ((e,a)::p) q else (e,f a b)::mrg f p q
termination_by p.length+q.length
def mD (l:List (Int×Int)):Bool:=l.all fun t=>gP t.2 1125899906842624
def nz (l:List (Int×Int)):List (Int×Int):=l.filter fun t=>t.2 !=0
def lU (a b:Int):Int:=a+b
def lB (_ b:Int):Int:= -b
def kb (k:Int) (p:List (Int×Int)):List (Int×Int):=p.map fun t=>(t.1+k,t.2)
def pz2 (q:List (Int×Int)) (low e c:Int):Nat->List Int->List Int
 |0,zs=>zs
 |j+1,zs=>(pz2 q low e c j zs).set (e+(q.getD j (0,0)).1-low).toNat ((pz2 q low e c j zs).getD (e+(q.getD j (0,0)).1-low).toNat 0+c*(q.getD j (0,0)).2)
def oO (p q:List (Int×Int)) (low:Int):Nat->List Int->List Int
 |0,zs=>zs
 |i+1,zs=>pz2 q low (p.getD i (0,0)).1 (p.getD i (0,0)).2 q.length (oO p q low i zs)
theorem D9 (q:List (Int×Int)) (low e c:Int): ∀j zs,(pz2 q low e c j zs).length=zs.length
 |0,zs=>rfl
 |j+1,zs=>by simp only [pz2,List.length_set];exact D9 q low e c j zs
theorem Al (p q:List (Int×Int)) (low:Int): ∀i zs,(oO p q low i zs).length=zs.length
 |0,zs=>rfl
 |i+1,zs=>by simp only [oO];rw [D9,Al]
def tmI:Int->List Int->List (Int×Int)
 |_,[]=>[]
 |e,c::r=>if c=0 then tmI (e+1) r else (e,c)::tmI (e+1) r
theorem Ey: ∀(e:Int) (l:List Int) (c:Int),tmI e (l++[c])=tmI e l++(if c=0 then [] else [(e+l.length,c)])
 |e,[],c=>by simp only [List.nil_append,tmI,List.length_nil];split<;>simp
 |e,x::l,c=>by
  have:=Ey (e+1) l c
  simp only [List.cons_append,tmI,this,List.length_cons];have h:e+1+(l.length:Int)=e+((l.length+1:Nat):Int):=by omega
  rw [h]
  split<;>split<;>simp
theorem D8: ∀(e:Int) (l:List Int),(tmI e l).length<=l.length
 |_,[]=>Nat.le_refl _
 |e,c::r=>by
  have:=D8 (e+1) r
  simp only [tmI];split<;>simp only [List.length_cons]<;>omega
abbrev aI (p:List (Int×Int)):Int:=(p.getD 0 (0,0)).1
abbrev fm (p:List (Int×Int)):Int:=(p.getD (p.length-1) (0,0)).1
def lC (p q:List (Int×Int)):List Int:=oO p q (aI p+aI q) p.length (List.replicate (fm p+fm q-(aI p+aI q)+1).toNat 0)
open Go Go.RowKit
theorem Bp {x:AV} (h:p1 x=true):p2 x=true:=by cases x<;>first|rfl|cases h
theorem Bo {x:AV} (h:p1 x=true):p3 x=true:=by cases x<;>first|rfl|cases h
theorem Bn {x:AV} (H:Hp) (h:p1 x=true):s1 H x=true:=by cases x<;>first|rfl|cases h
theorem Bm {x:AV} (H:Hp) (h:p1 x=true):s2 H x=true:=by cases x<;>first|rfl|cases h
theorem UW {x:AV} (H:Hp) (n:Nat) (h:p1 x=true):snap H (n+1) x=x:=by cases x<;>first|rfl|cases h
theorem We {x:AV} (H:Hp) (n:Nat) (h:p1 x=true):cE H (n+1) x:=by cases x<;>first|trivial|cases h
theorem Ju {x:AV} (H:Hp) (n:Nat) (h:p1 x=true):aN H (n+1) x=x:=by cases x<;>first|rfl|cases h
theorem UU {x:AV} (H:Hp) (n:Nat) (h:p1 x=true):aT H (n+1) x:=by cases x<;>first|trivial|cases h
theorem Bq {x:AV} (id:Nat) (h:p1 x=true):n1 id x=true:=by cases x<;>first|rfl|cases h
section
variable {c:List AV} (h:c.all p1=true)
include h
theorem ja:c.all p2=true:=List.all_eq_true.2 fun x hx=>Bp (List.all_eq_true.1 h x hx)
theorem gV:c.all p3=true:=List.all_eq_true.2 fun x hx=>Bo (List.all_eq_true.1 h x hx)
theorem je (H:Hp):c.all (s1 H)=true:=List.all_eq_true.2 fun x hx=>Bn H (List.all_eq_true.1 h x hx)
theorem fY (H:Hp):c.all (s2 H)=true:=List.all_eq_true.2 fun x hx=>Bm H (List.all_eq_true.1 h x hx)
theorem jd (i:Nat):c.all (n1 i)=true:=List.all_eq_true.2 fun x hx=>Bq i (List.all_eq_true.1 h x hx)
theorem gA (H:Hp) (n:Nat):c.map (snap H (n+1))=c:=by
 conv=>rhs;rw [←List.map_id c]
 exact List.map_congr_left fun x hx=>UW H n (List.all_eq_true.1 h x hx)
theorem gw (H:Hp) (n:Nat):(∀x∈c,cE H (n+1) x)=True:=eq_true fun x hx=>We H n (List.all_eq_true.1 h x hx)
theorem gd (H:Hp) (n:Nat):c.map (aN H (n+1))=c:=by
 conv=>rhs;rw [←List.map_id c]
 exact List.map_congr_left fun x hx=>Ju H n (List.all_eq_true.1 h x hx)
theorem gb (H:Hp) (n:Nat):(∀x∈c,aT H (n+1) x)=True:=eq_true fun x hx=>UU H n (List.all_eq_true.1 h x hx)
end
def swI (i j n:Nat):Nat:=if n=i then j else if n=j then i else n
theorem vf (i j n:Nat):swI i j (swI i j n)=n:=by
 unfold swI;by_cases h1:n=i
 ·rw [if_pos h1];by_cases h2:j=i
  ·rw [if_pos h2];omega
  ·rw [if_neg h2,if_pos rfl];omega
 ·rw [if_neg h1];by_cases h2:n=j
  ·rw [if_pos h2,if_pos rfl];omega
  ·rw [if_neg h2,if_neg h1,if_neg h2]
def swV (i j:Nat):Nat->AV->AV
 |0,x=>if p1 x then x else .any
 |n+1,x=>match x with
  | .sl es id off len=> .sl es (swI i j id) off len
  | .ptr id off=> .ptr (swI i j id) off
  | .mp id=> .mp (swI i j id)
  | .agg xs=> .agg (xs.map (swV i j n))
  | .tup xs=> .tup (xs.map (swV i j n))
  | .fn f xs=> .fn f (xs.map (swV i j n))
  |x=>x
def swO (i j:Nat):AObj->AObj
 | .cells t (.lst l)=> .cells t (.lst (l.map (swV i j 4)))
 | .imap t l=> .imap t (l.map fun q=>(q.1,swV i j 4 q.2))
 | .gmap t ck l=> .gmap t ck (l.map fun q=>(q.1,q.2.1,swV i j 4 q.2.2))
 | .iter m s sn la=> .iter (swI i j m) s sn la
 |o=>o
def swH (i j:Nat):Hp->Hp
 |[]=>[]
 |(k,o)::r=>(swI i j k,swO i j o)::swH i j r
def swF (i j:Nat):Fr->Fr
 |[]=>[]
 |(t,x)::r=>(t,swV i j 4 x)::swF i j r
theorem Ex (i j:Nat): ∀(H:Hp) (k:Nat),hget (swH i j H) (swI i j k)=(hget H k).map (swO i j)
 |[],k=>rfl
 |(n,o)::r,k=>by
  simp only [swH,hget];by_cases e:n=k
  ·subst e;simp
  ·have: ¬swI i j n=swI i j k:=fun h=>e (by have:=congrArg (swI i j) h;rwa [vf,vf] at this)
   rw [if_neg this,if_neg e];exact Ex i j r k
theorem Pr (i j:Nat) (H:Hp) (k:Nat):hget (swH i j H) k=(hget H (swI i j k)).map (swO i j):=by
 have:=Ex i j H (swI i j k);rwa [vf] at this
theorem HY (i j:Nat): ∀(fr:Fr) (t:Nat),fget (swF i j fr) t=swV i j 4 (fget fr t)
 |[],t=>rfl
 |(s,x)::r,t=>by
  simp only [swF,fget]
  split
  ·rfl
  ·exact HY i j r t
theorem AG (i j:Nat) (o:AObj):(swO i j o).live=o.live:=by unfold swO;split<;>rfl
theorem Qr {w:World} {M:Nat->Prop} {ρ ρ':Nat->Addr} {D D':Nat->Prop} {i j:Nat} (hD: ∀k,D k->D' (swI i j k)/\ρ' (swI i j k)=ρ k): ∀(n:Nat) (v:Value) (x:AV),VR w M ρ D v x->VR w M ρ' D' v (swV i j n x):=by
 intro n
 induction n with
 |zero=>
  intro v x hv;simp only [swV]
  split
  ·rename_i hp;exact hv.aY hp
  ·exact .any _
 |succ n ih=>
  intro v x hv;cases hv with
  |any v=>exact .any _
  |int k m=>exact .int _ _
  |bool b=>exact .bool _
  |str s=>exact .str _
  |nils=>exact .nils
  |mp id hd=>obtain ⟨h1,h2⟩:=hD id hd;simp only [swV];rw [←h2];exact .mp _ h1
  |ro es len c ad cap x hl hc he h0 hv=>exact VR.aY (VR.ro (D:=D) es len c ad cap x hl hc he h0 hv) rfl
  |rp c off b x hb hm hj hv=>exact VR.aY (VR.rp (D:=D) c off b x hb hm hj hv) rfl
  |ptr id off hd=>obtain ⟨h1,h2⟩:=hD id hd;simp only [swV];rw [←h2];exact .ptr _ _ h1
  |sl es id off len cap hd hc arr t ad ha hb hr=>
   obtain ⟨h1,h2⟩:=hD id hd;exact .sl es (swI i j id) off len cap h1 hc arr t ad (fun h=>by rw [h2];exact ha h) (by rw [h2];exact hb) (by rw [h2];exact hr)
  |agg vs xs hl hx=>
   simp only [swV];refine .agg vs _ (by simp [hl]) fun k u y hu hy=>?_;simp only [List.getElem?_map] at hy;obtain ⟨y',g1,rfl⟩:=Option.map_eq_some_iff.1 hy;exact ih u y' (hx k u y' hu g1)
  |tup vs xs hl hx=>
   simp only [swV];refine .tup vs _ (by simp [hl]) fun k u y hu hy=>?_;simp only [List.getElem?_map] at hy;obtain ⟨y',g1,rfl⟩:=Option.map_eq_some_iff.1 hy;exact ih u y' (hx k u y' hu g1)
  |fn f vs xs hl hx=>
   simp only [swV];refine .fn f vs _ (by simp [hl]) fun k u y hu hy=>?_;simp only [List.getElem?_map] at hy;obtain ⟨y',g1,rfl⟩:=Option.map_eq_some_iff.1 hy;exact ih u y' (hx k u y' hu g1)
theorem UT {w:World} {M:Nat->Prop} {ρ ρ':Nat->Addr} {D D':Nat->Prop} {i j:Nat} (hD: ∀k,D k->D' (swI i j k)/\ρ' (swI i j k)=ρ k) {k:Nat} {o:AObj} (hi:D k) (h:dI w M ρ D k o):dI w M ρ' D' (swI i j k) (swO i j o):=by
 have hr:=Qr (w:=w) (M:=M) (ρ':=ρ') (D':=D') hD;have he:=(hD k hi).2;cases o with
 |gone=>trivial
 |cells t c=>
  obtain ⟨e1,arr,e2,e3,e4⟩:=h;cases c with
  |ints l=>exact ⟨by rw [he];exact e1,arr,by rw [he];exact e2,by rw [he];exact e3,fun j hj=>let ⟨u,hu,hx⟩:=e4 j hj;⟨u,by rw [he];exact hu,hx.aY rfl⟩⟩
  |bools l=>exact ⟨by rw [he];exact e1,arr,by rw [he];exact e2,by rw [he];exact e3,fun j hj=>let ⟨u,hu,hx⟩:=e4 j hj;⟨u,by rw [he];exact hu,hx.aY rfl⟩⟩
  |lst l=>
   refine ⟨by rw [he];exact e1,arr,by rw [he];exact e2,by rw [he];simpa [swO,Cs.len] using e3,fun n hj=>?_⟩;simp only [Cs.len,List.length_map] at hj;obtain ⟨u,hu,hx⟩:=e4 n hj;refine ⟨u,by rw [he];exact hu,?_⟩;simp only [Cs.get,List.getD_eq_getElem?_getD,List.getElem?_eq_getElem hj,Option.getD_some] at hx
   have:=hr 4 u _ hx
   simpa [Cs.get,hj] using this
 |fmap t c=>
  obtain ⟨k0,es,ck,k1,k2⟩:=h;exact ⟨k0,es,ck,by rw [he];exact k1,k2⟩
 |gmap t ck l=>
  obtain ⟨es,k1,k2,k3⟩:=h;refine ⟨es,by rw [he];exact k1,by simpa using k2,fun j e q h1 h2=>?_⟩;simp only [List.getElem?_map] at h2;obtain ⟨q',g1,g2⟩:=Option.map_eq_some_iff.1 h2;cases g2;obtain ⟨g3,g4,g5⟩:=k3 j e q' h1 g1;exact ⟨g3,g4,hr 4 _ _ g5⟩
 |iter mid s sn la=>
  obtain ⟨k1,k2,k3⟩:=h;obtain ⟨d1,d2⟩:=hD mid k1;exact ⟨d1,by rw [he];exact k2,by rw [he,d2];exact k3⟩
 |imap t l=>
  obtain ⟨k0,es,ck,k1,k2,k3⟩:=h;refine ⟨fun k x hx=>?_,es,ck,by rw [he];exact k1,by simpa using k2,fun j e k x h1 h2=>?_⟩
  ·obtain ⟨q,g1,g2⟩:=List.mem_map.1 hx;cases g2
   have:=k0 q.1 q.2 g1
   cases hq:q.2<;>rw [hq] at this<;>first|(cases this;done)|rfl
  simp only [List.getElem?_map] at h2;obtain ⟨q,g1,g2⟩:=Option.map_eq_some_iff.1 h2;cases g2;obtain ⟨g3,g4,g5⟩:=k3 j e q.1 q.2 h1 g1;exact ⟨g3,hr 4 _ _ g4,g5⟩
section
variable {B:Nat} {w0:ik} {Mx:Nat->Prop} {N:Nat} {w:World} {ρ:Nat->Addr} {fr:Fr} {H:Hp} {a:Act}
theorem aC.swap (h:aC B w0 Mx N w ρ fr H a) (i j:Nat):aC B w0 Mx N w (fun k=>ρ (swI i j k)) (swF i j fr) (swH i j H) a:=by
 have hg: ∀k o,hget (swH i j H) k=some o-> ∃o',hget H (swI i j k)=some o'/\o=swO i j o':=fun k o hk=>by
  rw [Pr] at hk;obtain ⟨o',h1,h2⟩:=Option.map_eq_some_iff.1 hk;exact ⟨o',h1,h2.symm⟩
 have hM:MM Mx (swH i j H) (fun k=>ρ (swI i j k))=MM Mx H ρ:=by
  funext b;apply propext;constructor
  ·rintro (g|⟨id,o,g1,g2,g3⟩)
   ·exact .inl g
   ·obtain ⟨o',k1,rfl⟩:=hg id o g1;exact .inr ⟨_,o',k1,by rw [AG] at g2;exact g2,g3⟩
  ·rintro (g|⟨id,o,g1,g2,g3⟩)
   ·exact .inl g
   ·exact .inr ⟨swI i j id,swO i j o,by rw [Ex,g1];rfl,by rw [AG];exact g2,by show (ρ (swI i j (swI i j id))).block=b;rw [vf];exact g3⟩
 have hD: ∀k,DD H k->DD (swH i j H) (swI i j k)/\(fun k=>ρ (swI i j k)) (swI i j k)=ρ k:=fun k ⟨o,ho⟩=>⟨⟨swO i j o,by rw [Ex,ho];rfl⟩,by show ρ (swI i j (swI i j k))=ρ k;rw [vf]⟩;refine ⟨h.below,h.hB,h.mx,fun id o ho hl=>?_,fun id o ho=>?_,fun id o bt o' ho hl vK qH e=>?_,fun t=>?_,h.defers,h.size⟩
 ·obtain ⟨o',k1,rfl⟩:=hg id o ho;exact h.own _ o' k1 (by rw [AG] at hl;exact hl)
 ·obtain ⟨o',k1,rfl⟩:=hg id o ho
  have:=UT (w:=w) (M:=MM Mx H ρ) (ρ':=fun k=>ρ (swI i j k)) hD ⟨o',k1⟩ (h.objs _ o' k1)
  rw [vf] at this;rw [hM];exact this
 ·obtain ⟨q,k1,rfl⟩:=hg id o ho;obtain ⟨q',XE,rfl⟩:=hg bt o' vK
  have:=h.inj _ q _ q' k1 (by rw [AG] at hl;exact hl) XE (by rw [AG] at qH;exact qH) e
  have:=congrArg (swI i j) this
  rwa [vf,vf] at this
 ·rw [hM,HY];exact Qr hD 4 _ _ (h.frv t)
end
theorem Wk.swap (i j:Nat) (fr:Fr) (H:Hp):Wk fr H (swF i j fr) (swH i j H):=fun _ _ _ _ _ ρ _ hs=>⟨fun k=>ρ (swI i j k),hs.swap i j⟩
theorem Wk.tT (i j:Nat) {fr fr' fr1:Fr} {H H' H1:Hp} (e1:swF i j fr'=fr1) (e2:swH i j H'=H1) (e3:swF i j fr1=fr') (e4:swH i j H1=H') (hf:subF fr H1 fr1) (hh:subH H H1 H1):Wk fr H fr' H':=by
 have:=(Wk.sub hf hh).trans (Wk.swap i j fr1 H1)
 rwa [e3,e4] at this
attribute [go_sem] swI swV swO swH swF
end Go.Proofs.YtphjphpmfflfpaaGreatDoor
