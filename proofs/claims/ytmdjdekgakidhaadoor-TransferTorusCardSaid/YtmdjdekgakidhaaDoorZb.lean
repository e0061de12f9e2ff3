/- Rows of laws: an argument that is read is given back as it was; diagrams as data. -/
import Derived.Test.YtmdjdekgakidhaaDoorRows
import Derived.Test.YtmdjdekgakidhaaDoorZa
import Derived.ProofKit
import Derived.LaidMore
import Derived.OpenShut
import Derived.Stop.Joined
import Derived.ReadAgain
import Derived.Lib.SmallJoins
import Derived.ChangeSlices
import Derived.Test.YtmdjdekgakidhaaDoorTie
import Derived.Test.YtmdjdekgakidhaaDoorCards
import Derived.SevenTiedAt
import Derived.Deep.Grids
import Derived.Test.YtmdjdekgakidhaaDoorGc
import Derived.Laws.IdiomRangeMap
import Derived.Laws.BytesString
set_option linter.unusedSimpArgs false
set_option linter.unusedVariables false
namespace Go.Proofs.YtmdjdekgakidhaaDoor
set_option maxRecDepth 100000
open Go Go.Joins Go.ChangeShapes Go.WideShapes Go.ChangeAt Go.WideMaps Go.WideElems Go.RowKit
theorem kids:Kids Tryd.prog (· <Tryd.prog.types.size):=kids_rows (by kernel_rfl) (by kernel_rfl)
theorem full: ∀t e,t<Tryd.prog.types.size->Tryd.prog.underlying t=some (.slice e)->0<Tryd.prog.cellsOf e:=slices_full_of Tryd.prog (by kernel_rfl)
section
variable {H:Type} {enc:TypeId×Value->H}
theorem yid {P:Program} {W W':World} {base:Nat} {sp:Nat->Bool} {held:Bool}: ∀{ts:List TypeId} {vs:List Value} {ds:List (DataW H)} {ps:List MemPlace},DataW.TrodAll enc P W base sp held ts vs ds ps->(∀p∈ps,W.sameAt W' p)->DataW.TrodAll enc P W' base sp held ts vs ds ps
 |[],[],[],_,h,_=>h
 |_::_,_::_,_::_,_,⟨p,q,⟨n,h1⟩,h2,e⟩,hs=>⟨p,q,⟨n,DataW.trod_carry n _ _ _ h1 (fun x hx=>hs x (by rw [e];exact List.mem_append_left _ hx))⟩,yid h2 (fun x hx=>hs x (by rw [e];exact List.mem_append_right _ hx)),e⟩
theorem yy0 {f:Func} {s:ChangeSpec} {apart fresh handsOn again:Bool} {W W':World} {args:Array Value} {ds gs:List (DataW H)} {before:List MemPlace}
  (hW:DataW.Whole enc Tryd.prog f.params.toList s.vars apart W args.toList ds gs before) (hv:s.vars=[]) (hT: ∀t∈f.params.toList,t<Tryd.prog.types.size)
  (hr:f.resultTypes= #[4]) (hs:s.fn H (ds++gs)={results:=[.lit (.bool true)],args:=ds}) (hb:Below W.heap.size W W'):
  s.post enc Tryd.prog f apart fresh handsOn again W args (.bool true) W':=by
 have hold: ∀p∈before,(fun b=>decide (b<W.heap.size)) p.block=true:=fun p hp=>by simpa using hW.lt p hp
 have hlt: ∀p∈before,p.block<W.heap.size:=fun p hp=>hW.lt p hp
 obtain ⟨p,q,hA,hV,hpq,hz,hn⟩:=hW
 have hWw:DataW.Whole enc Tryd.prog f.params.toList s.vars apart W args.toList ds gs before:=⟨p,q,hA,hV,hpq,hz,hn⟩
 rw [hv] at hV
 obtain ⟨rfl,rfl⟩:=trodVars_none hV
 rw [List.append_nil] at hpq
 subst hpq
 have hargs: ∀sp:Nat->Bool,(∀x∈before,sp x.block=true)->DataW.TrodAll enc Tryd.prog W' 0 sp true f.params.toList args.toList ds before:=fun sp hsp=>
  yid (DataW.TrodAll.respare kids full hT hA hsp) fun x hx=>hb.same (hlt x hx)
 have hres: ∀(b:Nat) (sp:Nat->Bool) (hd:Bool),DataW.TrodAll enc Tryd.prog W' b sp hd f.resultTypes.toList ((Value.bool true).resultList f.resultTypes.size) [.lit (.bool true)] []:=fun b sp hd=>by
  rw [hr]
  exact trodAll_mk1 (shut_bool Tryd.underlying4 _)
 refine ⟨ds,[],before,[],before,[],hWw,?_,?_,?_,hb.frame _,fun _=>?_⟩
 ·rw [hs];exact hres _ _ _
 ·rw [hs];exact hargs _ hold
 ·rw [hv,hs];rfl
 ·refine ⟨?_,[.lit (.bool true)]++ds,[],[]++before,⟨[]++before,[],trodAll_append (hargs _ (fun _ _=>rfl)) (hres _ _ _),?_,by simp,?_,?_⟩,?_⟩
  ·exact ok_one hr (by rfl) (okWide_bool_mk Tryd.underlying4 _)
  ·rw [hv];rfl
  ·intro b off hp
   have hp':MemPlace.cell b off∈before:=by simpa using hp
   rw [hb.frozen (hlt _ hp')]
   exact hz b off hp'
  ·intro ha
   have:=hn ha
   simpa using this
  ·intro p hp _
   simpa using hp
end
end Go.Proofs.YtmdjdekgakidhaaDoor
set_option linter.unusedSimpArgs false
set_option linter.unusedVariables false
namespace Go.Proofs.YtmdjdekgakidhaaDoor
set_option maxRecDepth 100000
open Go Go.Joins Go.ChangeShapes Go.WideShapes Go.ChangeAt Go.WideMaps Go.WideElems Go.RowKit
theorem own:ownKnob Tryd.prog.godebug=none:=by kernel_rfl
def yly:List (String×DataW Unit):=[("math/bits.deBruijn32tab",Rows.laid_math_bits_deBruijn32tab),("math/bits.deBruijn64tab",Rows.laid_math_bits_deBruijn64tab),("internal/strconv.uint64pow10",Rows.laid_internal_strconv_uint64pow10)]
theorem gPow:Tryd.prog.globalNamed "internal/strconv.uint64pow10" =some 0:=by kernel_rfl
theorem tPow:(Tryd.prog.globals[0]?).map (·.type)=some 125:=by kernel_rfl
theorem ypd {W:World} (h:laidMetH Tryd.prog yly W):Good W:=by
 rw [MakeChecks.laidMetH_plain _ _ _ (by kernel_rfl)] at h
 obtain ⟨ps,⟨g0,t0,cs0,f0,p0,q0,hg0,ht0,hv0,hd0,⟨g1,t1,cs1,f1,p1,q1,hg1,ht1,hv1,hd1,⟨g2,t2,cs2,f2,p2,q2,hg2,ht2,hv2,hd2,_,_⟩,_⟩,_⟩,_,_⟩:=h
 obtain rfl:=Option.some.inj (gPow.symm.trans hg2)
 obtain rfl:=Option.some.inj (tPow.symm.trans ht2)
 have e:(Rows.laid_internal_strconv_uint64pow10:DataW Unit)=Lib.tabData .u64 Lib.pow10Tab:=by rfl
 rw [e] at hd2
 unfold Good Lib.TabIs
 rw [hv2,←Lib.cells_of_tab Tryd.underlying125 Tryd.underlying78 (by kernel_rfl) (by kernel_rfl) hd2]
theorem yy1 (os:Os) (args:Array Value):laidMetH Tryd.prog yly ((World.doorLaid Tryd.prog 400 os).forCall (fun _ _=>0) ⟨#[],args,[]⟩).memory:=
 laidMetH_of_parts3 (fuel:=8) (laidMet_of_run' 8 (by kernel_rfl) (by kernel_rfl)) (by kernel_rfl) (by kernel_rfl)
end Go.Proofs.YtmdjdekgakidhaaDoor
set_option linter.unusedSimpArgs false
set_option linter.unusedVariables false
namespace Go.Proofs.YtmdjdekgakidhaaDoor
open Go Go.Joins Go.ChangeShapes Go.WideShapes Go.ChangeAt Go.WideMaps Go.WideElems Go.RowKit
set_option maxRecDepth 100000
section
variable {H:Type} {enc:TypeId×Value->H}
theorem yt3 {w:World} {r:Reach} {b0 t:Nat} {v:Value} (hu: ∀fs,Tryd.prog.underlying t≠some (.struct fs)) (ha: ∀n e,Tryd.prog.underlying t≠some (.array n e)) (hv:Value.okWide Tryd.prog w r b0 t v):v.cells.toList=[v]:=by
 unfold Value.okWide at hv
 split at hv
 ·exact absurd ‹_› (hu _)
 ·exact absurd ‹_› (ha _ _)
 ·unfold Cell.okWide at hv
  cases v<;>first|rfl|(exfalso;split at hv<;>simp_all [Cell.ok])
end
end Go.Proofs.YtmdjdekgakidhaaDoor
set_option linter.unusedSimpArgs false
set_option linter.unusedVariables false
namespace Go.Proofs.YtmdjdekgakidhaaDoor
open Go Go.Joins Go.ChangeShapes Go.WideShapes Go.ChangeAt Go.WideMaps Go.WideElems Go.RowKit
set_option maxRecDepth 100000
theorem y6h {H:Type} {enc:TypeId×Value->H} {w:World} {r:Reach} {b0:Nat} {v:Value} {d:DataW H} {p:List MemPlace} (hv:Value.okWide Tryd.prog w r b0 5 v) (h:DataW.Trod enc Tryd.prog w 0 (fun _=>true) true 5 v d p):
  ∃n:Int,(0<=n/\n<=255)/\VR w (fun _=>False) ρ0 (fun _=>False) v (.int .u8 n):=by
 obtain ⟨fuel,hf⟩:=h
 rw [yt3 (fun fs=>by rw [Tryd.underlying5];simp) (fun n e=>by rw [Tryd.underlying5];simp) hv] at hf
 obtain ⟨n,hc,_,hw⟩:=DataW.trod_int Tryd.underlying5 hf
 simp only [List.cons.injEq,and_true] at hc
 subst hc
 refine ⟨n,?_, .int _ _⟩
 simp [Lit.wf,IntKind.has,IntKind.min,IntKind.max,IntKind.bits,IntKind.signed] at hw
 omega
end Go.Proofs.YtmdjdekgakidhaaDoor
set_option linter.unusedSimpArgs false
set_option linter.unusedVariables false
namespace Go.Proofs.YtmdjdekgakidhaaDoor
open Go Go.RowKit
set_option linter.unusedVariables false
section
variable {P:Program} {B:Nat} {w0:ya4} {Mx:Nat->Prop} {N:Nat} {fr:Fr} {H:Hp}
theorem awO.of {o:Oper} {K:Fr->Hp->Prop} (hc:cvOk P o.op=true) (hq:quF P H (evA fr) o.op=none) (ha:alF P (hnew H) (evA fr) o.op=none) (hx:awX P N o fr H K):awO P N o fr H K:=by
 unfold awO
 rw [hq,ha]
 exact ⟨hc,hx⟩
theorem Oper.wp_value {o:Oper} {a:Act} {w w':World} {v:Value} {K:Act->World->Prop} {Q:Exit->Act->World->Prop} (h:(execOp a.eval o).run P w= .ok (.value v) w') (hk:K (a.put o.dst v) w'):o.wp P a w K Q:=by
 unfold Oper.wp;rw [h];exact hk
theorem yrf {w:World} {ty:TypeId} {r bm since c0:Nat} {seen:List Nat} {es:Array MapEntry} {clock:Nat} (hr:w.heap[r]?=some (.mapIter (some bm) since seen.toArray c0)) (hb:w.heap[bm]?=some (.map es clock)) (hold: ∀x∈es.toList,x.born<since) (hsc:since<=c0) (ad:Addr) (had:ad.block=r/\ad.off=0):
  ((∀x∈es.toList,x.born∈seen)/\(Instr.next (.pointer (some ad)) false ty).run P w= .ok (.tuple #[.bool false]) w)\/
  ∃(j:Nat) (e:MapEntry) (w1:World),es[j]?=some e/\e.born∉seen/\(w1=w\/w1={w with drawn:=w.drawn+1})/\(Instr.next (.pointer (some ad)) false ty).run P w= .ok (.tuple #[.bool true,e.key,e.val]) {w1 with heap:=w1.heap.setIfInBounds r (.mapIter (some bm) since (seen++[e.born]).toArray clock)}:=by
 obtain ⟨ab,ao,asp⟩:=ad
 obtain ⟨rfl,rfl⟩:=had
 simp only [Instr.next,getObj,Sem.run_bind,Sem.run,hr,hb,Result.andThen,next_test_false seen.toArray es since c0 hold hsc,Bool.false_eq_true,if_false]
 have hmem: ∀x∈(Array.filter (fun e=> !seen.toArray.contains e.born) es).toList,x∈es.toList/\x.born∉seen:=fun x hx=>by simp at hx⊢;exact hx
 have hall:(Array.filter (fun e=> !seen.toArray.contains e.born) es)= #[]-> ∀x∈es.toList,x.born∈seen:=fun h x hx=>by
  rw [Array.filter_eq_empty_iff] at h
  have:=h x (by simpa using hx)
  simpa using this
 generalize Array.filter (fun e=> !seen.toArray.contains e.born) es=L at hmem hall⊢
 have e1:L.filter (fun x=>decide (x.born<since))=L:=Array.filter_eq_self.2 (fun x hx=>by simpa using hold x (hmem x (by simpa using hx)).1)
 have e2:L.filter (fun x=>decide (x.born≥since))= #[]:=by
  rw [Array.filter_eq_empty_iff]
  intro x hx
  have:=hold x (hmem x (by simpa using hx)).1
  simp
  omega
 simp only [e1,e2,Array.append_empty]
 by_cases h0:L.size=0
 ·left
  have:L= #[]:=Array.eq_empty_of_size_eq_zero h0
  refine ⟨hall this,?_⟩
  subst this
  simp [choose,Sem.run,Question.forced]
 ·right
  have hne:L.isEmpty=false:=by simp [Array.isEmpty,h0]
  simp only [hne,Bool.false_eq_true,if_false,Array.empty_append,Array.size_map]
  have hch: ∃(j:Nat) (w1:World),j<L.size/\(w1=w\/w1={w with drawn:=w.drawn+1})/\(if (Question.mapNext L.size).forced=true then (Result.ok 0 w:Result Nat) else Result.ok ((Question.mapNext L.size).cut (w.tape w.drawn (Question.mapNext L.size))) w.drew)= .ok j w1:=by
   by_cases hf:L.size<=1
   ·exact ⟨0,w,by omega, .inl rfl,by simp [Question.forced,hf]⟩
   ·refine ⟨_,w.drew,?_, .inr rfl,by rw [if_neg (by simp [Question.forced,hf])]⟩
    simp only [Question.cut]
    exact Nat.mod_lt _ (by omega)
  obtain ⟨j,w1,hj,hw1,hrun⟩:=hch
  obtain ⟨m1,m2⟩:=hmem L[j] (by simp)
  obtain ⟨i,hi,hie⟩:=List.mem_iff_getElem.1 m1
  refine ⟨i,L[j],w1,?_,m2,hw1,?_⟩
  ·rw [←hie];simp at hi⊢
  ·have hb1:w1.heap[ab]?=some (.mapIter (some bm) since seen.toArray c0):=by rcases hw1 with rfl|rfl<;>exact hr
   simp only [choose,Sem.run]
   by_cases hf:(Question.mapNext L.size).forced=true
   ·rw [if_pos hf] at hrun⊢
    injection hrun with q1 q2
    subst q1 q2
    simp [hj,setObj,Sem.run,hb1]
   ·rw [if_neg hf] at hrun⊢
    injection hrun with q1 q2
    subst q2
    simp only [q1]
    simp [hj,setObj,Sem.run,hb1]
theorem SpA.next {o:Oper} {x:Operand} {iid mid since last t ck:Nat} {seen:List Nat} {l:List (ByteArray×Nat×AV)} {K:Fr->Hp->Prop} (ho:o.op= .next x false) (hd:dok o.dst N=true) (hx:evA fr x= .ptr iid 0) (hi:hget H iid=some (.iter mid since seen last)) (hm:hget H mid=some (.gmap t ck l))
  (hb: ∀q∈l,q.2.1<since) (hsl:since<=last) (h1:(∀q∈l,q.2.1∈seen)->K (fput fr o.dst (.tup [.bool false])) H)
  (h2: ∀q∈l,q.2.1∉seen->K (fput fr o.dst (.tup [.bool true, .str q.1,q.2.2])) (hset H iid (.iter mid since (seen++[q.2.1]) ck))):SpA P N o K fr H:=by
 intro B w0 Mx w ρ a hs Q
 obtain ⟨i1,i2,i3⟩:=hs.objs iid _ hi
 obtain ⟨es,g1,g2,g3⟩:=hs.objs mid _ hm
 have ex:=(hx▸hs.ev x).ptr_inv.1
 have ead:(ρ iid).add 0=ρ iid:=rfl
 rw [ead] at ex
 have hold: ∀e∈es.toList,e.born<since:=fun e he=>by
  obtain ⟨j,hj,rfl⟩:=List.mem_iff_getElem.1 he
  have hj2:j<l.length:=by rw [←g2];simpa using hj
  obtain ⟨_,k2,_⟩:=g3 j _ l[j] (Array.getElem?_eq_getElem (by simpa using hj)) (List.getElem?_eq_getElem hj2)
  show (es[j]'(by simpa using hj)).born<since
  rw [k2];exact hb _ (List.getElem_mem hj2)
 have hrun0:(execOp a.eval o).run P w=((Instr.next (.pointer (some (ρ iid))) false o.type).run P w).andThen fun v w'=> .ok (.value v) w':=by
  simp only [execOp,ho,ex];simp
 rcases yrf (P:=P) (ty:=o.type) i3 g1 hold hsl (ρ iid) ⟨rfl,i2⟩ with ⟨k1,k2⟩|⟨j,e,w1,k1,k2,k3,k4⟩
 ·refine Oper.wp_value (by rw [hrun0,k2];rfl) ⟨ρ,_,H,h1 fun q hq=>?_,hs.put hd (.tup [.bool false] [.bool false] rfl fun i v x hv hx=>?_)⟩
  ·obtain ⟨j,hj,rfl⟩:=List.mem_iff_getElem.1 hq
   have hj2:j<es.size:=by omega
   obtain ⟨_,q2,_⟩:=g3 j es[j] l[j] (by simp [hj2]) (List.getElem?_eq_getElem hj)
   rw [←q2];exact k1 _ (by simp)
  ·match i,hv,hx with
   |0,hv,hx=>cases hv;cases hx;exact .bool _
 ·have hj:j<es.size:=(Array.getElem?_eq_some_iff.1 k1).1
  have hj2:j<l.length:=by omega
  obtain ⟨q1,q2,q3⟩:=g3 j e l[j] k1 (List.getElem?_eq_getElem hj2)
  have hs1:Sim B w0 Mx N w1 ρ fr H a:=by
   rcases k3 with rfl|rfl
   ·exact hs
   ·exact hs.draw
  have i3':w1.heap[(ρ iid).block]?=some (.mapIter (some (ρ mid).block) since seen.toArray last):=by rcases k3 with rfl|rfl<;>exact i3
  have hs2:=hs1.chgO (b2:= .mapIter (some (ρ mid).block) since (seen++[e.born]).toArray ck) (o2:= .iter mid since (seen++[e.born]) ck) hi rfl rfl i3' (fun _ _=>by simp) fun M' hc=>⟨(yd3 hi mid).2 i1,i2,by simp [yaj i3']⟩
  have hq3:VR w1 (MM Mx H ρ) ρ (DD H) e.val (l[j]).2.2:=by
   rcases k3 with rfl|rfl
   ·exact q3
   ·exact q3.carry (w':={w with drawn:=w.drawn+1}) (Nat.le_refl _) (fun _ _ hm=>⟨rfl,hm⟩) (fun id hd=>⟨hd,rfl,fun arr t ha=>⟨arr,ha,rfl⟩⟩)
  have hval:VR {w1 with heap:=w1.heap.setIfInBounds (ρ iid).block (.mapIter (some (ρ mid).block) since (seen++[e.born]).toArray ck)} (MM Mx (hset H iid (.iter mid since (seen++[e.born]) ck)) ρ) ρ (DD (hset H iid (.iter mid since (seen++[e.born]) ck))) e.val (l[j]).2.2:=by
   refine hq3.carry (by simp) (fun b hb hm=>?_) (fun i hi'=>⟨(yd3 hi i).2 hi',rfl,fun ar tt har=>?_⟩)
   ·have hne:b≠(ρ iid).block:=fun e'=>hm (.inr ⟨iid,_,hi,rfl,e'.symm⟩)
    exact ⟨by show (w1.heap.setIfInBounds _ _)[b]?=_;rw [Array.getElem?_setIfInBounds_ne (Ne.symm hne)],fun hh=>hm ((ygp (o':= .iter mid since (seen++[e.born]) ck) hi rfl b).1 hh)⟩
   ·by_cases e':(ρ i).block=(ρ iid).block
    ·rw [e'] at har;rw [i3'] at har;cases har
    ·exact ⟨ar,by show (w1.heap.setIfInBounds _ _)[(ρ i).block]?=_;rw [Array.getElem?_setIfInBounds_ne (Ne.symm e')];exact har,rfl⟩
  refine Oper.wp_value (by rw [hrun0,k4];rfl) ⟨ρ,_,_,?_,hs2.put hd (.tup [.bool true,e.key,e.val] [.bool true, .str (l[j]).1,(l[j]).2.2] rfl fun i v x hv hx=>?_)⟩
  ·have:=h2 l[j] (List.getElem_mem hj2) (by rw [←q2];exact k2)
   rw [←q2] at this
   exact this
  ·match i,hv,hx with
   |0,hv,hx=>cases hv;cases hx;exact .bool _
   |1,hv,hx=>cases hv;cases hx;rw [q1];exact .str _
   |2,hv,hx=>cases hv;cases hx;exact hval
theorem VR.mp_D {w:World} {M:Nat->Prop} {ρ:Nat->Addr} {D:Nat->Prop} {v:Value} {id:Nat} (h:VR w M ρ D v (.mp id)):D id:=by cases h;assumption
theorem SpA.range {o:Oper} {x:Operand} {xt kt et mid t ck:Nat} {l:List (ByteArray×Nat×AV)} {K:Fr->Hp->Prop} (ho:o.op= .range xt x) (hd:dok o.dst N=true) (htk:tk P xt= .map kt et) (hx:evA fr x= .mp mid) (hm:hget H mid=some (.gmap t ck l))
  (h:K (fput fr o.dst (.ptr (hnew H) 0)) ((hnew H, .iter mid ck [] ck)::H)):SpA P N o K fr H:=by
 intro B w0 Mx w ρ a hs Q
 obtain ⟨es,g1,g2,g3⟩:=hs.objs mid _ hm
 have ex:=(hx▸hs.ev x).mp_inv
 have hn:hget H (hnew H)=none:=yd2 (Nat.le_refl _)
 have hmn:mid≠hnew H:=fun e=>by rw [←e,hm] at hn;cases hn
 have hs2:=hs.alloc (hnew H) hn (.mapIter (some (ρ mid).block) ck #[] ck) (.iter mid ck [] ck) fun M' ρ' D' hr hc=>by
  have h0:=hc (D:=DD H) (fun _ h=>h) (VR.mp (w:=w) (M:=MM Mx H ρ) (ρ:=ρ) mid ⟨_,hm⟩)
  have h1:=h0.mp_inv
  simp only [Value.map.injEq,Option.some.injEq] at h1
  exact ⟨h0.mp_D,by rw [hr],by rw [hr,←h1];exact yax⟩
 ·refine Oper.wp_value (v:= .pointer (some ⟨w.heap.size,0,none⟩)) (w':=w.alloc (.mapIter (some (ρ mid).block) ck #[] ck)) ?_ ⟨_,_,_,h,hs2.put hd ?_⟩
  ·simp only [execOp,ho,ex]
   simp [Instr.range,run_underlying (ycd htk),getObj,Sem.run,g1,newObj]
  ·have:=VR.ptr (w:=w.alloc (.mapIter (some (ρ mid).block) ck #[] ck)) (M:=MM Mx ((hnew H, .iter mid ck [] ck)::H) (upd ρ (hnew H) ⟨w.heap.size,0,none⟩)) (ρ:=upd ρ (hnew H) ⟨w.heap.size,0,none⟩) (D:=DD ((hnew H,AObj.iter mid ck [] ck)::H)) (hnew H) 0 yfw
   rwa [yao] at this
end
end Go.Proofs.YtmdjdekgakidhaaDoor
set_option linter.unusedSimpArgs false
set_option linter.unusedVariables false
namespace Go.Proofs.YtmdjdekgakidhaaDoor
open Go Go.RowKit
set_option linter.unusedVariables false
section
variable {P:Program} {N:Nat} {fr:Fr} {H:Hp} {K:Fr->Hp->Prop} {o:Oper}
theorem SpA.insert {t:Nat} {m k x:Operand} {id:Nat} {ob:AObj} (ho:o.op= .insert t m k x) (hd:dok o.dst N=true) (hs:muF P H t (evA fr m) (evA fr k) (evA fr x)=some (id,ob)) (h:K (fput fr o.dst .any) (hset H id ob)):SpA P N o K fr H:=by
 intro B w0 Mx w ρ a hsim Q
 obtain ⟨w',hrun,hs2⟩:=yih (P:=P) hsim (hsim.ev m) (hsim.ev k) (hsim.ev x) hs
 have:(execOp a.eval o).run P w= .ok .skip w':=by simp only [execOp,ho];simp [hrun]
 unfold Oper.wp
 rw [this]
 exact ⟨_,_,_,h,hs2.put hd (.any _)⟩
theorem SpA.makeMap {t kt et:Nat} {r:Operand} {n:Int} (ho:o.op= .makeMap t (some r)) (hd:dok o.dst N=true) (htk:tk P t= .map kt et) (hr:evA fr r=I n) (h:K (fput fr o.dst (.mp (hnew H))) ((hnew H,mkM P t)::H)):SpA P N o K fr H:=by
 intro B w0 Mx w ρ a hs Q
 have er:=(hr▸hs.ev r).int_inv
 have hn:hget H (hnew H)=none:=yd2 (Nat.le_refl _)
 have hrun:(execOp a.eval o).run P w= .ok (.value (.map (some w.heap.size))) (w.alloc (.map #[] 0)):=by
  simp only [execOp,ho]
  simp [Instr.makeMap,run_underlying (ycd htk),asInt,asIntOf,newObj,Sem.run,er]
 have hs2:=hs.alloc (hnew H) hn (.map #[] 0) (mkM P t) fun M' ρ' D' hr _=>by
  rcases ynh P t with e|e|e|e|e<;>rw [e]
  ·exact ⟨by simp, #[],0,by rw [hr];exact yax,rfl,by simp⟩
  ·exact ⟨[], #[],0,by rw [hr];exact yax,rfl,fun _=>rfl⟩
  ·exact ⟨[], #[],0,by rw [hr];exact yax,rfl,fun _=>rfl⟩
  ·exact ⟨#[],by rw [hr];exact yax,rfl,fun j e q he=>by simp at he⟩
  ·exact ⟨[], #[],0,by rw [hr];exact yax,rfl,fun _=>rfl⟩
 refine Oper.wp_value hrun ⟨_,_,_,h,hs2.put hd ?_⟩
 have:=VR.mp (w:=w.alloc (.map #[] 0)) (M:=MM Mx ((hnew H,mkM P t)::H) (upd ρ (hnew H) ⟨w.heap.size,0,none⟩)) (ρ:=upd ρ (hnew H) ⟨w.heap.size,0,none⟩) (D:=DD ((hnew H,mkM P t)::H)) (hnew H) yfw
 rwa [yao] at this
def strB (ts:List Int):ByteArray:=ts.foldl (fun r n=>r.push (UInt8.ofNat n.toNat)) ByteArray.empty
theorem SpA.b2s {s d e:Nat} {x:Operand} {id t:Nat} {ts:List Int} (ho:o.op= .convert s d x) (hd:dok o.dst N=true) (hs:tk P s= .slice e) (he:tk P e= .int .u8) (hdt:tk P d= .str) (hx:evA fr x= .sl 1 id 0 ts.length) (hob:hget H id=some (.cells t (.lst (ts.map (AV.int .u8)))))
  (h:K (fput fr o.dst (.str (strB ts))) H):SpA P N o K fr H:=by
 intro B w0 Mx w ρ a hsim Q
 have hv:=hsim.ev x
 rw [hx] at hv
 obtain ⟨h1,arr,h2,h3,h4⟩:=hsim.objs id _ hob
 simp only [Cs.len,List.length_map] at h3 h4
 generalize hvv:a.eval x=v at hv
 cases hv with
 |sl es id off len cap hdd hc arr' t' ad ha hb hr=>
  have hrun:(execOp a.eval o).run P w= .ok (.value (.string (strB ts))) w:=by
   have hconv:=run_convert_bytes_string (P:=P) w s d e (some ad) ts.length cap (yan hs) (ycc he) (yc0 hdt)
   have hl:(loadCells ad ts.length).run P w= .ok (ts.map (Value.int .u8)).toArray w:=by
    have hcell: ∀j,j<ts.length->w.cell? (ad.add j)=some ((ts.map (Value.int .u8)).getD j undef):=fun j hj=>by
     have hcap:0<cap:=by omega
     have e:=ha hcap
     rw [show (ρ id).add 0=ρ id from rfl] at e
     subst e
     obtain ⟨u,g1,g2⟩:=h4 j hj
     rw [ybs h1]
     have hu:u= .int .u8 (ts[j]):=by
      simp only [Cs.get,List.getD_eq_getElem?_getD,List.getElem?_map,List.getElem?_eq_getElem hj,Option.map_some,Option.getD_some] at g2
      exact g2.int_inv
     simp [World.cell?,h2,g1,hu,hj]
    have:=yb9 (P:=P) (w:=w) (a:=ad) (x:=fun j=>(ts.map (Value.int .u8)).getD j undef) ts.length 0 #[] (fun j _ hj=>hcell j (by omega))
    simp only [loadCells,this]
    congr 1
    apply Array.ext'
    apply List.ext_getElem?
    intro i
    by_cases hi:i<ts.length
    ·simp [hi]
    ·simp [hi]
   simp only [execOp,ho,hvv]
   rw [Sem.run_bind,hconv,run_bytesToString w ad ts.length cap ts hl]
   rfl
  exact Oper.wp_value hrun ⟨ρ,_,_,h,hsim.put hd (.str _)⟩
theorem SpL.ofX {ops:Array Oper} {r:List Oper} (hc:cvOk P o.op=true) (hq:quF P H (evA fr) o.op=none) (ha:alF P (hnew H) (evA fr) o.op=none) (hx:awX P N o fr H fun fr' H'=>awL P N ops r fr' H' K):SpL P N ops fr H K o r:=⟨awO.of hc hq ha hx⟩
theorem SpL.b2s {ops:Array Oper} {r:List Oper} {s d e:Nat} {x:Operand} {id t:Nat} {ts:List Int} (ho:o.op= .convert s d x) (hd:dok o.dst N=true) (hs:tk P s= .slice e) (he:tk P e= .int .u8) (hdt:tk P d= .str) (hx:evA fr x= .sl 1 id 0 ts.length) (hob:hget H id=some (.cells t (.lst (ts.map (AV.int .u8)))))
  (h:awL P N ops r (fput fr o.dst (.str (strB ts))) H K):SpL P N ops fr H K o r:=by
 refine SpL.ofX ?_ ?_ ?_ ?_
 ·rw [ho];simp only [cvOk,hs]
 ·rw [ho];simp only [quF,opF,ylj,hdt,hx]
 ·rw [ho];rfl
 ·unfold awX;rw [ho];exact ⟨rfl,SpA.b2s (K:=fun fr' H'=>awL P N ops r fr' H' K) ho hd hs he hdt hx hob h⟩
theorem SpL.next {ops:Array Oper} {r:List Oper} {x:Operand} {iid mid since last t ck:Nat} {seen:List Nat} {l:List (ByteArray×Nat×AV)} (ho:o.op= .next x false) (hd:dok o.dst N=true) (hx:evA fr x= .ptr iid 0) (hi:hget H iid=some (.iter mid since seen last)) (hm:hget H mid=some (.gmap t ck l))
  (hb: ∀q∈l,q.2.1<since) (hsl:since<=last) (h1:(∀q∈l,q.2.1∈seen)->awL P N ops r (fput fr o.dst (.tup [.bool false])) H K)
  (h2: ∀q∈l,q.2.1∉seen->awL P N ops r (fput fr o.dst (.tup [.bool true, .str q.1,q.2.2])) (hset H iid (.iter mid since (seen++[q.2.1]) ck)) K):SpL P N ops fr H K o r:=by
 refine SpL.ofX ?_ ?_ ?_ ?_
 ·rw [ho];rfl
 ·rw [ho];rfl
 ·rw [ho];rfl
 ·unfold awX;rw [ho];exact ⟨rfl,SpA.next (K:=fun fr' H'=>awL P N ops r fr' H' K) ho hd hx hi hm hb hsl h1 h2⟩
theorem SpL.range {ops:Array Oper} {r:List Oper} {x:Operand} {xt kt et mid t ck:Nat} {l:List (ByteArray×Nat×AV)} (ho:o.op= .range xt x) (hd:dok o.dst N=true) (htk:tk P xt= .map kt et) (hx:evA fr x= .mp mid) (hm:hget H mid=some (.gmap t ck l))
  (h:awL P N ops r (fput fr o.dst (.ptr (hnew H) 0)) ((hnew H, .iter mid ck [] ck)::H) K):SpL P N ops fr H K o r:=by
 refine SpL.ofX ?_ ?_ ?_ ?_
 ·rw [ho];rfl
 ·rw [ho];rfl
 ·rw [ho];rfl
 ·unfold awX;rw [ho];exact ⟨rfl,SpA.range (K:=fun fr' H'=>awL P N ops r fr' H' K) ho hd htk hx hm h⟩
theorem SpL.insert {ops:Array Oper} {r:List Oper} {t:Nat} {m k x:Operand} {id:Nat} {ob:AObj} (ho:o.op= .insert t m k x) (hd:dok o.dst N=true) (hs:muF P H t (evA fr m) (evA fr k) (evA fr x)=some (id,ob)) (h:awL P N ops r (fput fr o.dst .any) (hset H id ob) K):SpL P N ops fr H K o r:=by
 refine SpL.ofX ?_ ?_ ?_ ?_
 ·rw [ho];rfl
 ·rw [ho];rfl
 ·rw [ho];rfl
 ·unfold awX;rw [ho];exact ⟨rfl,SpA.insert (K:=fun fr' H'=>awL P N ops r fr' H' K) ho hd hs h⟩
theorem SpL.makeMap {ops:Array Oper} {r:List Oper} {t kt et:Nat} {x:Operand} {n:Int} (ho:o.op= .makeMap t (some x)) (hd:dok o.dst N=true) (htk:tk P t= .map kt et) (hr:evA fr x=I n) (h:awL P N ops r (fput fr o.dst (.mp (hnew H))) ((hnew H,mkM P t)::H) K):SpL P N ops fr H K o r:=by
 refine SpL.ofX ?_ ?_ ?_ ?_
 ·rw [ho];rfl
 ·rw [ho];rfl
 ·rw [ho];rfl
 ·unfold awX;rw [ho];exact ⟨rfl,SpA.makeMap (K:=fun fr' H'=>awL P N ops r fr' H' K) ho hd htk hr h⟩
end
end Go.Proofs.YtmdjdekgakidhaaDoor
