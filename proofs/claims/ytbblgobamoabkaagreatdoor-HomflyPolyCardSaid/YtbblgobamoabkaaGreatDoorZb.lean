/- The author's own program logic: small facts; two objects change their numbers. -/
import Derived.Test.YtbblgobamoabkaaGreatDoorTy
import Derived.Test.YtbblgobamoabkaaGreatDoorGc
import Derived.Laws.IdiomRangeMap
set_option linter.unusedSimpArgs false
set_option linter.unusedVariables false
namespace Go.Proofs.YtbblgobamoabkaaGreatDoor
open Go Go.RowKit
theorem y6e {x:AV} (h:p1 x=true):p2 x=true:=by cases x<;>first|rfl|cases h
theorem y6f {x:AV} (h:p1 x=true):p3 x=true:=by cases x<;>first|rfl|cases h
theorem y6g {x:AV} (H:Hp) (h:p1 x=true):s1 H x=true:=by cases x<;>first|rfl|cases h
theorem y6h {x:AV} (H:Hp) (h:p1 x=true):s2 H x=true:=by cases x<;>first|rfl|cases h
theorem y3t {x:AV} (H:Hp) (n:Nat) (h:p1 x=true):snap H (n+1) x=x:=by cases x<;>first|rfl|cases h
theorem y01 {x:AV} (H:Hp) (n:Nat) (h:p1 x=true):yas H (n+1) x:=by cases x<;>first|trivial|cases h
theorem y5c {x:AV} (H:Hp) (n:Nat) (h:p1 x=true):frzV H (n+1) x=x:=by cases x<;>first|rfl|cases h
theorem y3u {x:AV} (H:Hp) (n:Nat) (h:p1 x=true):frzP H (n+1) x:=by cases x<;>first|trivial|cases h
theorem y6i {x:AV} (id:Nat) (h:p1 x=true):n1 id x=true:=by cases x<;>first|rfl|cases h
section
variable {c:List AV} (h:c.all p1=true)
include h
theorem ybu:c.all p2=true:=List.all_eq_true.2 fun x hx=>y6e (List.all_eq_true.1 h x hx)
theorem ybk:c.all p3=true:=List.all_eq_true.2 fun x hx=>y6f (List.all_eq_true.1 h x hx)
theorem ybv (H:Hp):c.all (s1 H)=true:=List.all_eq_true.2 fun x hx=>y6g H (List.all_eq_true.1 h x hx)
theorem ybf (H:Hp):c.all (s2 H)=true:=List.all_eq_true.2 fun x hx=>y6h H (List.all_eq_true.1 h x hx)
theorem ybw (i:Nat):c.all (n1 i)=true:=List.all_eq_true.2 fun x hx=>y6i i (List.all_eq_true.1 h x hx)
theorem ya5 (H:Hp) (n:Nat):c.map (snap H (n+1))=c:=by
 conv=>rhs;rw [←List.map_id c]
 exact List.map_congr_left fun x hx=>y3t H n (List.all_eq_true.1 h x hx)
theorem yav (H:Hp) (n:Nat):(∀x∈c,yas H (n+1) x)=True:=eq_true fun x hx=>y01 H n (List.all_eq_true.1 h x hx)
theorem ybb (H:Hp) (n:Nat):c.map (frzV H (n+1))=c:=by
 conv=>rhs;rw [←List.map_id c]
 exact List.map_congr_left fun x hx=>y5c H n (List.all_eq_true.1 h x hx)
theorem ya6 (H:Hp) (n:Nat):(∀x∈c,frzP H (n+1) x)=True:=eq_true fun x hx=>y3u H n (List.all_eq_true.1 h x hx)
end
end Go.Proofs.YtbblgobamoabkaaGreatDoor
namespace Go.Proofs.YtbblgobamoabkaaGreatDoor
open Go Go.RowKit
def swI (i j n:Nat):Nat:=if n=i then j else if n=j then i else n
theorem ydf (i j n:Nat):swI i j (swI i j n)=n:=by
 unfold swI
 by_cases h1:n=i
 ·rw [if_pos h1]
  by_cases h2:j=i
  ·rw [if_pos h2];omega
  ·rw [if_neg h2,if_pos rfl];omega
 ·rw [if_neg h1]
  by_cases h2:n=j
  ·rw [if_pos h2,if_pos rfl];omega
  ·rw [if_neg h2,if_neg h1,if_neg h2]
def swV (i j:Nat):Nat->AV->AV
 |0,x=>if p1 x then x else .any
 |n+1,x=>match x with
  | .sl es id off len=> .sl es (swI i j id) off len
  | .ptr id off=> .ptr (swI i j id) off
  | .mp id=> .mp (swI i j id)
  | .agg xs=> .agg (xs.map (swV i j n))
  | .tup xs=> .tup (xs.map (swV i j n))
  | .fn f xs=> .fn f (xs.map (swV i j n))
  |x=>x
def swO (i j:Nat):AObj->AObj
 | .cells t (.lst l)=> .cells t (.lst (l.map (swV i j 4)))
 | .imap t l=> .imap t (l.map fun q=>(q.1,swV i j 4 q.2))
 | .gmap t ck l=> .gmap t ck (l.map fun q=>(q.1,q.2.1,swV i j 4 q.2.2))
 | .iter m s sn la=> .iter (swI i j m) s sn la
 |o=>o
def swH (i j:Nat):Hp->Hp
 |[]=>[]
 |(k,o)::r=>(swI i j k,swO i j o)::swH i j r
def swF (i j:Nat):Fr->Fr
 |[]=>[]
 |(t,x)::r=>(t,swV i j 4 x)::swF i j r
theorem ye3 (i j:Nat): ∀(H:Hp) (k:Nat),hget (swH i j H) (swI i j k)=(hget H k).map (swO i j)
 |[],k=>rfl
 |(n,o)::r,k=>by
  simp only [swH,hget]
  by_cases e:n=k
  ·subst e;simp
  ·have: ¬swI i j n=swI i j k:=fun h=>e (by have:=congrArg (swI i j) h;rwa [ydf,ydf] at this)
   rw [if_neg this,if_neg e];exact ye3 i j r k
theorem yn9 (i j:Nat) (H:Hp) (k:Nat):hget (swH i j H) k=(hget H (swI i j k)).map (swO i j):=by
 have:=ye3 i j H (swI i j k);rwa [ydf] at this
theorem yp5 (i j:Nat): ∀(fr:Fr) (t:Nat),fget (swF i j fr) t=swV i j 4 (fget fr t)
 |[],t=>rfl
 |(s,x)::r,t=>by
  simp only [swF,fget]
  split
  ·rfl
  ·exact yp5 i j r t
theorem yd9 (i j:Nat) (o:AObj):(swO i j o).live=o.live:=by unfold swO;split<;>rfl
theorem yux {w:World} {M:Nat->Prop} {ρ ρ':Nat->Addr} {D D':Nat->Prop} {i j:Nat} (hD: ∀k,D k->D' (swI i j k)/\ρ' (swI i j k)=ρ k): ∀(n:Nat) (v:Value) (x:AV),VR w M ρ D v x->VR w M ρ' D' v (swV i j n x):=by
 intro n
 induction n with
 |zero=>
  intro v x hv
  simp only [swV]
  split
  ·rename_i hp;exact hv.pure1 hp
  ·exact .any _
 |succ n ih=>
  intro v x hv
  cases hv with
  |any v=>exact .any _
  |int k m=>exact .int _ _
  |bool b=>exact .bool _
  |str s=>exact .str _
  |nils=>exact .nils
  |mp id hd=>obtain ⟨h1,h2⟩:=hD id hd;simp only [swV];rw [←h2];exact .mp _ h1
  |ro es len c ad cap x hl hc he h0 hv=>exact VR.pure1 (VR.ro (D:=D) es len c ad cap x hl hc he h0 hv) rfl
  |rp c off b x hb hm hj hv=>exact VR.pure1 (VR.rp (D:=D) c off b x hb hm hj hv) rfl
  |ptr id off hd=>obtain ⟨h1,h2⟩:=hD id hd;simp only [swV];rw [←h2];exact .ptr _ _ h1
  |sl es id off len cap hd hc arr t ad ha hb hr=>
   obtain ⟨h1,h2⟩:=hD id hd
   exact .sl es (swI i j id) off len cap h1 hc arr t ad (fun h=>by rw [h2];exact ha h) (by rw [h2];exact hb) (by rw [h2];exact hr)
  |agg vs xs hl hx=>
   simp only [swV]
   refine .agg vs _ (by simp [hl]) fun k u y hu hy=>?_
   simp only [List.getElem?_map] at hy
   obtain ⟨y',g1,rfl⟩:=Option.map_eq_some_iff.1 hy
   exact ih u y' (hx k u y' hu g1)
  |tup vs xs hl hx=>
   simp only [swV]
   refine .tup vs _ (by simp [hl]) fun k u y hu hy=>?_
   simp only [List.getElem?_map] at hy
   obtain ⟨y',g1,rfl⟩:=Option.map_eq_some_iff.1 hy
   exact ih u y' (hx k u y' hu g1)
  |fn f vs xs hl hx=>
   simp only [swV]
   refine .fn f vs _ (by simp [hl]) fun k u y hu hy=>?_
   simp only [List.getElem?_map] at hy
   obtain ⟨y',g1,rfl⟩:=Option.map_eq_some_iff.1 hy
   exact ih u y' (hx k u y' hu g1)
theorem y3v {w:World} {M:Nat->Prop} {ρ ρ':Nat->Addr} {D D':Nat->Prop} {i j:Nat} (hD: ∀k,D k->D' (swI i j k)/\ρ' (swI i j k)=ρ k) {k:Nat} {o:AObj} (hi:D k) (h:ObjR w M ρ D k o):ObjR w M ρ' D' (swI i j k) (swO i j o):=by
 have hr:=yux (w:=w) (M:=M) (ρ':=ρ') (D':=D') hD
 have he:=(hD k hi).2
 cases o with
 |gone=>trivial
 |cells t c=>
  obtain ⟨e1,arr,e2,e3,e4⟩:=h
  cases c with
  |ints l=>exact ⟨by rw [he];exact e1,arr,by rw [he];exact e2,by rw [he];exact e3,fun j hj=>let ⟨u,hu,hx⟩:=e4 j hj;⟨u,by rw [he];exact hu,hx.pure1 rfl⟩⟩
  |bools l=>exact ⟨by rw [he];exact e1,arr,by rw [he];exact e2,by rw [he];exact e3,fun j hj=>let ⟨u,hu,hx⟩:=e4 j hj;⟨u,by rw [he];exact hu,hx.pure1 rfl⟩⟩
  |lst l=>
   refine ⟨by rw [he];exact e1,arr,by rw [he];exact e2,by rw [he];simpa [swO,Cs.len] using e3,fun n hj=>?_⟩
   simp only [Cs.len,List.length_map] at hj
   obtain ⟨u,hu,hx⟩:=e4 n hj
   refine ⟨u,by rw [he];exact hu,?_⟩
   simp only [Cs.get,List.getD_eq_getElem?_getD,List.getElem?_eq_getElem hj,Option.getD_some] at hx
   have:=hr 4 u _ hx
   simpa [Cs.get,hj] using this
 |fmap t c=>
  obtain ⟨k0,es,ck,k1,k2⟩:=h
  exact ⟨k0,es,ck,by rw [he];exact k1,k2⟩
 |gmap t ck l=>
  obtain ⟨es,k1,k2,k3⟩:=h
  refine ⟨es,by rw [he];exact k1,by simpa using k2,fun j e q h1 h2=>?_⟩
  simp only [List.getElem?_map] at h2
  obtain ⟨q',g1,g2⟩:=Option.map_eq_some_iff.1 h2
  cases g2
  obtain ⟨g3,g4,g5⟩:=k3 j e q' h1 g1
  exact ⟨g3,g4,hr 4 _ _ g5⟩
 |iter mid s sn la=>
  obtain ⟨k1,k2,k3⟩:=h
  obtain ⟨d1,d2⟩:=hD mid k1
  exact ⟨d1,by rw [he];exact k2,by rw [he,d2];exact k3⟩
 |imap t l=>
  obtain ⟨k0,es,ck,k1,k2,k3⟩:=h
  refine ⟨fun k x hx=>?_,es,ck,by rw [he];exact k1,by simpa using k2,fun j e k x h1 h2=>?_⟩
  ·obtain ⟨q,g1,g2⟩:=List.mem_map.1 hx
   cases g2
   have:=k0 q.1 q.2 g1
   cases hq:q.2<;>rw [hq] at this<;>first|(cases this;done)|rfl
  simp only [List.getElem?_map] at h2
  obtain ⟨q,g1,g2⟩:=Option.map_eq_some_iff.1 h2
  cases g2
  obtain ⟨g3,g4,g5⟩:=k3 j e q.1 q.2 h1 g1
  exact ⟨g3,hr 4 _ _ g4,g5⟩
section
variable {B:Nat} {w0:ybj} {Mx:Nat->Prop} {N:Nat} {w:World} {ρ:Nat->Addr} {fr:Fr} {H:Hp} {a:Act}
theorem Sim.swap (h:Sim B w0 Mx N w ρ fr H a) (i j:Nat):Sim B w0 Mx N w (fun k=>ρ (swI i j k)) (swF i j fr) (swH i j H) a:=by
 have hg: ∀k o,hget (swH i j H) k=some o-> ∃o',hget H (swI i j k)=some o'/\o=swO i j o':=fun k o hk=>by
  rw [yn9] at hk
  obtain ⟨o',h1,h2⟩:=Option.map_eq_some_iff.1 hk
  exact ⟨o',h1,h2.symm⟩
 have hM:MM Mx (swH i j H) (fun k=>ρ (swI i j k))=MM Mx H ρ:=by
  funext b
  apply propext
  constructor
  ·rintro (g|⟨id,o,g1,g2,g3⟩)
   ·exact .inl g
   ·obtain ⟨o',k1,rfl⟩:=hg id o g1
    exact .inr ⟨_,o',k1,by rw [yd9] at g2;exact g2,g3⟩
  ·rintro (g|⟨id,o,g1,g2,g3⟩)
   ·exact .inl g
   ·exact .inr ⟨swI i j id,swO i j o,by rw [ye3,g1];rfl,by rw [yd9];exact g2,by show (ρ (swI i j (swI i j id))).block=b;rw [ydf];exact g3⟩
 have hD: ∀k,DD H k->DD (swH i j H) (swI i j k)/\(fun k=>ρ (swI i j k)) (swI i j k)=ρ k:=fun k ⟨o,ho⟩=>⟨⟨swO i j o,by rw [ye3,ho];rfl⟩,by show ρ (swI i j (swI i j k))=ρ k;rw [ydf]⟩
 refine ⟨h.below,h.hB,h.mx,fun id o ho hl=>?_,fun id o ho=>?_,fun id o id' o' ho hl ho' hl' e=>?_,fun t=>?_,h.defers,h.size⟩
 ·obtain ⟨o',k1,rfl⟩:=hg id o ho
  exact h.own _ o' k1 (by rw [yd9] at hl;exact hl)
 ·obtain ⟨o',k1,rfl⟩:=hg id o ho
  have:=y3v (w:=w) (M:=MM Mx H ρ) (ρ':=fun k=>ρ (swI i j k)) hD ⟨o',k1⟩ (h.objs _ o' k1)
  rw [ydf] at this
  rw [hM];exact this
 ·obtain ⟨q,k1,rfl⟩:=hg id o ho
  obtain ⟨q',k1',rfl⟩:=hg id' o' ho'
  have:=h.inj _ q _ q' k1 (by rw [yd9] at hl;exact hl) k1' (by rw [yd9] at hl';exact hl') e
  have:=congrArg (swI i j) this
  rwa [ydf,ydf] at this
 ·rw [hM,yp5]
  exact yux hD 4 _ _ (h.frv t)
end
theorem Wk.swap (i j:Nat) (fr:Fr) (H:Hp):Wk fr H (swF i j fr) (swH i j H):=fun _ _ _ _ _ ρ _ hs=>⟨fun k=>ρ (swI i j k),hs.swap i j⟩
theorem Wk.subS (i j:Nat) {fr fr' fr1:Fr} {H H' H1:Hp} (e1:swF i j fr'=fr1) (e2:swH i j H'=H1) (e3:swF i j fr1=fr') (e4:swH i j H1=H') (hf:subF fr H1 fr1) (hh:subH H H1 H1):Wk fr H fr' H':=by
 have:=(Wk.sub hf hh).trans (Wk.swap i j fr1 H1)
 rwa [e3,e4] at this
attribute [go_sem] swI swV swO swH swF
end Go.Proofs.YtbblgobamoabkaaGreatDoor
set_option linter.unusedSimpArgs false
set_option linter.unusedVariables false
namespace Go.Proofs.YtbblgobamoabkaaGreatDoor
open Go Go.RowKit
set_option linter.unusedVariables false
section
variable {P:Program} {B:Nat} {w0:ybj} {Mx:Nat->Prop} {N:Nat} {fr:Fr} {H:Hp}
theorem awO.of {o:Oper} {K:Fr->Hp->Prop} (hc:cvOk P o.op=true) (hq:quF P H (evA fr) o.op=none) (ha:alF P (hnew H) (evA fr) o.op=none) (hx:awX P N o fr H K):awO P N o fr H K:=by
 unfold awO
 rw [hq,ha]
 exact ⟨hc,hx⟩
theorem Oper.wp_value {o:Oper} {a:Act} {w w':World} {v:Value} {K:Act->World->Prop} {Q:Exit->Act->World->Prop} (h:(execOp a.eval o).run P w= .ok (.value v) w') (hk:K (a.put o.dst v) w'):o.wp P a w K Q:=by
 unfold Oper.wp;rw [h];exact hk
theorem yrs {w:World} {ty:TypeId} {r bm since c0:Nat} {seen:List Nat} {es:Array MapEntry} {clock:Nat} (hr:w.heap[r]?=some (.mapIter (some bm) since seen.toArray c0)) (hb:w.heap[bm]?=some (.map es clock)) (hold: ∀x∈es.toList,x.born<since) (hsc:since<=c0) (ad:Addr) (had:ad.block=r/\ad.off=0):
  ((∀x∈es.toList,x.born∈seen)/\(Instr.next (.pointer (some ad)) false ty).run P w= .ok (.tuple #[.bool false]) w)\/
  ∃(j:Nat) (e:MapEntry) (w1:World),es[j]?=some e/\e.born∉seen/\(w1=w\/w1={w with drawn:=w.drawn+1})/\(Instr.next (.pointer (some ad)) false ty).run P w= .ok (.tuple #[.bool true,e.key,e.val]) {w1 with heap:=w1.heap.setIfInBounds r (.mapIter (some bm) since (seen++[e.born]).toArray clock)}:=by
 obtain ⟨ab,ao,asp⟩:=ad
 obtain ⟨rfl,rfl⟩:=had
 simp only [Instr.next,getObj,Sem.run_bind,Sem.run,hr,hb,Result.andThen,next_test_false seen.toArray es since c0 hold hsc,Bool.false_eq_true,if_false]
 have hmem: ∀x∈(Array.filter (fun e=> !seen.toArray.contains e.born) es).toList,x∈es.toList/\x.born∉seen:=fun x hx=>by simp at hx⊢;exact hx
 have hall:(Array.filter (fun e=> !seen.toArray.contains e.born) es)= #[]-> ∀x∈es.toList,x.born∈seen:=fun h x hx=>by
  rw [Array.filter_eq_empty_iff] at h
  have:=h x (by simpa using hx)
  simpa using this
 generalize Array.filter (fun e=> !seen.toArray.contains e.born) es=L at hmem hall⊢
 have e1:L.filter (fun x=>decide (x.born<since))=L:=Array.filter_eq_self.2 (fun x hx=>by simpa using hold x (hmem x (by simpa using hx)).1)
 have e2:L.filter (fun x=>decide (x.born≥since))= #[]:=by
  rw [Array.filter_eq_empty_iff]
  intro x hx
  have:=hold x (hmem x (by simpa using hx)).1
  simp
  omega
 simp only [e1,e2,Array.append_empty]
 by_cases h0:L.size=0
 ·left
  have:L= #[]:=Array.eq_empty_of_size_eq_zero h0
  refine ⟨hall this,?_⟩
  subst this
  simp [choose,Sem.run,Question.forced]
 ·right
  have hne:L.isEmpty=false:=by simp [Array.isEmpty,h0]
  simp only [hne,Bool.false_eq_true,if_false,Array.empty_append,Array.size_map]
  have hch: ∃(j:Nat) (w1:World),j<L.size/\(w1=w\/w1={w with drawn:=w.drawn+1})/\(if (Question.mapNext L.size).forced=true then (Result.ok 0 w:Result Nat) else Result.ok ((Question.mapNext L.size).cut (w.tape w.drawn (Question.mapNext L.size))) w.drew)= .ok j w1:=by
   by_cases hf:L.size<=1
   ·exact ⟨0,w,by omega, .inl rfl,by simp [Question.forced,hf]⟩
   ·refine ⟨_,w.drew,?_, .inr rfl,by rw [if_neg (by simp [Question.forced,hf])]⟩
    simp only [Question.cut]
    exact Nat.mod_lt _ (by omega)
  obtain ⟨j,w1,hj,hw1,hrun⟩:=hch
  obtain ⟨m1,m2⟩:=hmem L[j] (by simp)
  obtain ⟨i,hi,hie⟩:=List.mem_iff_getElem.1 m1
  refine ⟨i,L[j],w1,?_,m2,hw1,?_⟩
  ·rw [←hie];simp at hi⊢
  ·have hb1:w1.heap[ab]?=some (.mapIter (some bm) since seen.toArray c0):=by rcases hw1 with rfl|rfl<;>exact hr
   simp only [choose,Sem.run]
   by_cases hf:(Question.mapNext L.size).forced=true
   ·rw [if_pos hf] at hrun⊢
    injection hrun with q1 q2
    subst q1 q2
    simp [hj,setObj,Sem.run,hb1]
   ·rw [if_neg hf] at hrun⊢
    injection hrun with q1 q2
    subst q2
    simp only [q1]
    simp [hj,setObj,Sem.run,hb1]
theorem SpA.nextG {o:Oper} {x:Operand} {iid mid since last t ck:Nat} {seen:List Nat} {l:List (ByteArray×Nat×AV)} {K:Fr->Hp->Prop} (ho:o.op= .next x false) (hd:dok o.dst N=true) (hx:evA fr x= .ptr iid 0) (hi:hget H iid=some (.iter mid since seen last)) (hm:hget H mid=some (.gmap t ck l))
  (hb: ∀q∈l,q.2.1<since) (hsl:since<=last) (h1:(∀q∈l,q.2.1∈seen)->K (fput fr o.dst (.tup [.bool false])) H)
  (h2: ∀q∈l,q.2.1∉seen->K (fput fr o.dst (.tup [.bool true,gkA t q.1,q.2.2])) (hset H iid (.iter mid since (seen++[q.2.1]) ck))):SpA P N o K fr H:=by
 intro B w0 Mx w ρ a hs Q
 obtain ⟨i1,i2,i3⟩:=hs.objs iid _ hi
 obtain ⟨es,g1,g2,g3⟩:=hs.objs mid _ hm
 have ex:=(hx▸hs.ev x).ptr_inv.1
 have ead:(ρ iid).add 0=ρ iid:=rfl
 rw [ead] at ex
 have hold: ∀e∈es.toList,e.born<since:=fun e he=>by
  obtain ⟨j,hj,rfl⟩:=List.mem_iff_getElem.1 he
  have hj2:j<l.length:=by rw [←g2];simpa using hj
  obtain ⟨_,k2,_⟩:=g3 j _ l[j] (Array.getElem?_eq_getElem (by simpa using hj)) (List.getElem?_eq_getElem hj2)
  show (es[j]'(by simpa using hj)).born<since
  rw [k2];exact hb _ (List.getElem_mem hj2)
 have hrun0:(execOp a.eval o).run P w=((Instr.next (.pointer (some (ρ iid))) false o.type).run P w).andThen fun v w'=> .ok (.value v) w':=by
  simp only [execOp,ho,ex];simp
 rcases yrs (P:=P) (ty:=o.type) i3 g1 hold hsl (ρ iid) ⟨rfl,i2⟩ with ⟨k1,k2⟩|⟨j,e,w1,k1,k2,k3,k4⟩
 ·refine Oper.wp_value (by rw [hrun0,k2];rfl) ⟨ρ,_,H,h1 fun q hq=>?_,hs.put hd (.tup [.bool false] [.bool false] rfl fun i v x hv hx=>?_)⟩
  ·obtain ⟨j,hj,rfl⟩:=List.mem_iff_getElem.1 hq
   have hj2:j<es.size:=by omega
   obtain ⟨_,q2,_⟩:=g3 j es[j] l[j] (by simp [hj2]) (List.getElem?_eq_getElem hj)
   rw [←q2];exact k1 _ (by simp)
  ·match i,hv,hx with
   |0,hv,hx=>cases hv;cases hx;exact .bool _
 ·have hj:j<es.size:=(Array.getElem?_eq_some_iff.1 k1).1
  have hj2:j<l.length:=by omega
  obtain ⟨q1,q2,q3⟩:=g3 j e l[j] k1 (List.getElem?_eq_getElem hj2)
  have hs1:Sim B w0 Mx N w1 ρ fr H a:=by
   rcases k3 with rfl|rfl
   ·exact hs
   ·exact hs.draw
  have i3':w1.heap[(ρ iid).block]?=some (.mapIter (some (ρ mid).block) since seen.toArray last):=by rcases k3 with rfl|rfl<;>exact i3
  have hs2:=hs1.chgO (b2:= .mapIter (some (ρ mid).block) since (seen++[e.born]).toArray ck) (o2:= .iter mid since (seen++[e.born]) ck) hi rfl rfl i3' (fun _ _=>by simp) fun M' hc=>⟨(yev hi mid).2 i1,i2,by simp [yan i3']⟩
  have hq3:VR w1 (MM Mx H ρ) ρ (DD H) e.val (l[j]).2.2:=by
   rcases k3 with rfl|rfl
   ·exact q3
   ·exact q3.carry (w':={w with drawn:=w.drawn+1}) (Nat.le_refl _) (fun _ _ hm=>⟨rfl,hm⟩) (fun id hd=>⟨hd,rfl,fun arr t ha=>⟨arr,ha,rfl⟩⟩)
  have hval:VR {w1 with heap:=w1.heap.setIfInBounds (ρ iid).block (.mapIter (some (ρ mid).block) since (seen++[e.born]).toArray ck)} (MM Mx (hset H iid (.iter mid since (seen++[e.born]) ck)) ρ) ρ (DD (hset H iid (.iter mid since (seen++[e.born]) ck))) e.val (l[j]).2.2:=by
   refine hq3.carry (by simp) (fun b hb hm=>?_) (fun i hi'=>⟨(yev hi i).2 hi',rfl,fun ar tt har=>?_⟩)
   ·have hne:b≠(ρ iid).block:=fun e'=>hm (.inr ⟨iid,_,hi,rfl,e'.symm⟩)
    exact ⟨by show (w1.heap.setIfInBounds _ _)[b]?=_;rw [Array.getElem?_setIfInBounds_ne (Ne.symm hne)],fun hh=>hm ((yhj (o':= .iter mid since (seen++[e.born]) ck) hi rfl b).1 hh)⟩
   ·by_cases e':(ρ i).block=(ρ iid).block
    ·rw [e'] at har;rw [i3'] at har;cases har
    ·exact ⟨ar,by show (w1.heap.setIfInBounds _ _)[(ρ i).block]?=_;rw [Array.getElem?_setIfInBounds_ne (Ne.symm e')];exact har,rfl⟩
  refine Oper.wp_value (by rw [hrun0,k4];rfl) ⟨ρ,_,_,?_,hs2.put hd (.tup [.bool true,e.key,e.val] [.bool true,gkA t (l[j]).1,(l[j]).2.2] rfl fun i v x hv hx=>?_)⟩
  ·have:=h2 l[j] (List.getElem_mem hj2) (by rw [←q2];exact k2)
   rw [←q2] at this
   exact this
  ·match i,hv,hx with
   |0,hv,hx=>cases hv;cases hx;exact .bool _
   |1,hv,hx=>cases hv;cases hx;exact yvo q1
   |2,hv,hx=>cases hv;cases hx;exact hval
theorem SpA.next {o:Oper} {x:Operand} {iid mid since last t ck:Nat} {seen:List Nat} {l:List (ByteArray×Nat×AV)} {K:Fr->Hp->Prop} (ho:o.op= .next x false) (hd:dok o.dst N=true) (hx:evA fr x= .ptr iid 0) (hi:hget H iid=some (.iter mid since seen last)) (hm:hget H mid=some (.gmap t ck l))
  (hb: ∀q∈l,q.2.1<since) (hsl:since<=last) (h1:(∀q∈l,q.2.1∈seen)->K (fput fr o.dst (.tup [.bool false])) H)
  (h2: ∀q∈l,q.2.1∉seen->K (fput fr o.dst (.tup [.bool true, .str q.1,q.2.2])) (hset H iid (.iter mid since (seen++[q.2.1]) ck))) (ht:t<1000000000):SpA P N o K fr H:=
 SpA.nextG ho hd hx hi hm hb hsl h1 fun q hq hs=>by unfold gkA;rw [if_pos ht];exact h2 q hq hs
theorem VR.mp_D {w:World} {M:Nat->Prop} {ρ:Nat->Addr} {D:Nat->Prop} {v:Value} {id:Nat} (h:VR w M ρ D v (.mp id)):D id:=by cases h;assumption
theorem SpA.range {o:Oper} {x:Operand} {xt kt et mid t ck:Nat} {l:List (ByteArray×Nat×AV)} {K:Fr->Hp->Prop} (ho:o.op= .range xt x) (hd:dok o.dst N=true) (htk:tk P xt= .map kt et) (hx:evA fr x= .mp mid) (hm:hget H mid=some (.gmap t ck l))
  (h:K (fput fr o.dst (.ptr (hnew H) 0)) ((hnew H, .iter mid ck [] ck)::H)):SpA P N o K fr H:=by
 intro B w0 Mx w ρ a hs Q
 obtain ⟨es,g1,g2,g3⟩:=hs.objs mid _ hm
 have ex:=(hx▸hs.ev x).mp_inv
 have hn:hget H (hnew H)=none:=yeu (Nat.le_refl _)
 have hmn:mid≠hnew H:=fun e=>by rw [←e,hm] at hn;cases hn
 have hs2:=hs.alloc (hnew H) hn (.mapIter (some (ρ mid).block) ck #[] ck) (.iter mid ck [] ck) fun M' ρ' D' hr hc=>by
  have h0:=hc (D:=DD H) (fun _ h=>h) (VR.mp (w:=w) (M:=MM Mx H ρ) (ρ:=ρ) mid ⟨_,hm⟩)
  have h1:=h0.mp_inv
  simp only [Value.map.injEq,Option.some.injEq] at h1
  exact ⟨h0.mp_D,by rw [hr],by rw [hr,←h1];exact ya4⟩
 ·refine Oper.wp_value (v:= .pointer (some ⟨w.heap.size,0,none⟩)) (w':=w.alloc (.mapIter (some (ρ mid).block) ck #[] ck)) ?_ ⟨_,_,_,h,hs2.put hd ?_⟩
  ·simp only [execOp,ho,ex]
   simp [Instr.range,run_underlying (ybr htk),getObj,Sem.run,g1,newObj]
  ·have:=VR.ptr (w:=w.alloc (.mapIter (some (ρ mid).block) ck #[] ck)) (M:=MM Mx ((hnew H, .iter mid ck [] ck)::H) (upd ρ (hnew H) ⟨w.heap.size,0,none⟩)) (ρ:=upd ρ (hnew H) ⟨w.heap.size,0,none⟩) (D:=DD ((hnew H,AObj.iter mid ck [] ck)::H)) (hnew H) 0 ygi
   rwa [yay] at this
end
end Go.Proofs.YtbblgobamoabkaaGreatDoor
