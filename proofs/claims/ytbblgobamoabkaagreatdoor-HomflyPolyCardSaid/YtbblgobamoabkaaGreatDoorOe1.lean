/- Statements that draw their order: what only computes with its operands may go ahead. -/
import Derived.Test.YtbblgobamoabkaaGreatDoorGc
set_option linter.unusedSimpArgs false
set_option linter.unusedVariables false
namespace Go.Proofs.YtbblgobamoabkaaGreatDoor
open Go Go.RowKit
section
variable {P:Program} {α β:Type}
def yce (P:Program) (s:Sem α):Prop:=(∃r,∀w,s.run P w= .ok r w)\/ ∀w r w1,s.run P w≠ .ok r w1
theorem yce.pure (x:α):yce P (Pure.pure x:Sem α):= .inl ⟨x,fun w=>by simp⟩
theorem yce.stuck (x:String):yce P (stuck x:Sem α):= .inr fun w r w1 h=>by simp [Go.stuck] at h
theorem yce.bind {s:Sem α} {f:α->Sem β} (h:yce P s) (hf: ∀x,yce P (f x)):yce P (s>>=f):=by
 rcases h with ⟨r,hr⟩|hn
 ·rcases hf r with ⟨q,hq⟩|hm
  ·exact .inl ⟨q,fun w=>by rw [Sem.run_bind,hr w,Result.andThen_ok,hq w]⟩
  ·exact .inr fun w q w1 h=>by rw [Sem.run_bind,hr w,Result.andThen_ok] at h;exact hm _ _ _ h
 ·refine .inr fun w q w1 h=>?_
  rw [Sem.run_bind] at h
  cases hs:s.run P w with
  |ok r w2=>exact hn _ _ _ hs
  |halt x w2=>rw [hs] at h;simp at h
theorem yce.size (t:Nat):yce P (sizeOf t):=by
 cases h:P.info? t with
 |some i=>exact .inl ⟨i.size,fun w=>by simp [sizeOf,typeInfo,h]⟩
 |none=>exact .inr fun w r w1 g=>by simp [sizeOf,typeInfo,h,Go.stuck] at g
theorem yce.bound (x:Value) (y:Nat) (c:BoundsCode):yce P (Instr.sliceBound x y c):=by
 unfold Instr.sliceBound
 refine .bind ?_ fun p=>?_
 ·cases x
  case int k n=>exact .pure _
  case pointer a=>cases a<;>first|exact .stuck _|exact .inr fun w r w1 g=>by simp [asIntOf,unsupported] at g
  all_goals exact .stuck _
 ·obtain ⟨k,i⟩:=p
  simp only
  split
  ·exact .pure _
  ·exact .inr fun w r w1 g=>by
    simp [boundsPanic,runtimePanic,goPanic] at g
    split at g<;>(try split at g)<;>cases g
theorem yce.bounds (b:Bool) (len cap:Nat) (lo hi mx:Option Value):yce P (Instr.sliceBounds b len cap lo hi mx):=by
 unfold Instr.sliceBounds
 cases lo<;>cases hi<;>cases mx<;>dsimp only
 all_goals repeat (first|exact .pure _|exact .bound _ _ _|exact .stuck _|refine .bind ?_ fun _=>?_)
theorem yce.of_run {s s':Sem α} (h: ∀w,s.run P w=s'.run P w) (hs:yce P s'):yce P s:=by
 rcases hs with ⟨r,hr⟩|hn
 ·exact .inl ⟨r,fun w=>by rw [h,hr]⟩
 ·exact .inr fun w r w1 g=>hn w r w1 (by rw [←h];exact g)
theorem yce.slice {t:Nat} {e:Nat} (h:tk P t= .slice e) (x:Value) (lo hi mx:Option Value):yce P (Instr.sliceAt t x lo hi mx):=by
 refine .of_run (fun w=>yc6 (ya3 h) (by simp) x lo hi mx) ?_
 cases x
 case slice a len cap=>
  refine .of_run (s':=do
   let (l,h,m)←Instr.sliceBounds true len cap lo hi mx
   let size←sizeOf e
   Pure.pure (Value.slice (if m=l then a else a.map (·.add (l*size))) (h-l) (m-l))) (fun w=>?_) (.bind (.bounds _ _ _ _ _ _) fun _=> .bind (.size _) fun _=> .pure _)
  simp [Instr.slice,run_underlying (ya3 h)]
 all_goals exact .inr fun w r w1 g=>by simp [Instr.slice,run_underlying (ya3 h),Go.stuck] at g
def yo2 (P:Program):Op->Bool
 | .move _| .assign _=>true
 | .slice t _ _ _ none=>match tk P t with
   | .slice _=>true
   |_=>false
 |_=>false
theorem yr0 {o:Oper} (h:yo2 P o.op=true) (ev:Operand->Value):yce P (execOp ev o):=by
 cases ho:o.op with
 |move x=>simp only [execOp,ho];exact .pure _
 |assign x=>simp only [execOp,ho];exact .pure _
 |slice t x lo hi mx=>
  rw [ho] at h
  cases mx with
  |some _=>cases h
  |none=>
   simp only [yo2] at h
   split at h
   ·rename_i e hk
    simp only [execOp,ho]
    exact .bind (.slice hk _ _ _ _) fun _=> .pure _
   ·cases h
 |_=>rw [ho] at h;cases h
theorem yyj {o:Oper} (h:yo2 P o.op=true) {N:Nat} {fr:Fr} {H:Hp} {K:Fr->Hp->Prop} (hq:awO P N o fr H K): ∃p r,quF P H (evA fr) o.op=some (p,r)/\p/\dok o.dst N=true/\K (fput fr o.dst r) H:=by
 obtain ⟨_,hq⟩:=hq
 split at hq
 ·rename_i p r e;exact ⟨p,r,e,hq⟩
 ·rename_i e
  exfalso
  cases ho:o.op with
  |move x=>rw [ho] at e;simp [quF,opF] at e
  |assign x=>rw [ho] at e;simp [quF,opF] at e
  |slice t x lo hi mx=>
   simp only [ho,alF,awX,spOp] at hq
   exact absurd hq.1 (by decide)
  |_=>rw [ho] at h;cases h
end
def eagN (P:Program) (ops:Array Oper) (listed:Array Bool):List (Nat×Tr)->Bool
 |[(i,_)]=>Region.free .any ops listed i&&(Region.ready .any ops listed).contains i&&(match ops[i]? with|some o=>o.guard.isNone&&yo2 P o.op|none=>false)
 |_=>false
mutual
def chkE (P:Program) (ops:Array Oper) (listed:Array Bool):Nat->Tr->Bool
 |0, .done=>(Region.ready .any ops listed).isEmpty
 |f+1, .node l=>(eagN P ops listed l||(!(Region.ready .any ops listed).isEmpty&&(Region.ready .any ops listed==l.map (·.1))))&&yo3 P ops listed f l
 |_,_=>false
def yo3 (P:Program) (ops:Array Oper) (listed:Array Bool) (f:Nat):List (Nat×Tr)->Bool
 |[]=>true
 |(i,t)::r=>chkE P ops (listed.setIfInBounds i true) f t&&yo3 P ops listed f r
end
theorem yjp {P:Program} {ops:Array Oper} {listed:Array Bool} {f:Nat}: ∀(l:List (Nat×Tr)),yo3 P ops listed f l=true-> ∀q∈l,chkE P ops (listed.setIfInBounds q.1 true) f q.2=true
 |[],_,q,hq=>by cases hq
 |(i,t)::r,h,q,hq=>by
  simp only [yo3,Bool.and_eq_true] at h
  rcases List.mem_cons.1 hq with e|e
  ·subst e;exact h.1
  ·exact yjp r h.2 q e
theorem yyk {P:Program} {N:Nat} {ops:Array Oper} {B:Nat} {w0:ybj} {Mx:Nat->Prop} {K:Fr->Hp->Prop} (hsel:Region.noSelect ops=true) (Q:Exit->Act->World->Prop) (hP: ∀c a w,¬Q (.panic c) a w) (hQ: ∀a' w' ρ' fr' H',K fr' H'->Sim B w0 Mx N w' ρ' fr' H' a'->Q .normal a' w'): ∀(f:Nat) (t:Tr) (listed:Array Bool) (w:World) (ρ:Nat->Addr) (fr:Fr) (H:Hp) (a:Act),chkE P ops listed f t=true->awT P N ops t fr H K->Sim B w0 Mx N w ρ fr H a->wpAny P .any ops Q f listed a w:=by
 intro f
 induction f with
 |zero=>
  intro t listed w ρ fr H a hc h hs
  cases t with
  |done=>
   simp only [chkE,List.isEmpty_iff] at hc
   simp only [awT] at h
   exact ⟨hc,hQ _ _ ρ _ _ h hs⟩
  |node l=>simp [chkE] at hc
 |succ f ih=>
  intro t listed w ρ fr H a hc h hs
  cases t with
  |done=>simp [chkE] at hc
  |node l=>
   simp only [chkE,Bool.and_eq_true,Bool.or_eq_true] at hc
   obtain ⟨hc1,hc2⟩:=hc
   simp only [awT] at h
   rcases hc1 with hc1|hc1
   ·unfold eagN at hc1
    split at hc1
    ·rename_i i t'
     simp only [Bool.and_eq_true] at hc1
     obtain ⟨⟨hf,hr⟩,ho⟩:=hc1
     cases hoi:ops[i]? with
     |none=>rw [hoi] at ho;cases ho
     |some o=>
      rw [hoi] at ho
      simp only [Bool.and_eq_true,Option.isNone_iff_eq_none] at ho
      have h1:=yig _ h (i,t') (List.mem_singleton.2 rfl)
      have h2:=yjp _ hc2 (i,t') (List.mem_singleton.2 rfl)
      simp only [hoi,Option.toList_some,awL,ho.1] at h1
      obtain ⟨p,r,hq,hp,hd,hk⟩:=yyj ho.2 h1
      obtain ⟨v,hrun,hv⟩:=yg6 (P:=P) (o:=o) (a:=a) hs.objs hs.ev (fun s d x e=>by rw [e] at ho;cases ho.2) hq hp
      have hw:Region.wanted o (yielded ops a.tmps)=true:=by simp [Region.wanted,ho.1]
      have hy:Yields P ops o v a:= .inl ⟨hw,fun w'=>by
       rcases yr0 ho.2 a.eval with ⟨r',hr'⟩|hn
       ·have:=hr' w;rw [hrun] at this;cases this;exact hr' w'
       ·exact absurd hrun (hn _ _ _)⟩
      exact wpAny_take hoi hsel hf hr (fun c a w h=>absurd h (hP c _ _)) hy (ih t' _ w ρ _ _ _ h2 hk (hs.put hd hv))
    ·cases hc1
   ·simp only [Bool.and_eq_true,Bool.not_eq_true',beq_iff_eq] at hc1
    refine ⟨fun hnil=>by rw [hnil] at hc1;simp at hc1,fun i hi=>?_⟩
    rw [hc1.2] at hi
    obtain ⟨q,hq,rfl⟩:=List.mem_map.1 hi
    have h1:=yig l h q hq
    have h2:=yjp l hc2 q hq
    have hr:q.1∈Region.ready .any ops listed:=by rw [hc1.2];exact List.mem_map_of_mem hq
    obtain ⟨_,o,g2,_⟩:=mem_ready.1 hr
    rw [g2] at h1
    exact yl8 g2 h1 hs _ _ fun a' w' ρ' fr' H' hk hs'=>ih q.2 _ w' ρ' fr' H' a' h2 hk hs'
def y6q (Q:Act->World->Prop):Exit->Act->World->Prop
 | .normal,a,w=>Q a w
 |_,_,_=>False
theorem yac.introE {P:Program} {N:Nat} {ops:Array Oper} {id:Nat} {fr:Fr} {H:Hp} {Q:Exit->Fr->Hp->Prop} (t:Tr) (hchk:(chkE P ops (Array.replicate ops.size false) ops.size t&&Region.noSelect ops)=true) (hm:P.follows .mixedOrders=true)
  (h:awT P N ops t fr H (Q .normal)):yac P N id ops fr H Q:=by
 simp only [Bool.and_eq_true] at hchk
 refine ⟨fun B w0 Mx w ρ a hs=>wp_mono (wp_region_any (Q:=y6q fun a' w'=> ∃ρ' fr' H',Q .normal fr' H'/\Sim B w0 Mx N w' ρ' fr' H' a') hm (yyk hchk.2 _ (fun _ _ _ h=>h) (fun _ _ ρ' fr' H' hk hs'=>⟨ρ',fr',H',hk,hs'⟩) ops.size t _ _ ρ fr H a hchk.1 h hs.draw)) fun e a' w' h=>?_⟩
 cases e<;>first|exact h|exact h.elim
end Go.Proofs.YtbblgobamoabkaaGreatDoor
