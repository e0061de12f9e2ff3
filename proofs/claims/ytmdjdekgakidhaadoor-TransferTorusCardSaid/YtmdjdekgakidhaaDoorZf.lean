/- Statements that draw their order: what only computes with its operands may go ahead. -/
import Derived.Test.YtmdjdekgakidhaaDoorGc
import Derived.Test.YtmdjdekgakidhaaDoorZe
set_option linter.unusedSimpArgs false
set_option linter.unusedVariables false
namespace Go.Proofs.YtmdjdekgakidhaaDoor
open Go Go.RowKit
section
variable {P:Program} {α β:Type}
def ybl (P:Program) (s:Sem α):Prop:=(∃r,∀w,s.run P w= .ok r w)\/ ∀w r w1,s.run P w≠ .ok r w1
theorem ybl.pure (x:α):ybl P (Pure.pure x:Sem α):= .inl ⟨x,fun w=>by simp⟩
theorem ybl.stuck (x:String):ybl P (stuck x:Sem α):= .inr fun w r w1 h=>by simp [Go.stuck] at h
theorem ybl.bind {s:Sem α} {f:α->Sem β} (h:ybl P s) (hf: ∀x,ybl P (f x)):ybl P (s>>=f):=by
 rcases h with ⟨r,hr⟩|hn
 ·rcases hf r with ⟨q,hq⟩|hm
  ·exact .inl ⟨q,fun w=>by rw [Sem.run_bind,hr w,Result.andThen_ok,hq w]⟩
  ·exact .inr fun w q w1 h=>by rw [Sem.run_bind,hr w,Result.andThen_ok] at h;exact hm _ _ _ h
 ·refine .inr fun w q w1 h=>?_
  rw [Sem.run_bind] at h
  cases hs:s.run P w with
  |ok r w2=>exact hn _ _ _ hs
  |halt x w2=>rw [hs] at h;simp at h
theorem ybl.size (t:Nat):ybl P (sizeOf t):=by
 cases h:P.info? t with
 |some i=>exact .inl ⟨i.size,fun w=>by simp [sizeOf,typeInfo,h]⟩
 |none=>exact .inr fun w r w1 g=>by simp [sizeOf,typeInfo,h,Go.stuck] at g
theorem ybl.bound (x:Value) (y:Nat) (c:BoundsCode):ybl P (Instr.sliceBound x y c):=by
 unfold Instr.sliceBound
 refine .bind ?_ fun p=>?_
 ·cases x
  case int k n=>exact .pure _
  case pointer a=>cases a<;>first|exact .stuck _|exact .inr fun w r w1 g=>by simp [asIntOf,unsupported] at g
  all_goals exact .stuck _
 ·obtain ⟨k,i⟩:=p
  simp only
  split
  ·exact .pure _
  ·exact .inr fun w r w1 g=>by
    simp [boundsPanic,runtimePanic,goPanic] at g
    split at g<;>(try split at g)<;>cases g
theorem ybl.bounds (b:Bool) (len cap:Nat) (lo hi mx:Option Value):ybl P (Instr.sliceBounds b len cap lo hi mx):=by
 unfold Instr.sliceBounds
 cases lo<;>cases hi<;>cases mx<;>dsimp only
 all_goals repeat (first|exact .pure _|exact .bound _ _ _|exact .stuck _|refine .bind ?_ fun _=>?_)
theorem ybl.of_run {s s':Sem α} (h: ∀w,s.run P w=s'.run P w) (hs:ybl P s'):ybl P s:=by
 rcases hs with ⟨r,hr⟩|hn
 ·exact .inl ⟨r,fun w=>by rw [h,hr]⟩
 ·exact .inr fun w r w1 g=>hn w r w1 (by rw [←h];exact g)
theorem ybl.slice {t:Nat} {e:Nat} (h:tk P t= .slice e) (x:Value) (lo hi mx:Option Value):ybl P (Instr.sliceAt t x lo hi mx):=by
 refine .of_run (fun w=>ycm (yan h) (by simp) x lo hi mx) ?_
 cases x
 case slice a len cap=>
  refine .of_run (s':=do
   let (l,h,m)←Instr.sliceBounds true len cap lo hi mx
   let size←sizeOf e
   Pure.pure (Value.slice (if m=l then a else a.map (·.add (l*size))) (h-l) (m-l))) (fun w=>?_) (.bind (.bounds _ _ _ _ _ _) fun _=> .bind (.size _) fun _=> .pure _)
  simp [Instr.slice,run_underlying (yan h)]
 all_goals exact .inr fun w r w1 g=>by simp [Instr.slice,run_underlying (yan h),Go.stuck] at g
def yjg (P:Program):Op->Bool
 | .move _| .assign _=>true
 | .slice t _ _ _ none=>match tk P t with
   | .slice _=>true
   |_=>false
 |_=>false
theorem ykd {o:Oper} (h:yjg P o.op=true) (ev:Operand->Value):ybl P (execOp ev o):=by
 cases ho:o.op with
 |move x=>simp only [execOp,ho];exact .pure _
 |assign x=>simp only [execOp,ho];exact .pure _
 |slice t x lo hi mx=>
  rw [ho] at h
  cases mx with
  |some _=>cases h
  |none=>
   simp only [yjg] at h
   split at h
   ·rename_i e hk
    simp only [execOp,ho]
    exact .bind (.slice hk _ _ _ _) fun _=> .pure _
   ·cases h
 |_=>rw [ho] at h;cases h
theorem yny {o:Oper} (h:yjg P o.op=true) {N:Nat} {fr:Fr} {H:Hp} {K:Fr->Hp->Prop} (hq:awO P N o fr H K): ∃p r,quF P H (evA fr) o.op=some (p,r)/\p/\dok o.dst N=true/\K (fput fr o.dst r) H:=by
 obtain ⟨_,hq⟩:=hq
 split at hq
 ·rename_i p r e;exact ⟨p,r,e,hq⟩
 ·rename_i e
  exfalso
  cases ho:o.op with
  |move x=>rw [ho] at e;simp [quF,opF] at e
  |assign x=>rw [ho] at e;simp [quF,opF] at e
  |slice t x lo hi mx=>
   simp only [ho,alF,awX,spOp] at hq
   exact absurd hq.1 (by decide)
  |_=>rw [ho] at h;cases h
end
def eagN (P:Program) (ops:Array Oper) (listed:Array Bool):List (Nat×Tr)->Bool
 |[(i,_)]=>Region.free .any ops listed i&&(Region.ready .any ops listed).contains i&&(match ops[i]? with|some o=>o.guard.isNone&&yjg P o.op|none=>false)
 |_=>false
mutual
def chkE (P:Program) (ops:Array Oper) (listed:Array Bool):Nat->Tr->Bool
 |0, .done=>(Region.ready .any ops listed).isEmpty
 |f+1, .node l=>(eagN P ops listed l||(!(Region.ready .any ops listed).isEmpty&&(Region.ready .any ops listed==l.map (·.1))))&&yol P ops listed f l
 |_,_=>false
def yol (P:Program) (ops:Array Oper) (listed:Array Bool) (f:Nat):List (Nat×Tr)->Bool
 |[]=>true
 |(i,t)::r=>chkE P ops (listed.setIfInBounds i true) f t&&yol P ops listed f r
end
theorem yis {P:Program} {ops:Array Oper} {listed:Array Bool} {f:Nat}: ∀(l:List (Nat×Tr)),yol P ops listed f l=true-> ∀q∈l,chkE P ops (listed.setIfInBounds q.1 true) f q.2=true
 |[],_,q,hq=>by cases hq
 |(i,t)::r,h,q,hq=>by
  simp only [yol,Bool.and_eq_true] at h
  rcases List.mem_cons.1 hq with e|e
  ·subst e;exact h.1
  ·exact yis r h.2 q e
theorem ywb {P:Program} {N:Nat} {ops:Array Oper} {B:Nat} {w0:ya4} {Mx:Nat->Prop} {K:Fr->Hp->Prop} (hsel:Region.noSelect ops=true) (Q:Exit->Act->World->Prop) (hP: ∀c a w,¬Q (.panic c) a w) (hQ: ∀a' w' ρ' fr' H',K fr' H'->Sim B w0 Mx N w' ρ' fr' H' a'->Q .normal a' w'): ∀(f:Nat) (t:Tr) (listed:Array Bool) (w:World) (ρ:Nat->Addr) (fr:Fr) (H:Hp) (a:Act),chkE P ops listed f t=true->awT P N ops t fr H K->Sim B w0 Mx N w ρ fr H a->wpAny P .any ops Q f listed a w:=by
 intro f
 induction f with
 |zero=>
  intro t listed w ρ fr H a hc h hs
  cases t with
  |done=>
   simp only [chkE,List.isEmpty_iff] at hc
   simp only [awT] at h
   exact ⟨hc,hQ _ _ ρ _ _ h hs⟩
  |node l=>simp [chkE] at hc
 |succ f ih=>
  intro t listed w ρ fr H a hc h hs
  cases t with
  |done=>simp [chkE] at hc
  |node l=>
   simp only [chkE,Bool.and_eq_true,Bool.or_eq_true] at hc
   obtain ⟨hc1,hc2⟩:=hc
   simp only [awT] at h
   rcases hc1 with hc1|hc1
   ·unfold eagN at hc1
    split at hc1
    ·rename_i i t'
     simp only [Bool.and_eq_true] at hc1
     obtain ⟨⟨hf,hr⟩,ho⟩:=hc1
     cases hoi:ops[i]? with
     |none=>rw [hoi] at ho;cases ho
     |some o=>
      rw [hoi] at ho
      simp only [Bool.and_eq_true,Option.isNone_iff_eq_none] at ho
      have h1:=yd8 _ h (i,t') (List.mem_singleton.2 rfl)
      have h2:=yis _ hc2 (i,t') (List.mem_singleton.2 rfl)
      simp only [hoi,Option.toList_some,awL,ho.1] at h1
      obtain ⟨p,r,hq,hp,hd,hk⟩:=yny ho.2 h1
      obtain ⟨v,hrun,hv⟩:=yet (P:=P) (o:=o) (a:=a) hs.objs hs.ev (fun s d x e=>by rw [e] at ho;cases ho.2) hq hp
      have hw:Region.wanted o (yielded ops a.tmps)=true:=by simp [Region.wanted,ho.1]
      have hy:Yields P ops o v a:= .inl ⟨hw,fun w'=>by
       rcases ykd ho.2 a.eval with ⟨r',hr'⟩|hn
       ·have:=hr' w;rw [hrun] at this;cases this;exact hr' w'
       ·exact absurd hrun (hn _ _ _)⟩
      exact wpAny_take hoi hsel hf hr (fun c a w h=>absurd h (hP c _ _)) hy (ih t' _ w ρ _ _ _ h2 hk (hs.put hd hv))
    ·cases hc1
   ·simp only [Bool.and_eq_true,Bool.not_eq_true',beq_iff_eq] at hc1
    refine ⟨fun hnil=>by rw [hnil] at hc1;simp at hc1,fun i hi=>?_⟩
    rw [hc1.2] at hi
    obtain ⟨q,hq,rfl⟩:=List.mem_map.1 hi
    have h1:=yd8 l h q hq
    have h2:=yis l hc2 q hq
    have hr:q.1∈Region.ready .any ops listed:=by rw [hc1.2];exact List.mem_map_of_mem hq
    obtain ⟨_,o,g2,_⟩:=mem_ready.1 hr
    rw [g2] at h1
    exact yhs g2 h1 hs _ _ fun a' w' ρ' fr' H' hk hs'=>ih q.2 _ w' ρ' fr' H' a' h2 hk hs'
def y0n (Q:Act->World->Prop):Exit->Act->World->Prop
 | .normal,a,w=>Q a w
 |_,_,_=>False
theorem yac.introE {P:Program} {N:Nat} {ops:Array Oper} {id:Nat} {fr:Fr} {H:Hp} {Q:Exit->Fr->Hp->Prop} (t:Tr) (hchk:(chkE P ops (Array.replicate ops.size false) ops.size t&&Region.noSelect ops)=true) (hm:P.follows .mixedOrders=true)
  (h:awT P N ops t fr H (Q .normal)):yac P N id ops fr H Q:=by
 simp only [Bool.and_eq_true] at hchk
 refine ⟨fun B w0 Mx w ρ a hs=>wp_mono (wp_region_any (Q:=y0n fun a' w'=> ∃ρ' fr' H',Q .normal fr' H'/\Sim B w0 Mx N w' ρ' fr' H' a') hm (ywb hchk.2 _ (fun _ _ _ h=>h) (fun _ _ ρ' fr' H' hk hs'=>⟨ρ',fr',H',hk,hs'⟩) ops.size t _ _ ρ fr H a hchk.1 h hs.draw)) fun e a' w' h=>?_⟩
 cases e<;>first|exact h|exact h.elim
end Go.Proofs.YtmdjdekgakidhaaDoor
set_option linter.unusedSimpArgs false
set_option linter.unusedVariables false
namespace Go.Proofs.YtmdjdekgakidhaaDoor
open Go Go.RowKit
set_option maxRecDepth 100000
set_option maxHeartbeats 8000000
def ybu:List (List Nat):=[[20,21,22,23,24,25,8],[19,23,24,25,8],[19,23,24,25,8],[19,23,24,25,8],[19,20,21,22,8],[19,20,21,22,8],[19,20,21,22,8],[8],[19,20,21,22,23,24,25,26],[]]
def ybv:List (List Nat):=[[],[0],[0],[0],[0,1,2,3],[0,1,2,3],[0,1,2,3],[],[0,1,2,3,4,5,6,7],[]]
def ybw:List (List Nat):=[[68,69,70,71],[68,69,70,71],[66,67,69,70,71],[66,67,68,71,72],[66,67,68,71,72],[66,67,68,69,70,72],[69,70,71],[69,70,71],[],[]]
def yl7:Tr:= .node [(0, .node [(1, .node [(4, .node [(2, .node [(3, .node [(5, .node [(6, .node [(7, .node [(8, .node [(9, .done)])]),(8, .node [(7, .node [(9, .done)])])]),(8, .node [(6, .node [(7, .node [(9, .done)])])])]),(8, .node [(5, .node [(6, .node [(7, .node [(9, .done)])])])])]),(5, .node [(3, .node [(6, .node [(7, .node [(8, .node [(9, .done)])]),(8, .node [(7, .node [(9, .done)])])]),(8, .node [(6, .node [(7, .node [(9, .done)])])])]),(6, .node [(3, .node [(7, .node [(8, .node [(9, .done)])]),(8, .node [(7, .node [(9, .done)])])]),(8, .node [(3, .node [(7, .node [(9, .done)])])])]),(8, .node [(3, .node [(6, .node [(7, .node [(9, .done)])])]),(6, .node [(3, .node [(7, .node [(9, .done)])])])])]),(8, .node [(3, .node [(5, .node [(6, .node [(7, .node [(9, .done)])])])]),(5, .node [(3, .node [(6, .node [(7, .node [(9, .done)])])]),(6, .node [(3, .node [(7, .node [(9, .done)])])])])])]),(5, .node [(2, .node [(3, .node [(6, .node [(7, .node [(8, .node [(9, .done)])]),(8, .node [(7, .node [(9, .done)])])]),(8, .node [(6, .node [(7, .node [(9, .done)])])])]),(6, .node [(3, .node [(7, .node [(8, .node [(9, .done)])]),(8, .node [(7, .node [(9, .done)])])]),(8, .node [(3, .node [(7, .node [(9, .done)])])])]),(8, .node [(3, .node [(6, .node [(7, .node [(9, .done)])])]),(6, .node [(3, .node [(7, .node [(9, .done)])])])])]),(6, .node [(2, .node [(3, .node [(7, .node [(8, .node [(9, .done)])]),(8, .node [(7, .node [(9, .done)])])]),(8, .node [(3, .node [(7, .node [(9, .done)])])])]),(8, .node [(2, .node [(3, .node [(7, .node [(9, .done)])])])])]),(8, .node [(2, .node [(3, .node [(6, .node [(7, .node [(9, .done)])])]),(6, .node [(3, .node [(7, .node [(9, .done)])])])]),(6, .node [(2, .node [(3, .node [(7, .node [(9, .done)])])])])])]),(8, .node [(2, .node [(3, .node [(5, .node [(6, .node [(7, .node [(9, .done)])])])]),(5, .node [(3, .node [(6, .node [(7, .node [(9, .done)])])]),(6, .node [(3, .node [(7, .node [(9, .done)])])])])]),(5, .node [(2, .node [(3, .node [(6, .node [(7, .node [(9, .done)])])]),(6, .node [(3, .node [(7, .node [(9, .done)])])])]),(6, .node [(2, .node [(3, .node [(7, .node [(9, .done)])])])])])])])])])]
def yl8:Tr:= .node [(2, .node [(5, .node [(0, .node [(1, .node [(3, .node [(4, .node [(6, .node [(7, .node [(8, .node [(9, .done)])])])]),(6, .node [(4, .node [(7, .node [(8, .node [(9, .done)])])]),(7, .node [(4, .node [(8, .node [(9, .done)])])])])]),(6, .node [(3, .node [(4, .node [(7, .node [(8, .node [(9, .done)])])]),(7, .node [(4, .node [(8, .node [(9, .done)])])])]),(7, .node [(3, .node [(4, .node [(8, .node [(9, .done)])])])])])]),(3, .node [(1, .node [(4, .node [(6, .node [(7, .node [(8, .node [(9, .done)])])])]),(6, .node [(4, .node [(7, .node [(8, .node [(9, .done)])])]),(7, .node [(4, .node [(8, .node [(9, .done)])])])])]),(4, .node [(1, .node [(6, .node [(7, .node [(8, .node [(9, .done)])])])])])])]),(3, .node [(0, .node [(1, .node [(4, .node [(6, .node [(7, .node [(8, .node [(9, .done)])])])]),(6, .node [(4, .node [(7, .node [(8, .node [(9, .done)])])]),(7, .node [(4, .node [(8, .node [(9, .done)])])])])]),(4, .node [(1, .node [(6, .node [(7, .node [(8, .node [(9, .done)])])])])])]),(4, .node [(0, .node [(1, .node [(6, .node [(7, .node [(8, .node [(9, .done)])])])])])])])])])]
theorem yac.cut {P:Program} {N:Nat} {ops:Array Oper} {id:Nat} {fr:Fr} {H:Hp} {y:Code} {Q:Exit->Fr->Hp->Prop} (fr1:Fr) (H1:Hp) (h1:yac P N id ops fr H fun e fr' H'=>e= .normal/\Wk fr' H' fr1 H1) (h2:WpA P N y fr1 H1 Q):yac P N id ops fr H (yhp Q fun fr' H'=>WpA P N y fr' H' Q):=
 ⟨fun B w0 Mx w ρ a hs=>wp_mono (h1.out B w0 Mx w ρ a hs) (by
  rintro e a' w' ⟨ρ',fr',H',⟨rfl,hw⟩,hs'⟩
  obtain ⟨ρ2,hs2⟩:=hw _ _ _ _ _ _ _ hs'
  exact ⟨ρ2,fr1,H1,h2,hs2⟩)⟩
theorem y45 (s m:List Int) (L:Int) (ends:List Int) (c:Nat) (hs:s.length<=1000) (hm:yba m s.length) (hc:c<s.length) (hel:ends.length<=90) (her: ∀i,i<ends.length->0<=ends.getD i 0/\ends.getD i 0<4*s.length):
  Fn Tryd.prog 25 [dgA s m L,roI ends,I c] (.agg [I ends.length,roI (rowK (glS (hvL ends c) m) (ends.length+4) (ends.length+4)),roI (rowK (idS (hvL ends c) m) (ends.length+4) (ends.length+4)),roI (endS (hvL ends c) m (ends.length+4))]):=by
 have hml:=hm.1
 have hhl:=yb3 ends c
 have hrg: ∀x,x<ends.length+4->0<=(hvL ends c).getD x 0/\(hvL ends c).getD x 0<m.length:=fun x hx=>by
  unfold hvL
  by_cases h1:x<ends.length
  ·have:=her x h1
   simp only [List.getD_eq_getElem?_getD,List.getElem?_append_left h1] at this⊢
   omega
  ·simp only [List.getD_eq_getElem?_getD,List.getElem?_append_right (Nat.le_of_not_lt h1)]
   have:x-ends.length=0\/x-ends.length=1\/x-ends.length=2\/x-ends.length=3:=by omega
   rcases this with e|e|e|e<;>rw [e]<;>simp<;>omega
 have hvE:List.replicate 0 0++ends++[4*(c:Int),4*c+1,4*c+2,4*c+3]=hvL ends c:=by simp [hvL]
 have hvF:ends++[4*(c:Int),4*c+1,4*c+2,4*c+3]=hvL ends c:=rfl
 generalize hvL ends c=hv at*
 obtain ⟨W,hW⟩: ∃W,ends.length+4=W:=⟨_,rfl⟩
 have e0:((ends.length:Int)+4).toNat=W:=by omega
 rw [hW] at hhl hrg⊢
 have hW94:W<=94:=by omega
 refine Fn.introL [.cell 6 68] Tryd.func25 rfl rfl (by decide) (by simp [Tryd.ntmps25]) ?_;rw [Tryd.ntmps25]
 repeat' (first|omega|(first|apply yaa|(refine yac.intro (id:=2) ybu ybv (by decide+kernel) mixed ?_)|(refine yac.intro (id:=13) ybw [[],[],[0,1],[0,1,2],[0,1,2],[0,1,2,3,4],[3,4,5],[3,4,5],[],[]] (by decide+kernel) mixed ?_)|skip);simp only [go_sem,sevalprocAttr,Int.toNat_natCast,e0,hW,hvE,hvF,↓reduceIte,reduceCtorEq,ybu,ybv,ybw]|apply yae<;>(intro h_;(try simp only [h_]);revert h_)|apply yad|apply yab|apply gspI|apply And.intro|with_reducible intro h_|trivial|simp only [go_sem,la2];omega)
 refine SpL.makeMap (n:=(ends.length:Int)+4) (kt:=3) (et:=3) rfl rfl (by simp only [go_sem,sevalprocAttr]) rfl ?_
 repeat' (first|omega|(first|apply yaa|(refine yac.intro (id:=2) ybu ybv (by decide+kernel) mixed ?_)|(refine yac.intro (id:=13) ybw [[],[],[0,1],[0,1,2],[0,1,2],[0,1,2,3,4],[3,4,5],[3,4,5],[],[]] (by decide+kernel) mixed ?_)|skip);simp only [go_sem,sevalprocAttr,Int.toNat_natCast,e0,hW,hvE,hvF,↓reduceIte,reduceCtorEq,ybu,ybv,ybw]|apply yae<;>(intro h_;(try simp only [h_]);revert h_)|apply yad|apply yab|apply gspI|apply And.intro|with_reducible intro h_|trivial|simp only [go_sem,la2];omega)
 refine yak.intro (fun n fr H=> ∃k:Nat,k<=W/\n=W-k/\fr=[(50,I k),(49,I W),(48, .sl 1 11 0 W),(10, .mp 13),(9, .sl 1 11 0 W),(8, .ptr 10 0),(6, .ptr 1 0),(3, .ptr 0 0)]/\H=[(13, .fmap 87 (.ints (ndF hv k))),(11, .cells 3 (.ints hv)),(10, .cells 68 (.lst [I ends.length, .sl 1 5 0 W, .sl 1 8 0 W, .nils])),(8, .cells 3 (.ints (List.replicate W 0))),(5, .cells 3 (.ints (List.replicate W 0))),(1, .cells 68 (.lst [I 0, .nils, .nils, .nils])),(0, .cells 25 (.lst [roI s,roI m,I L]))]) ?_ ?_
 ·refine ⟨_,_,_,?_,0,by omega,rfl,rfl,rfl⟩
  refine Wk.sub ?_ ?_<;>(simp only [go_sem,sevalprocAttr,ndF])
 rintro n fr H ⟨k,hk,rfl,rfl,rfl⟩
 by_cases hkW:k<W
 ·have bk:decide ((k:Int)<W)=true:=by simp;omega
  have hup:updI (ndF hv k) (hv.getD k 0) k=ndF hv (k+1):=rfl
  repeat' (first|omega|(try apply yaa);simp only [go_sem,sevalprocAttr,bk,hup,hhl]|apply yae<;>(intro h_;(try simp only [h_]);revert h_)|apply yad|apply yab|apply gspI|apply And.intro|with_reducible intro h_|trivial|simp only [go_sem,la2];omega)
  refine ⟨_,_,_,?_,?_,⟨k+1,by omega,rfl,rfl,rfl⟩⟩
  ·omega
  ·refine Wk.sub ?_ ?_<;>(simp only [go_sem,sevalprocAttr,hup])
 obtain rfl:k=W:=by omega
 have bk:decide ((k:Int)<k)=false:=by simp
 have hglo: ∀x,glO hv m x=ndF hv k (m.getD (hv.getD x 0).toNat 0):=fun x=>by unfold glO;rw [hhl]
 repeat' (first|omega|(try apply yaa);simp only [go_sem,sevalprocAttr,bk]|apply yae<;>(intro h_;(try simp only [h_]);revert h_)|apply yad|apply yab|apply gspI|apply And.intro|with_reducible intro h_|trivial|simp only [go_sem,la2];omega)
 refine yak.intro (fun n fr H=> ∃j:Nat,j<=k/\n=k-j/\fr=[(61,I j),(60,I k),(59, .sl 1 11 0 k),(10, .mp 13),(8, .ptr 10 0),(6, .ptr 1 0),(3, .ptr 0 0)]/\((endS hv m j=[]/\H=[(13, .fmap 87 (.ints (ndF hv k))),(11, .cells 3 (.ints hv)),(10, .cells 68 (.lst [I ends.length, .sl 1 5 0 k, .sl 1 8 0 k, .nils])),(8, .cells 3 (.ints (rowK (idS hv m) k j))),(5, .cells 3 (.ints (rowK (glS hv m) k j))),(1, .cells 68 (.lst [I 0, .nils, .nils, .nils])),(0, .cells 25 (.lst [roI s,roI m,I L]))])\/
  H=[(15, .cells 3 (.ints (endS hv m j))),(13, .fmap 87 (.ints (ndF hv k))),(11, .cells 3 (.ints hv)),(10, .cells 68 (.lst [I ends.length, .sl 1 5 0 k, .sl 1 8 0 k, .sl 1 15 0 (endS hv m j).length])),(8, .cells 3 (.ints (rowK (idS hv m) k j))),(5, .cells 3 (.ints (rowK (glS hv m) k j))),(1, .cells 68 (.lst [I 0, .nils, .nils, .nils])),(0, .cells 25 (.lst [roI s,roI m,I L]))])) ?_ ?_
 ·refine ⟨_,_,_,?_,0,by omega,rfl,rfl, .inl ⟨rfl,rfl⟩⟩
  rw [yv0,yv0]
  refine Wk.sub ?_ ?_<;>(simp only [go_sem,sevalprocAttr,ndF])
 rintro n fr H ⟨j,hj,rfl,rfl,hcase⟩
 have l1:=yf2 (idS hv m) k j
 have l2:=yf2 (glS hv m) k j
 have l3:=yks hv m j
 by_cases hjk:j<k
 ·have bj:decide ((j:Int)<k)=true:=by simp;omega
  have r1:=hrg j hjk
  have s1:=ypq (idS hv m) k j hjk
  have s2:=ypq (glS hv m) k j hjk
  have hgj:=hglo j
  have hmr:=hm.2 (hv.getD j 0).toNat (by omega)
  have d1:(rowK (glS hv m) k j).length=k:=l2
  rcases hcase with ⟨hnil,rfl⟩|rfl
  ·repeat' (first|omega|(try apply yaa);simp only [go_sem,sevalprocAttr,bj]|apply yae<;>(intro h_;(try simp only [h_]);revert h_)|apply yad|apply yab|apply gspI|apply And.intro|with_reducible intro h_|trivial|simp only [go_sem,la2];omega)
   refine yac.cut [(14,I (hv.getD j 0)),(13,I j),(61,I j),(60,I k),(59, .sl 1 11 0 k),(10, .mp 13),(8, .ptr 10 0),(6, .ptr 1 0),(3, .ptr 0 0)] [(13, .fmap 87 (.ints (ndF hv k))),(11, .cells 3 (.ints hv)),(10, .cells 68 (.lst [I ends.length, .sl 1 5 0 k, .sl 1 8 0 k, .nils])),(8, .cells 3 (.ints ((rowK (idS hv m) k j).set j (-1)))),(5, .cells 3 (.ints ((rowK (glS hv m) k j).set j (-1)))),(1, .cells 68 (.lst [I 0, .nils, .nils, .nils])),(0, .cells 25 (.lst [roI s,roI m,I L]))] ?_ ?_
   ·repeat' (first|omega|(first|apply yaa|(refine yac.introE (id:=2) (yl7) (by decide+kernel) mixed ?_)|(refine yac.intro (id:=2) ybu ybv (by decide+kernel) mixed ?_)|(refine yac.introE (id:=13) (yl8) (by decide+kernel) mixed ?_)|(refine yac.intro (id:=13) ybw [[],[],[0,1],[0,1,2],[0,1,2],[0,1,2,3,4],[3,4,5],[3,4,5],[],[]] (by decide+kernel) mixed ?_)|skip);simp only [go_sem,sevalprocAttr,List.length_set,Int.toNat_natCast,↓reduceIte,reduceCtorEq,ybu,ybv,ybw,yl7,yl8]|apply yae<;>(intro h_;(try simp only [h_]);revert h_)|apply yad|apply yab|apply gspI|apply And.intro|with_reducible intro h_|trivial|simp only [go_sem,la2];omega)
    all_goals (refine Wk.sub ?_ ?_<;>(simp only [go_sem,sevalprocAttr,l1]))
   cases hq:ndF hv k (m.getD (hv.getD j 0).toNat 0) with
   |some y=>
    rw [hq] at hgj
    have i1:idS hv m j= -1:=by unfold idS;rw [hgj];rfl
    have i2:glS hv m j=y:=by unfold glS;rw [hgj];rfl
    have i3:endS hv m (j+1)=endS hv m j:=by simp only [endS];rw [hgj];rfl
    rw [i1] at s1
    rw [i2] at s2
    repeat' (first|omega|(first|apply yaa|(refine yac.intro (id:=2) ybu ybv (by decide+kernel) mixed ?_)|(refine yac.intro (id:=13) ybw [[],[],[0,1],[0,1,2],[0,1,2],[0,1,2,3,4],[3,4,5],[3,4,5],[],[]] (by decide+kernel) mixed ?_)|skip);simp only [go_sem,sevalprocAttr,bj,hq,Option.isSome_some,Option.getD_some,List.set_set,List.length_set,Int.toNat_natCast,s1,s2,↓reduceIte,reduceCtorEq,ybu,ybv,ybw]|apply yae<;>(intro h_;(try simp only [h_]);revert h_)|apply yad|apply yab|apply gspI|apply And.intro|with_reducible intro h_|trivial|simp only [go_sem,la2];omega)
    refine ⟨_,_,_,?_,?_,j+1,by omega,rfl,rfl, .inl ⟨by rw [i3];exact hnil,rfl⟩⟩
    ·omega
    ·refine Wk.sub ?_ ?_<;>(simp only [go_sem,sevalprocAttr,hW])
   |none=>
    rw [hq] at hgj
    have i1:idS hv m j=(endS hv m j).length:=by unfold idS;rw [hgj];rfl
    have i2:glS hv m j= -1:=by unfold glS;rw [hgj];rfl
    have i3:endS hv m (j+1)=endS hv m j++[hv.getD j 0]:=by simp only [endS];rw [hgj];rfl
    rw [hnil,List.nil_append] at i3
    rw [i1,hnil] at s1
    rw [i2] at s2
    have s1':(rowK (idS hv m) k j).set j 0=rowK (idS hv m) k (j+1):=s1
    repeat' (first|omega|(first|apply yaa|(refine yac.intro (id:=2) ybu ybv (by decide+kernel) mixed ?_)|(refine yac.intro (id:=13) ybw [[],[],[0,1],[0,1,2],[0,1,2],[0,1,2,3,4],[3,4,5],[3,4,5],[],[]] (by decide+kernel) mixed ?_)|skip);simp only [go_sem,sevalprocAttr,bj,hq,Option.isSome_none,Option.getD_none,List.set_set,List.length_set,Int.toNat_natCast,s1',s2,↓reduceIte,reduceCtorEq,ybu,ybv,ybw]|apply yae<;>(intro h_;(try simp only [h_]);revert h_)|apply yad|apply yab|apply gspI|apply And.intro|with_reducible intro h_|trivial|simp only [go_sem,la2];omega)
    refine ⟨_,_,_,?_,?_,j+1,by omega,rfl,rfl, .inr rfl⟩
    ·omega
    ·rw [i3]
     refine Wk.sub ?_ ?_<;>(simp only [go_sem,sevalprocAttr,hW])
  ·repeat' (first|omega|(try apply yaa);simp only [go_sem,sevalprocAttr,bj]|apply yae<;>(intro h_;(try simp only [h_]);revert h_)|apply yad|apply yab|apply gspI|apply And.intro|with_reducible intro h_|trivial|simp only [go_sem,la2];omega)
   refine yac.cut [(14,I (hv.getD j 0)),(13,I j),(61,I j),(60,I k),(59, .sl 1 11 0 k),(10, .mp 13),(8, .ptr 10 0),(6, .ptr 1 0),(3, .ptr 0 0)] [(15, .cells 3 (.ints (endS hv m j))),(13, .fmap 87 (.ints (ndF hv k))),(11, .cells 3 (.ints hv)),(10, .cells 68 (.lst [I ends.length, .sl 1 5 0 k, .sl 1 8 0 k, .sl 1 15 0 (endS hv m j).length])),(8, .cells 3 (.ints ((rowK (idS hv m) k j).set j (-1)))),(5, .cells 3 (.ints ((rowK (glS hv m) k j).set j (-1)))),(1, .cells 68 (.lst [I 0, .nils, .nils, .nils])),(0, .cells 25 (.lst [roI s,roI m,I L]))] ?_ ?_
   ·repeat' (first|omega|(first|apply yaa|(refine yac.introE (id:=2) (yl7) (by decide+kernel) mixed ?_)|(refine yac.intro (id:=2) ybu ybv (by decide+kernel) mixed ?_)|(refine yac.introE (id:=13) (yl8) (by decide+kernel) mixed ?_)|(refine yac.intro (id:=13) ybw [[],[],[0,1],[0,1,2],[0,1,2],[0,1,2,3,4],[3,4,5],[3,4,5],[],[]] (by decide+kernel) mixed ?_)|skip);simp only [go_sem,sevalprocAttr,List.length_set,Int.toNat_natCast,↓reduceIte,reduceCtorEq,ybu,ybv,ybw,yl7,yl8]|apply yae<;>(intro h_;(try simp only [h_]);revert h_)|apply yad|apply yab|apply gspI|apply And.intro|with_reducible intro h_|trivial|simp only [go_sem,la2];omega)
    all_goals (refine Wk.sub ?_ ?_<;>(simp only [go_sem,sevalprocAttr,l1]))
   cases hq:ndF hv k (m.getD (hv.getD j 0).toNat 0) with
   |some y=>
    rw [hq] at hgj
    have i1:idS hv m j= -1:=by unfold idS;rw [hgj];rfl
    have i2:glS hv m j=y:=by unfold glS;rw [hgj];rfl
    have i3:endS hv m (j+1)=endS hv m j:=by simp only [endS];rw [hgj];rfl
    rw [i1] at s1
    rw [i2] at s2
    repeat' (first|omega|(first|apply yaa|(refine yac.intro (id:=2) ybu ybv (by decide+kernel) mixed ?_)|(refine yac.intro (id:=13) ybw [[],[],[0,1],[0,1,2],[0,1,2],[0,1,2,3,4],[3,4,5],[3,4,5],[],[]] (by decide+kernel) mixed ?_)|skip);simp only [go_sem,sevalprocAttr,bj,hq,Option.isSome_some,Option.getD_some,List.set_set,List.length_set,Int.toNat_natCast,s1,s2,↓reduceIte,reduceCtorEq,ybu,ybv,ybw]|apply yae<;>(intro h_;(try simp only [h_]);revert h_)|apply yad|apply yab|apply gspI|apply And.intro|with_reducible intro h_|trivial|simp only [go_sem,la2];omega)
    refine ⟨_,_,_,?_,?_,j+1,by omega,rfl,rfl, .inr rfl⟩
    ·omega
    ·rw [i3]
     refine Wk.sub ?_ ?_<;>(simp only [go_sem,sevalprocAttr,hW])
   |none=>
    rw [hq] at hgj
    have i1:idS hv m j=(endS hv m j).length:=by unfold idS;rw [hgj];rfl
    have i2:glS hv m j= -1:=by unfold glS;rw [hgj];rfl
    have i3:endS hv m (j+1)=endS hv m j++[hv.getD j 0]:=by simp only [endS];rw [hgj];rfl
    rw [i1] at s1
    rw [i2] at s2
    repeat' (first|omega|(first|apply yaa|(refine yac.intro (id:=2) ybu ybv (by decide+kernel) mixed ?_)|(refine yac.intro (id:=13) ybw [[],[],[0,1],[0,1,2],[0,1,2],[0,1,2,3,4],[3,4,5],[3,4,5],[],[]] (by decide+kernel) mixed ?_)|skip);simp only [go_sem,sevalprocAttr,bj,hq,Option.isSome_none,Option.getD_none,List.set_set,List.length_set,Int.toNat_natCast,s1,s2,↓reduceIte,reduceCtorEq,ybu,ybv,ybw]|apply yae<;>(intro h_;(try simp only [h_]);revert h_)|apply yad|apply yab|apply gspI|apply And.intro|with_reducible intro h_|trivial|simp only [go_sem,la2];omega)
    refine ⟨_,_,_,?_,?_,j+1,by omega,rfl,rfl, .inr rfl⟩
    ·omega
    ·rw [i3,List.length_append]
     refine Wk.sub ?_ ?_<;>(simp only [go_sem,sevalprocAttr,hW])
 ·obtain rfl:j=k:=by omega
  have bj:decide ((j:Int)<j)=false:=by simp
  rcases hcase with ⟨hnil,rfl⟩|rfl
  ·rw [hnil]
   repeat' (first|omega|(try apply yaa);simp only [go_sem,sevalprocAttr,bj]|apply yae<;>(intro h_;(try simp only [h_]);revert h_)|apply yad|apply yab|apply gspI|apply And.intro|with_reducible intro h_|trivial|simp only [go_sem,la2];omega)
   rw [List.take_of_length_le (Nat.le_of_eq l2),List.take_of_length_le (Nat.le_of_eq l1),l1,l2]
   exact LeA.aggL (.cons (LeA.refl _) (.cons (LeA.refl _) (.cons (LeA.refl _) (.cons (LeA.nils (by decide) rfl) .nil))))
  ·repeat' (first|omega|(try apply yaa);simp only [go_sem,sevalprocAttr,bj]|apply yae<;>(intro h_;(try simp only [h_]);revert h_)|apply yad|apply yab|apply gspI|apply And.intro|with_reducible intro h_|trivial|simp only [go_sem,la2];omega)
   rw [List.take_of_length_le (Nat.le_of_eq l2),List.take_of_length_le (Nat.le_of_eq l1),List.take_length,l1,l2]
   exact LeA.refl _
end Go.Proofs.YtmdjdekgakidhaaDoor
