/- Layer 17: the bracket of the closures of the braids on two strands. -/
import Derived.Test.YtmdjdekgakidhaaDoorZq
import Derived.Test.YtmdjdekgakidhaaDoorTb1
import Derived.Test.YtmdjdekgakidhaaDoorZf
import Derived.Test.YtmdjdekgakidhaaDoorTt1
import Derived.Test.YtmdjdekgakidhaaDoorZn
namespace Go.Proofs.YtmdjdekgakidhaaDoor
open Go Go.RowKit
set_option maxRecDepth 100000
set_option maxHeartbeats 8000000
set_option linter.unusedVariables false
set_option linter.unusedSimpArgs false
theorem tu_v {n:Nat} (hn:n<41) (hn0:0<n):ybb (tuS n) (tuX n) 0=true:=(y5m ⟨n,hn⟩).resolve_left (by simp only;omega)
theorem yh8 {n:Nat} (hn:n<41) {e:Int} (he:tuR n e≠0): -1000<=e/\e<=1000:=by have:=ynb he;omega
theorem yue {n:Nat} (hn:n<41) (hn0:0<n):Fn Tryd.prog 14 [dgA (tuS n) (tuX n) 0,roI (tuO n)] (.tup [plA false (yam (tuR n)), .bool true]):=by
 have hp:=pmOk (tu_v hn hn0)
 have hpn:=hp
 rw [yb1] at hpn
 refine yn9 (tuS n) (tuX n) 0 hp (o:=List.range n) List.nodup_range (by rw [yb1,List.length_range]) (fun c hc=>by rw [yb1];exact List.mem_range.1 hc) (by rw [yb1];omega) (by rw [yb1];omega) (SD:=fun k sd=>k<=n/\TuS n k sd) (MD:=fun k sd sn G=>TuM n k sd sn G) (by rw [yb1];exact y61 hn hn0 hpn) fun g hS=>?_
 rw [yb1] at hS
 have hS:=hS.2
 refine yap.eq ⟨yfk _ _,fun e=>?_⟩ fun e he=>yh8 hn he
 rw [ywz]
 have h1:=ync hS.ok.nd (fun x hx=>(hS.ok.ok x hx).1) (List.mem_cons_self ..) e
 have h2:=hS.va e
 rcases hS.ky g (List.mem_cons_self ..) with h|⟨_,h,_⟩
 ·rw [h,h2] at h1
  rw [←h1]
  unfold tuV
  rw [if_pos rfl]
 ·exact absurd rfl h
theorem y33 {n:Nat} (hn:n<41) (hn0:0<n):Fn Tryd.prog 5 [dgA (tuS n) (tuX n) 0,roI (tuO n)] (.tup [plA false (yam (tuR n)),I 0]):=by
 have hP:yap (yam (tuR n)) (tuR n):=ye6 fun e he=>yh8 hn he
 have hlen:=y3x hP
 refine yie (tuS n) (tuX n) 0 (tuO n) (yam (tuR n)) (yam (tuR n)) (by rw [yb1];omega) (by decide) (tu_v hn hn0) (by rw [yb1];exact y3v ⟨n,hn⟩) (by rw [yb1];omega) (by rw [y3w];exact y5n ⟨n,hn⟩) (fun _=>yue hn hn0) (fun h=>by rw [yb1] at h;omega) fun _ q hq=>?_
 have hq1:q=[(0,1)]:=(hq.eq fun e he=>ydv (by omega) he).trans (yiz.eq fun e he=>ydv (by omega) he).symm
 subst hq1
 have hp0:0<(yam (tuR n)).length:=by omega
 obtain ⟨r,h1,h2⟩:=yjq hP hq (fun e he=>yh8 hn he) (fun e he=>ydv (by omega) he) (fun e=>by have:=yju n e;omega) (fun e=>by have:=yfr (j:=0) (by omega) e;omega) (h:=tuR n) (fun e=>by rw [yjy];exact hP.cf e) (fun e=>by have:=yju n e;omega) hp0 (by decide) (by
  have a:=ym0 hP.asc hP.cf (fun e he=>ynb he)
  have a0:=a _ (yb0 (i:=0) hp0)
  have a1:=a _ (yb0 (i:=(yam (tuR n)).length-1) (by omega))
  have e1:lowE (yam (tuR n))=((yam (tuR n)).getD 0 (0,0)).1:=rfl
  have e2:ya2 (yam (tuR n))=((yam (tuR n)).getD ((yam (tuR n)).length-1) (0,0)).1:=rfl
  rw [←e1] at a0
  rw [←e2] at a1
  have e3:ya2 [((0:Int),(1:Int))]=0:=rfl
  have e4:lowE [((0:Int),(1:Int))]=0:=rfl
  rw [e3,e4,show ([((0:Int),(1:Int))]:List (Int×Int)).length=1 from rfl]
  omega)
 rw [h1.eq fun e he=>yh8 hn he] at h2
 exact h2
end Go.Proofs.YtmdjdekgakidhaaDoor
set_option linter.unusedSimpArgs false
set_option linter.unusedVariables false
namespace Go.Proofs.YtmdjdekgakidhaaDoor
open Go Go.RowKit
section
variable {P:Program}
def ymj (P:Program):Op->Bool
 | .binOp .add _ _ _ _| .binOp .sub _ _ _ _| .binOp .mul _ _ _ _=>true
 |o=>yjg P o
theorem yrk {o:Oper} {ev:Operand->Value} {op:BinOp} {t:TypeId} {x y:Operand} {t':TypeId} (ho:o.op= .binOp op t x y t') (hop:op= .add\/op= .sub\/op= .mul) {k k':IntKind} {a b:Int} (hx:ev x= .int k a) (hy:ev y= .int k' b):ybl P (execOp ev o):=by
 by_cases hk:k=k'
 ·subst hk
  rcases hop with rfl|rfl|rfl
  ·exact .inl ⟨.value (.int k (k.wrap (a+b))),fun w=>by simp only [execOp,ho,hx,hy];simp [ya7,binOp,Op.intArith]⟩
  ·exact .inl ⟨.value (.int k (k.wrap (a-b))),fun w=>by simp only [execOp,ho,hx,hy];simp [ya7,binOp,Op.intArith]⟩
  ·exact .inl ⟨.value (.int k (k.wrap (a*b))),fun w=>by simp only [execOp,ho,hx,hy];simp [ya7,binOp,Op.intArith]⟩
 ·refine .inr fun w r w1 h=>?_
  simp only [execOp,ho,hx,hy] at h
  rcases hop with rfl|rfl|rfl<;>simp [ya7,binOp,hk,Go.stuck] at h
theorem yw8 {o:Oper} {ev:Operand->Value} {op:BinOp} {t:TypeId} {x y:Operand} {t':TypeId} (ho:o.op= .binOp op t x y t') (hop:op= .add) {a b:ByteArray} (hx:ev x= .string a) (hy:ev y= .string b):ybl P (execOp ev o):=by
 subst hop
 by_cases hk:(9223372036854775807:Int)<(a.size:Int)+b.size
 ·refine .inr fun w r w1 h=>?_
  simp only [execOp,ho,hx,hy] at h
  simp [yb4,binOp,Op.stringOp,unsupported,hk] at h
 ·exact .inl ⟨.value (.string (a++b)),fun w=>by simp only [execOp,ho,hx,hy];simp [yb4,binOp,Op.stringOp];omega⟩
theorem yqy {o:Oper} (h:ymj P o.op=true) {w:World} {M:Nat->Prop} {ρ:Nat->Addr} {D:Nat->Prop} {a:Act} {fr:Fr} {H:Hp} (hev: ∀x,VR w M ρ D (a.eval x) (evA fr x)) {p:Prop} {r:AV} (hq:quF P H (evA fr) o.op=some (p,r)):ybl P (execOp a.eval o):=by
 cases ho:o.op with
 |binOp op t x y t'=>
  rw [ho] at h hq
  simp only [quF,opF] at hq
  have hop:op= .add\/op= .sub\/op= .mul:=by cases op<;>simp_all [ymj,yjg]
  have hx:=hev x
  have hy:=hev y
  generalize evA fr x=X at*
  generalize evA fr y=Y at*
  cases X with
  |int k n=>
   cases Y with
   |int k' n'=>exact yrk ho hop hx.int_inv hy.int_inv
   |_=>exfalso;rcases hop with rfl|rfl|rfl<;>simp [binF,yfs,yep] at hq
  |str b=>
   cases Y with
   |str b'=>
    rcases hop with rfl|rfl|rfl
    ·exact yw8 ho rfl hx.str_inv hy.str_inv
    ·simp [binF] at hq
    ·simp [binF] at hq
   |_=>exfalso;rcases hop with rfl|rfl|rfl<;>simp [binF,yfs,yep] at hq
  |agg xs=>
   exfalso
   cases Y with
   |agg ys=>
    simp only [binF,yep] at hq
    rcases hop with rfl|rfl|rfl<;>(repeat' split at hq)<;>simp_all
   |_=>rcases hop with rfl|rfl|rfl<;>simp [binF,yfs,yep] at hq
  |_=>exfalso;cases Y<;>rcases hop with rfl|rfl|rfl<;>simp [binF,yfs,yep] at hq
 |_=>rw [ho] at h;exact ykd (by rw [ho];exact h) a.eval
theorem yuf {o:Oper} (h:ymj P o.op=true) {N:Nat} {fr:Fr} {H:Hp} {K:Fr->Hp->Prop} (hq:awO P N o fr H K): ∃p r,quF P H (evA fr) o.op=some (p,r)/\p/\dok o.dst N=true/\K (fput fr o.dst r) H:=by
 cases ho:o.op with
 |binOp op t x y t'=>
  obtain ⟨_,hq⟩:=hq
  rw [←ho]
  split at hq
  ·rename_i p r e;exact ⟨p,r,e,hq⟩
  ·rename_i e
   exfalso
   simp only [ho,alF,awX,spOp] at hq
   exact absurd hq.1 (by decide)
 |_=>rw [←ho];exact yny (by rw [ho] at h;rw [ho];exact h) hq
end
def eagF (P:Program) (ops:Array Oper) (listed:Array Bool):List (Nat×Tr)->Bool
 |[(i,_)]=>Region.free .any ops listed i&&(Region.ready .any ops listed).contains i&&(match ops[i]? with|some o=>o.guard.isNone&&ymj P o.op|none=>false)
 |_=>false
mutual
def chkF (P:Program) (ops:Array Oper) (listed:Array Bool):Nat->Tr->Bool
 |0, .done=>(Region.ready .any ops listed).isEmpty
 |f+1, .node l=>(eagF P ops listed l||(!(Region.ready .any ops listed).isEmpty&&(Region.ready .any ops listed==l.map (·.1))))&&yom P ops listed f l
 |_,_=>false
def yom (P:Program) (ops:Array Oper) (listed:Array Bool) (f:Nat):List (Nat×Tr)->Bool
 |[]=>true
 |(i,t)::r=>chkF P ops (listed.setIfInBounds i true) f t&&yom P ops listed f r
end
theorem yi1 {P:Program} {ops:Array Oper} {listed:Array Bool} {f:Nat}: ∀(l:List (Nat×Tr)),yom P ops listed f l=true-> ∀q∈l,chkF P ops (listed.setIfInBounds q.1 true) f q.2=true
 |[],_,q,hq=>by cases hq
 |(i,t)::r,h,q,hq=>by
  simp only [yom,Bool.and_eq_true] at h
  rcases List.mem_cons.1 hq with e|e
  ·subst e;exact h.1
  ·exact yi1 r h.2 q e
theorem yw9 {P:Program} {N:Nat} {ops:Array Oper} {B:Nat} {w0:ya4} {Mx:Nat->Prop} {K:Fr->Hp->Prop} (hsel:Region.noSelect ops=true) (Q:Exit->Act->World->Prop) (hP: ∀c a w,¬Q (.panic c) a w) (hQ: ∀a' w' ρ' fr' H',K fr' H'->Sim B w0 Mx N w' ρ' fr' H' a'->Q .normal a' w'): ∀(f:Nat) (t:Tr) (listed:Array Bool) (w:World) (ρ:Nat->Addr) (fr:Fr) (H:Hp) (a:Act),chkF P ops listed f t=true->awT P N ops t fr H K->Sim B w0 Mx N w ρ fr H a->wpAny P .any ops Q f listed a w:=by
 intro f
 induction f with
 |zero=>
  intro t listed w ρ fr H a hc h hs
  cases t with
  |done=>
   simp only [chkF,List.isEmpty_iff] at hc
   simp only [awT] at h
   exact ⟨hc,hQ _ _ ρ _ _ h hs⟩
  |node l=>simp [chkF] at hc
 |succ f ih=>
  intro t listed w ρ fr H a hc h hs
  cases t with
  |done=>simp [chkF] at hc
  |node l=>
   simp only [chkF,Bool.and_eq_true,Bool.or_eq_true] at hc
   obtain ⟨hc1,hc2⟩:=hc
   simp only [awT] at h
   rcases hc1 with hc1|hc1
   ·unfold eagF at hc1
    split at hc1
    ·rename_i i t'
     simp only [Bool.and_eq_true] at hc1
     obtain ⟨⟨hf,hr⟩,ho⟩:=hc1
     cases hoi:ops[i]? with
     |none=>rw [hoi] at ho;cases ho
     |some o=>
      rw [hoi] at ho
      simp only [Bool.and_eq_true,Option.isNone_iff_eq_none] at ho
      have h1:=yd8 _ h (i,t') (List.mem_singleton.2 rfl)
      have h2:=yi1 _ hc2 (i,t') (List.mem_singleton.2 rfl)
      simp only [hoi,Option.toList_some,awL,ho.1] at h1
      obtain ⟨p,r,hq,hp,hd,hk⟩:=yuf ho.2 h1
      obtain ⟨v,hrun,hv⟩:=yet (P:=P) (o:=o) (a:=a) hs.objs hs.ev (fun s d x e=>by rw [e] at ho;cases ho.2) hq hp
      have hw:Region.wanted o (yielded ops a.tmps)=true:=by simp [Region.wanted,ho.1]
      have hy:Yields P ops o v a:= .inl ⟨hw,fun w'=>by
       rcases yqy ho.2 hs.ev hq with ⟨r',hr'⟩|hn
       ·have:=hr' w;rw [hrun] at this;cases this;exact hr' w'
       ·exact absurd hrun (hn _ _ _)⟩
      exact wpAny_take hoi hsel hf hr (fun c a w h=>absurd h (hP c _ _)) hy (ih t' _ w ρ _ _ _ h2 hk (hs.put hd hv))
    ·cases hc1
   ·simp only [Bool.and_eq_true,Bool.not_eq_true',beq_iff_eq] at hc1
    refine ⟨fun hnil=>by rw [hnil] at hc1;simp at hc1,fun i hi=>?_⟩
    rw [hc1.2] at hi
    obtain ⟨q,hq,rfl⟩:=List.mem_map.1 hi
    have h1:=yd8 l h q hq
    have h2:=yi1 l hc2 q hq
    have hr:q.1∈Region.ready .any ops listed:=by rw [hc1.2];exact List.mem_map_of_mem hq
    obtain ⟨_,o,g2,_⟩:=mem_ready.1 hr
    rw [g2] at h1
    exact yhs g2 h1 hs _ _ fun a' w' ρ' fr' H' hk hs'=>ih q.2 _ w' ρ' fr' H' a' h2 hk hs'
theorem yac.introF {P:Program} {N:Nat} {ops:Array Oper} {id:Nat} {fr:Fr} {H:Hp} {Q:Exit->Fr->Hp->Prop} (t:Tr) (hchk:(chkF P ops (Array.replicate ops.size false) ops.size t&&Region.noSelect ops)=true) (hm:P.follows .mixedOrders=true)
  (h:awT P N ops t fr H (Q .normal)):yac P N id ops fr H Q:=by
 simp only [Bool.and_eq_true] at hchk
 refine ⟨fun B w0 Mx w ρ a hs=>wp_mono (wp_region_any (Q:=y0n fun a' w'=> ∃ρ' fr' H',Q .normal fr' H'/\Sim B w0 Mx N w' ρ' fr' H' a') hm (yw9 hchk.2 _ (fun _ _ _ h=>h) (fun _ _ ρ' fr' H' hk hs'=>⟨ρ',fr',H',hk,hs'⟩) ops.size t _ _ ρ fr H a hchk.1 h hs.draw)) fun e a' w' h=>?_⟩
 cases e<;>first|exact h|exact h.elim
end Go.Proofs.YtmdjdekgakidhaaDoor
namespace Go.Proofs.YtmdjdekgakidhaaDoor
open Go Go.RowKit
set_option maxRecDepth 100000
set_option maxHeartbeats 8000000
set_option linter.unusedVariables false
set_option linter.unusedSimpArgs false
def ycp:Tr:= .node [(0, .node [(1, .node [(2, .node [(3, .node [(4, .node [(5, .node [(8, .node [(9, .node [(6, .node [(7, .node [(10, .node [(11, .node [(12, .node [(13, .node [(14, .done)])])])])]),(10, .node [(7, .node [(11, .node [(12, .node [(13, .node [(14, .done)])])])]),(11, .node [(7, .node [(12, .node [(13, .node [(14, .done)])])])])])]),(10, .node [(6, .node [(7, .node [(11, .node [(12, .node [(13, .node [(14, .done)])])])]),(11, .node [(7, .node [(12, .node [(13, .node [(14, .done)])])])])]),(11, .node [(6, .node [(7, .node [(12, .node [(13, .node [(14, .done)])])])])])])])])])])])])])])]
def yhc:List (List Nat):=[[32,33,34,35,36,37,38,39,40,41,42,43],[31,34,35,36,37,38,39,40,41,42,43],[31,34,35,36,37,38,39,40,41,42,43],[31,32,33,35,36,39,40,41,42],[31,32,33,34,39,40,41,42],[31,32,33,34,39,40,41,42],[31,32,33,39,40,41,42],[31,32,33,39,40,41,42],[31,32,33,34,35,36,37,38,40],[31,32,33,34,35,36,37,38,39],[31,32,33,34,35,36,37,38],[31,32,33,34,35,36,37,38],[31,32,33],[],[]]
def ycq:List (List Nat):=[[],[0],[0],[0,1,2],[0,1,2,3],[0,1,2,3],[0,1,2],[0,1,2],[0,1,2,3,4,5,6,7],[0,1,2,3,4,5,6,7,8],[0,1,2,3,4,5,6,7],[0,1,2,3,4,5,6,7],[0,1,2],[],[]]
def yhd:List (List Nat):=[[46,47,48,49,50,51,52,53,54,55,56,57],[45,48,49,50,51,52,53,54,55,56,57],[45,48,49,50,51,52,53,54,55,56,57],[45,46,47,49,50,53,54,55,56],[45,46,47,48,53,54,55,56],[45,46,47,48,53,54,55,56],[45,46,47,53,54,55,56],[45,46,47,53,54,55,56],[45,46,47,48,49,50,51,52,54],[45,46,47,48,49,50,51,52,53],[45,46,47,48,49,50,51,52],[45,46,47,48,49,50,51,52],[45,46,47],[],[]]
def yhe:List (List Nat):=[[60,61,62,63,64,65,66,67,68,69,70,71],[59,62,63,64,65,66,67,68,69,70,71],[59,62,63,64,65,66,67,68,69,70,71],[59,60,61,63,64,67,68,69,70],[59,60,61,62,67,68,69,70],[59,60,61,62,67,68,69,70],[59,60,61,67,68,69,70],[59,60,61,67,68,69,70],[59,60,61,62,63,64,65,66,68],[59,60,61,62,63,64,65,66,67],[59,60,61,62,63,64,65,66],[59,60,61,62,63,64,65,66],[59,60,61],[],[]]
def rwT (N:Nat) (f:Int->Int):List Int:=(List.range (2*N+1)).map fun (i:Nat)=>f ((i:Int)-N)
theorem yhf (N:Nat) (f:Int->Int):(rwT N f).length=2*N+1:=by simp [rwT]
theorem yek {N:Nat} {f:Int->Int} {i:Nat} (h:i<2*N+1):(rwT N f).getD i 0=f ((i:Int)-N):=by simp [rwT,List.getD_eq_getElem?_getD,h]
theorem yhg {N:Nat} {f g:Int->Int} {i:Nat} {v:Int} (hi:i<2*N+1) (hv:v=g ((i:Int)-N)) (h: ∀x,x≠(i:Int)-N->f x=g x):(rwT N f).set i v=rwT N g:=by
 apply List.ext_getElem?
 intro j
 rw [List.getElem?_set,yhf]
 by_cases e:i=j
 ·subst e
  rw [if_pos rfl,if_pos hi]
  simp [rwT,hi,hv]
 ·rw [if_neg e]
  by_cases hj:j<2*N+1
  ·simp only [rwT,List.getElem?_map,List.getElem?_range hj,Option.map_some]
   rw [h _ (by omega)]
  ·simp [rwT,hj]
theorem yxa {N:Nat} {f g:Int->Int} (h: ∀x,-(N:Int)<=x->x<=N->f x=g x):rwT N f=rwT N g:=by
 refine List.map_congr_left fun i hi=>?_
 have:=List.mem_range.1 hi
 exact h _ (by omega) (by omega)
theorem y0y (N:Nat):rwT N (fun _=>0)=List.replicate (2*N+1) 0:=by
 apply List.ext_getElem?
 intro i
 by_cases h:i<2*N+1<;>simp [rwT,h]
def inT (N k i:Nat) (x:Int):Int:=if x+3+N<i then-(tuF k (x+3)) else 0
theorem yz0 {N k i:Nat} (h3:3<=i) (hi:i+3<2*N+1) (v:Int) (hv:v=tuF k ((i:Int)-N)):
  (((rwT N (inT N k i)).set (i+1) v).set (i+1) (v-v)).set (i-3) (0-v)=rwT N (inT N k (i+1)):=by
 rw [List.set_set,yhg (f:=inT N k i) (g:=inT N k i) (by omega) (by unfold inT;rw [if_neg (by omega)];omega) (fun _ _=>rfl)]
 refine yhg (by omega) ?_ fun x hx=>?_
 ·unfold inT
  rw [if_pos (by omega),show ((i-3:Nat):Int)-N+3=(i:Int)-N by omega,hv];omega
 ·unfold inT
  by_cases h1:x+3+N<i
  ·rw [if_pos h1,if_pos (by omega)]
  ·rw [if_neg h1,if_neg (by omega)]
theorem y34 {N k:Nat} (hk:k+2<N):(rwT N (inT N k (2*N-2))).set (N+k-1) (inT N k (2*N-2) (((N+k-1:Nat):Int)-N)+1)=rwT N (tuF (k+1)):=by
 have key: ∀x:Int,inT N k (2*N-2) x= -(tuF k (x+3)):=fun x=>by
  unfold inT
  by_cases h:x+3+N<(2*N-2:Nat)
  ·rw [if_pos h]
  ·rw [if_neg h]
   by_cases h0:tuF k (x+3)=0
   ·rw [h0];rfl
   ·have:=ys0 h0;omega
 refine yhg (by omega) ?_ fun x hx=>?_
 ·rw [key]
  simp only [tuF]
  rw [if_pos (by omega)]
 ·rw [key]
  simp only [tuF]
  rw [if_neg (by omega)];omega
theorem y35 {N n:Nat} (hn:n+3<N):((rwT N (tuF n)).set (N+n+2) (tuF n ((n:Int)+2)-1)).set (N+n-2) (tuF n ((n:Int)-2)-1)=rwT N (tuR n):=by
 rw [yhg (g:=fun x=>tuF n x-if x=(n:Int)+2 then 1 else 0) (by omega) (by rw [if_pos (by omega),show ((N+n+2:Nat):Int)-N=(n:Int)+2 by omega]) fun x hx=>by rw [if_neg (by omega)];omega]
 refine yhg (by omega) ?_ fun x hx=>?_
 ·unfold tuR
  rw [show ((N+n-2:Nat):Int)-N=(n:Int)-2 by omega,if_neg (by omega),if_pos rfl];omega
 ·unfold tuR
  rw [if_neg (c:=x=(n:Int)-2) (by omega)];omega
theorem yz1 (n:Nat) (hn:n<=40):Fn Tryd.prog 7 [I n] (.tup [I (4*(n:Int)+4),roI (rwT (4*n+4) (tuR n))]):=by
 obtain ⟨N,hN⟩: ∃N:Nat,N=4*n+4:=⟨_,rfl⟩
 obtain ⟨S,hS⟩: ∃S:Nat,S=2*N+1:=⟨_,rfl⟩
 have e1:4*(n:Int)+4=(N:Nat):=by omega
 have e2:2*(N:Int)+1=(S:Nat):=by omega
 rw [←hN,e1]
 have w0:rwT N (tuF 0)=List.replicate S 0:=by rw [hS];exact y0y N
 have wl: ∀f,(rwT N f).length=S:=fun f=>by rw [yhf,hS]
 refine Fn.introL [.tmp 2, .tmp 3] Tryd.func7 rfl rfl (by decide) (by simp [Tryd.ntmps7]) ?_;rw [Tryd.ntmps7]
 repeat' (first|omega|(try apply yaa);simp only [go_sem,sevalprocAttr,e1,e2]|apply yae<;>(intro h_;(try simp only [h_]);revert h_)|apply yad|apply yab|apply gspI|apply And.intro|with_reducible intro h_|trivial|simp only [go_sem,la2];omega)
 refine yak.intro (fun n' fr H=> ∃k:Nat,k<=n/\n'=n-k/\fr=[(7,I k),(6, .sl 1 0 0 S),(5,I S),(4,I N),(0,I n)]/\H=[(0, .cells 3 (.ints (rwT N (tuF k))))]) ?_ ?_
 ·refine ⟨_,_,_,Wk.sub ?_ ?_,0,by omega,rfl,rfl,rfl⟩
  ·simp only [go_sem,sevalprocAttr]
  ·simp only [go_sem,sevalprocAttr,w0]
 rintro n' fr H ⟨k,hk,rfl,rfl,rfl⟩
 by_cases hkn:k<n
 ·have bk:decide ((k:Int)<n)=true:=by simp;omega
  have w3:rwT N (inT N k 3)=List.replicate S 0:=by
   rw [hS,←y0y]
   refine yxa fun x h1 h2=>?_
   unfold inT
   rw [if_neg (by omega)]
  repeat' (first|omega|(try apply yaa);simp only [go_sem,sevalprocAttr,bk]|apply yae<;>(intro h_;(try simp only [h_]);revert h_)|apply yad|apply yab|apply gspI|apply And.intro|with_reducible intro h_|trivial|simp only [go_sem,la2];omega)
  refine yak.intro (fun n' fr H=> ∃i:Nat,3<=i/\i+3<=S/\n'=S-3-i/\fr=[(9,I i),(8, .sl 1 1 0 S),(7,I k),(6, .sl 1 0 0 S),(5,I S),(4,I N),(0,I n)]/\H=[(1, .cells 3 (.ints (rwT N (inT N k i)))),(0, .cells 3 (.ints (rwT N (tuF k))))]) ?_ ?_
  ·refine ⟨_,_,_,Wk.sub ?_ ?_,3,by omega,by omega,rfl,rfl,rfl⟩
   ·simp only [go_sem,sevalprocAttr]
    all_goals rfl
   ·simp only [go_sem,sevalprocAttr,w3]
  rintro n' fr H ⟨i,hi3,hi,rfl,rfl,rfl⟩
  by_cases hiS:i+3<S
  ·have bi:decide ((i:Int)+3<S)=true:=by simp;omega
   have ea:((i:Int)+1).toNat=i+1:=by omega
   have eb:((i:Int)-3).toNat=i-3:=by omega
   obtain ⟨v,hv⟩: ∃v,tuF k ((i:Int)-N)=v:=⟨_,rfl⟩
   have vb:=yfq k ((i:Int)-N)
   rw [hv] at vb
   have g0:(rwT N (tuF k)).getD i 0=v:=by rw [yek (by omega),hv]
   have g1:(rwT N (inT N k i)).getD (i+1) 0=0:=by rw [yek (by omega)];unfold inT;rw [if_neg (by omega)]
   have g2:((rwT N (inT N k i)).set (i+1) v).getD (i+1) 0=v:=ybj (by rw [wl];omega)
   have g3:(((rwT N (inT N k i)).set (i+1) v).set (i+1) (v-v)).getD (i-3) 0=0:=by
    rw [yaz (by omega),yaz (by omega),yek (by omega)];unfold inT;rw [if_neg (by omega)]
   have st:=yz0 (N:=N) (k:=k) hi3 (by omega) v hv.symm
   have st2:=st
   rw [Int.zero_sub] at st2
   have l0:=wl (tuF k)
   have l1:=wl (inT N k i)
   repeat' (first|omega|(try apply yaa);simp only [go_sem,sevalprocAttr,bi]|apply yae<;>(intro h_;(try simp only [h_]);revert h_)|apply yad|apply yab|apply gspI|apply And.intro|with_reducible intro h_|trivial|simp only [go_sem,la2];omega)
   refine yac.cut [(9,I i),(8, .sl 1 1 0 S),(7,I k),(6, .sl 1 0 0 S),(5,I S),(4,I N),(0,I n)] [(1, .cells 3 (.ints ((rwT N (inT N k i)).set (i+1) v))),(0, .cells 3 (.ints (rwT N (tuF k))))] ?_ ?_
   ·repeat' (first|omega|(first|apply yaa|(refine yac.introF (id:=11) (ycp) (by decide+kernel) mixed ?_)|(refine yac.intro (id:=11) yhc ycq (by decide+kernel) mixed ?_)|(refine yac.introF (id:=12) (ycp) (by decide+kernel) mixed ?_)|(refine yac.intro (id:=12) yhd ycq (by decide+kernel) mixed ?_)|(refine yac.introF (id:=13) (ycp) (by decide+kernel) mixed ?_)|(refine yac.intro (id:=13) yhe ycq (by decide+kernel) mixed ?_)|skip);simp only [go_sem,sevalprocAttr,ea,g0,g1,l0,l1,↓reduceIte,reduceCtorEq,ycp,yhc,ycq,yhd,yhe]|apply yae<;>(intro h_;(try simp only [h_]);revert h_)|apply yad|apply yab|apply gspI|apply And.intro|with_reducible intro h_|trivial|simp only [go_sem,la2];omega)
    all_goals (refine Wk.sub ?_ ?_<;>(simp only [go_sem,sevalprocAttr,g0,g1]))
   repeat' (first|omega|(try apply yaa);simp only [go_sem,sevalprocAttr,bi]|apply yae<;>(intro h_;(try simp only [h_]);revert h_)|apply yad|apply yab|apply gspI|apply And.intro|with_reducible intro h_|trivial|simp only [go_sem,la2];omega)
   refine yac.cut [(9,I i),(8, .sl 1 1 0 S),(7,I k),(6, .sl 1 0 0 S),(5,I S),(4,I N),(0,I n)] [(1, .cells 3 (.ints (((rwT N (inT N k i)).set (i+1) v).set (i+1) (v-v)))),(0, .cells 3 (.ints (rwT N (tuF k))))] ?_ ?_
   ·repeat' (first|omega|(first|apply yaa|(refine yac.introF (id:=11) (ycp) (by decide+kernel) mixed ?_)|(refine yac.intro (id:=11) yhc ycq (by decide+kernel) mixed ?_)|(refine yac.introF (id:=12) (ycp) (by decide+kernel) mixed ?_)|(refine yac.intro (id:=12) yhd ycq (by decide+kernel) mixed ?_)|(refine yac.introF (id:=13) (ycp) (by decide+kernel) mixed ?_)|(refine yac.intro (id:=13) yhe ycq (by decide+kernel) mixed ?_)|skip);simp only [go_sem,sevalprocAttr,ea,g0,g2,l0,l1,List.length_set,↓reduceIte,reduceCtorEq,ycp,yhc,ycq,yhd,yhe]|apply yae<;>(intro h_;(try simp only [h_]);revert h_)|apply yad|apply yab|apply gspI|apply And.intro|with_reducible intro h_|trivial|simp only [go_sem,la2];omega)
    all_goals (refine Wk.sub ?_ ?_<;>(simp only [go_sem,sevalprocAttr,g0,g2]))
   repeat' (first|omega|(try apply yaa);simp only [go_sem,sevalprocAttr,bi]|apply yae<;>(intro h_;(try simp only [h_]);revert h_)|apply yad|apply yab|apply gspI|apply And.intro|with_reducible intro h_|trivial|simp only [go_sem,la2];omega)
   refine yac.cutE [(9,I i),(8, .sl 1 1 0 S),(7,I k),(6, .sl 1 0 0 S),(5,I S),(4,I N),(0,I n)] [(1, .cells 3 (.ints (rwT N (inT N k (i+1))))),(0, .cells 3 (.ints (rwT N (tuF k))))] ?_ ?_
   ·repeat' (first|omega|(first|apply yaa|(refine yac.introF (id:=11) (ycp) (by decide+kernel) mixed ?_)|(refine yac.intro (id:=11) yhc ycq (by decide+kernel) mixed ?_)|(refine yac.introF (id:=12) (ycp) (by decide+kernel) mixed ?_)|(refine yac.intro (id:=12) yhd ycq (by decide+kernel) mixed ?_)|(refine yac.introF (id:=13) (ycp) (by decide+kernel) mixed ?_)|(refine yac.intro (id:=13) yhe ycq (by decide+kernel) mixed ?_)|skip);simp only [go_sem,sevalprocAttr,eb,g0,g3,l0,l1,List.length_set,↓reduceIte,reduceCtorEq,ycp,yhc,ycq,yhd,yhe]|apply yae<;>(intro h_;(try simp only [h_]);revert h_)|apply yad|apply yab|apply gspI|apply And.intro|with_reducible intro h_|trivial|simp only [go_sem,la2];omega)
    all_goals (refine Wk.sub ?_ ?_<;>(simp only [go_sem,sevalprocAttr,g0,g3,st,st2]))
   repeat' (first|omega|(try apply yaa);simp only [go_sem,sevalprocAttr,bi]|apply yae<;>(intro h_;(try simp only [h_]);revert h_)|apply yad|apply yab|apply gspI|apply And.intro|with_reducible intro h_|trivial|simp only [go_sem,la2];omega)
   refine ⟨_,_,_,?_,Wk.sub ?_ ?_,i+1,by omega,by omega,rfl,rfl,rfl⟩
   ·omega
   ·simp only [go_sem,sevalprocAttr]
   ·simp only [go_sem,sevalprocAttr]
  ·obtain rfl:i=2*N-2:=by omega
   have bi:decide (((2*N-2:Nat):Int)+3<S)=false:=by rw [decide_eq_false_iff_not];omega
   have ec:((N:Int)+k-1).toNat=N+k-1:=by omega
   have g4:(rwT N (inT N k (2*N-2))).getD (N+k-1) 0=inT N k (2*N-2) (((N+k-1:Nat):Int)-N):=yek (by omega)
   have vb: -1<=inT N k (2*N-2) (((N+k-1:Nat):Int)-N)/\inT N k (2*N-2) (((N+k-1:Nat):Int)-N)<=1:=by
    unfold inT
    have:=yfq k (((N+k-1:Nat):Int)-N+3)
    split<;>omega
   have en:=y34 (N:=N) (k:=k) (by omega)
   have l1:=wl (inT N k (2*N-2))
   generalize inT N k (2*N-2) (((N+k-1:Nat):Int)-N)=v at g4 vb en
   repeat' (first|omega|(try apply yaa);simp only [go_sem,sevalprocAttr,bi,ec,g4,l1]|apply yae<;>(intro h_;(try simp only [h_]);revert h_)|apply yad|apply yab|apply gspI|apply And.intro|with_reducible intro h_|trivial|simp only [go_sem,la2];omega)
   refine ⟨_,_,_,?_,Wk.subS 0 1 (fr1:=[(7,I ((k+1:Nat):Int)),(6, .sl 1 1 0 S),(5,I S),(4,I N),(0,I n)]) (H1:=[(1, .cells 3 (.ints (rwT N (tuF (k+1)))))]) rfl rfl rfl rfl ?_ ?_,k+1,by omega,rfl,rfl,rfl⟩
   ·omega
   ·simp only [go_sem,sevalprocAttr]
   ·simp only [go_sem,sevalprocAttr,en]
 ·obtain rfl:k=n:=by omega
  have bk:decide ((k:Int)<(k:Nat))=false:=by simp
  have e3:((N:Int)+k+2).toNat=N+k+2:=by omega
  have e4:((N:Int)+k-2).toNat=N+k-2:=by omega
  obtain ⟨v,hv⟩: ∃v,tuF k ((k:Int)+2)=v:=⟨_,rfl⟩
  obtain ⟨w,hw⟩: ∃w,tuF k ((k:Int)-2)=w:=⟨_,rfl⟩
  have vb:=yfq k ((k:Int)+2)
  have wb:=yfq k ((k:Int)-2)
  have st:=y35 (N:=N) (n:=k) (by omega)
  rw [hv] at vb st
  rw [hw] at wb st
  have g1:(rwT N (tuF k)).getD (N+k+2) 0=v:=by rw [yek (by omega),←hv];congr 1;omega
  have g2:((rwT N (tuF k)).set (N+k+2) (v-1)).getD (N+k-2) 0=w:=by
   rw [yaz (by omega),yek (by omega),←hw];congr 1;omega
  have l1:=wl (tuF k)
  have lR:=wl (tuR k)
  have tR:=List.take_of_length_le (Nat.le_of_eq lR)
  repeat' (first|omega|(try apply yaa);simp only [go_sem,sevalprocAttr,bk,e3,e4,g1,g2,l1,List.length_set,st,lR]|apply yae<;>(intro h_;(try simp only [h_]);revert h_)|apply yad|apply yab|apply gspI|apply And.intro|with_reducible intro h_|trivial|simp only [go_sem,la2];omega)
  all_goals exact LeA.of (by rw [tR])
end Go.Proofs.YtmdjdekgakidhaaDoor
set_option linter.unusedSimpArgs false
set_option linter.unusedVariables false
namespace Go.Proofs.YtmdjdekgakidhaaDoor
set_option maxRecDepth 100000
theorem y5t {s m:List Int} {L:Nat} (hv:ybb s m L=true) (hs:s.length<=9) (hL:L<=20) {p:List (Int×Int)} (ha:AscN p) (N:Nat) (hN:5*s.length+2*L<=N+2) (hp: ∀t∈p,-(N:Int)<=t.1/\t.1<=N)
  (h:((List.range (2*N+1)).all fun i=>decide (cfL p ((i:Int)-N)=brT m s.length L 1 ((i:Int)-N)))=true):brP m s.length L=p:=by
 have hq:=pmOk hv
 have h1:=yc4 hq (fun _=>true)
 have h2:=yc4 hq (fun _=>false)
 have:yap p (brT m s.length L 1):=⟨ha,fun e=>by
  by_cases he: -(N:Int)<=e/\e<=N
  ·have:=List.all_eq_true.1 h (e+N).toNat (List.mem_range.2 (by omega))
   rw [decide_eq_true_iff,show (((e+(N:Int)).toNat:Nat):Int)-N=e by omega] at this
   exact this
  ·rw [yku fun t ht=>by have:=hp t ht;omega]
   by_cases h0:brT m s.length L 1 e=0
   ·exact h0.symm
   ·have:=yh4 hq h0
    omega⟩
 exact (this.eq fun e he=>yjr hq hs hL (by omega) he).symm
end Go.Proofs.YtmdjdekgakidhaaDoor
