/- Layer 17: the sum of two polynomials, the first of which may be written. -/
import Derived.Test.YtmdjdekgakidhaaDoorSw1
import Derived.Test.YtmdjdekgakidhaaDoorZd
namespace Go.Proofs.YtmdjdekgakidhaaDoor
open Go Go.RowKit
set_option maxRecDepth 100000
set_option maxHeartbeats 8000000
set_option linter.unusedVariables false
set_option linter.unusedSimpArgs false
def yg1:List (List Nat):=[[58,59,60,61,62,64,65],[57,60,64,65],[57,60,64,65],[57,58,59,64,65],[57,64,65],[57,64,65],[64,65],[57,58,59,60,61,62,63],[57,58,59,60,61,62,63],[]]
def ywd:Tr:= .node [(0, .node [(3, .node [(1, .node [(2, .node [(4, .node [(5, .node [(6, .node [(7, .node [(8, .node [(9, .done)])])])]),(7, .node [(5, .node [(6, .node [(8, .node [(9, .done)])])]),(8, .node [(5, .node [(6, .node [(9, .done)])])])])]),(7, .node [(4, .node [(5, .node [(6, .node [(8, .node [(9, .done)])])]),(8, .node [(5, .node [(6, .node [(9, .done)])])])]),(8, .node [(4, .node [(5, .node [(6, .node [(9, .done)])])])])])]),(7, .node [(2, .node [(4, .node [(5, .node [(6, .node [(8, .node [(9, .done)])])]),(8, .node [(5, .node [(6, .node [(9, .done)])])])]),(8, .node [(4, .node [(5, .node [(6, .node [(9, .done)])])])])]),(8, .node [(2, .node [(4, .node [(5, .node [(6, .node [(9, .done)])])])])])])]),(7, .node [(1, .node [(2, .node [(4, .node [(5, .node [(6, .node [(8, .node [(9, .done)])])]),(8, .node [(5, .node [(6, .node [(9, .done)])])])]),(8, .node [(4, .node [(5, .node [(6, .node [(9, .done)])])])])]),(8, .node [(2, .node [(4, .node [(5, .node [(6, .node [(9, .done)])])])])])]),(8, .node [(1, .node [(2, .node [(4, .node [(5, .node [(6, .node [(9, .done)])])])])])])])])])]
theorem yqc: ∀fr:Fr,unl (lft fr)=fr
 |[]=>rfl
 |(s,x)::r=>by simp [lft,unl,yqc r]
attribute [go_sem] yqc
def adK (r:List Int) (b:Nat) (q:List Int) (k:Nat):List Int:=(List.range r.length).map fun i=>r.getD i 0+if b<=i/\i-b<k then q.getD (i-b) 0 else 0
theorem yc9 (r:List Int) (b:Nat) (q:List Int) (k:Nat):(adK r b q k).length=r.length:=by simp [adK]
theorem y0o (r:List Int) (b:Nat) (q:List Int):adK r b q 0=r:=by
 apply List.ext_getElem?
 intro i
 by_cases h:i<r.length<;>simp [adK,h]
theorem yit (r:List Int) (b:Nat) (q:List Int) (k i:Nat) (h:i<r.length):(adK r b q k).getD i 0=r.getD i 0+if b<=i/\i-b<k then q.getD (i-b) 0 else 0:=by
 simp [adK,List.getD_eq_getElem?_getD,h]
theorem yqd (r:List Int) (b:Nat) (q:List Int) (k:Nat) (h:b+k<r.length):(adK r b q k).set (b+k) ((adK r b q k).getD (b+k) 0+q.getD k 0)=adK r b q (k+1):=by
 rw [yit _ _ _ _ _ h,if_neg (by omega)]
 apply List.ext_getElem?
 intro i
 rw [List.getElem?_set,yc9]
 by_cases e:b+k=i
 ·subst e
  rw [if_pos rfl,if_pos h]
  simp only [adK,List.getElem?_map,List.getElem?_range h,Option.map_some]
  rw [if_pos (by omega),show b+k-b=k by omega];simp
 ·rw [if_neg e]
  by_cases hi:i<r.length
  ·simp only [adK,List.getElem?_map,List.getElem?_range hi,Option.map_some]
   have:(b<=i/\i-b<k)=(b<=i/\i-b<k+1):=propext ⟨fun h=>by omega,fun h=>by omega⟩
   simp only [this]
  ·simp [adK,hi]
def padL (a:Nat) (p:List Int) (N:Nat):List Int:=(List.range N).map fun i=>if a<=i/\i-a<p.length then p.getD (i-a) 0 else 0
theorem ydj (a:Nat) (p:List Int) (N:Nat):(padL a p N).length=N:=by simp [padL]
theorem ywe (a:Nat) (p:List Int) (N:Nat):((List.range (List.replicate N (0:Int)).length).map fun i=>if a<=i/\i-a<p.length then p.getD (i-a) 0 else (List.replicate N (0:Int)).getD i 0)=padL a p N:=by
 unfold padL
 rw [List.length_replicate]
 refine List.map_congr_left fun i hi=>?_
 have:=List.mem_range.1 hi
 simp [List.getD_eq_getElem?_getD,this]
theorem ywf {α:Type} {l:List α} {j:Nat} {x:α} (h:l[j]?=some x):l.set j x=l:=by
 apply List.ext_getElem?
 intro i
 rw [List.getElem?_set]
 split
 ·rename_i e;subst e;rw [if_pos (List.getElem?_eq_some_iff.1 h).1,h]
 ·rfl
abbrev plT (g:PE) (lo:Int) (cs:List Int) (r:Nat):Hp:=[(1000006, .cells 65 (.lst [I g.lo, .sl 1 r 0 g.cs.length])),(1000005, .cells 65 (.lst [I lo,roI cs]))]
theorem yof (sd:List PE) (sn:List Nat) (G:List PE) (j b r:Nat) (g:PE) (cs:List Int) (hG:G.length<=900000) (hj:G[j]?=some g) (hr:r=j+10) (hb:b+cs.length<=g.cs.length) (hl:g.cs.length<=1000000) (hlo: -1000000<=g.lo/\g.lo<=1000000)
  (hc1: ∀i,-1152921504606846976<=g.cs.getD i 0/\g.cs.getD i 0<=1152921504606846976) (hc2: ∀i,-1152921504606846976<=cs.getD i 0/\cs.getD i 0<=1152921504606846976) {fr:Fr} {K:AV->Fr->Hp->Prop}
  (hK:K (.agg [I g.lo, .sl 1 r 0 g.cs.length]) fr ([(1000009, .cells 65 (.lst [I g.lo, .sl 1 r 0 g.cs.length])),(1000008, .cells 65 (.lst [I (g.lo+2*(b:Int)),roI cs])),(1000007, .cells 65 (.lst [I g.lo, .sl 1 r 0 g.cs.length]))]++plT g (g.lo+2*(b:Int)) cs r++swpR sd sn G (G.set j ⟨g.key,g.lo,adK g.cs b cs cs.length⟩))):
  ybi Tryd.prog 27 [.agg [I g.lo, .sl 1 r 0 g.cs.length],tpA (g.lo+2*(b:Int)) cs] fr (plT g (g.lo+2*(b:Int)) cs r++swpH sd sn G) K:=by
 have hjl:j<G.length:=(List.getElem?_eq_some_iff.1 hj).1
 have hnw:max 1000001 (hnew (rwE 0 G))=1000001:=by have:=ych G 0;omega
 have b0:decide (g.lo+2*(b:Int)<g.lo)=false:=by rw [decide_eq_false_iff_not];omega
 have b1:decide (g.lo+2*(g.cs.length:Int)<g.lo+2*(b:Int)+2*(cs.length:Int))=false:=by rw [decide_eq_false_iff_not];omega
 refine ybi.intro [.cell 4 65] Tryd.func27 rfl rfl (by decide) (by simp [Tryd.ntmps27]) ?_;rw [Tryd.ntmps27]
 repeat' (first|omega|(first|apply yaa|(refine yac.intro (id:=5) yg1 [[],[0],[0],[0,1,2],[0],[0],[],[0,1,2,3,4,5,6],[0,1,2,3,4,5,6],[]] (by decide+kernel) mixed ?_)|skip);simp only [go_sem,sevalprocAttr,hnw,b0,b1,↓reduceIte,reduceCtorEq,yg1]|apply yae<;>(intro h_;(try simp only [h_]);revert h_)|apply yad|apply yab|apply gspI|apply And.intro|with_reducible intro h_|trivial|simp only [go_sem,la2];omega)
 have n4:(1000004=r)=False:=eq_false (by omega)
 have n3:(1000003=r)=False:=eq_false (by omega)
 have n2:(1000002=r)=False:=eq_false (by omega)
 have n1:(2=r)=False:=eq_false (by omega)
 have n0:(1=r)=False:=eq_false (by omega)
 have n5:(1000000=r)=False:=eq_false (by omega)
 have m5:(1000005=r)=False:=eq_false (by omega)
 have m6:(1000006=r)=False:=eq_false (by omega)
 have m7:(1000007=r)=False:=eq_false (by omega)
 have m8:(1000008=r)=False:=eq_false (by omega)
 have m9:(1000009=r)=False:=eq_false (by omega)
 have hset1: ∀k c,hset (rwE 0 (G.set j ⟨g.key,g.lo,adK g.cs b cs k⟩)) r (.cells 3 (.ints c))=rwE 0 (G.set j ⟨g.key,g.lo,c⟩):=fun k c=>by
  have:=yp8 g.key g.lo c (G.set j ⟨g.key,g.lo,adK g.cs b cs k⟩) 0 j (by simpa using hjl)
  rw [Nat.zero_add,←hr,List.set_set] at this;exact this
 have hget1: ∀k,hget (rwE 0 (G.set j ⟨g.key,g.lo,adK g.cs b cs k⟩)) r=some (.cells 3 (.ints (adK g.cs b cs k))):=fun k=>by
  rw [hr];exact rwE_row (G:=G.set j ⟨g.key,g.lo,adK g.cs b cs k⟩) (g:=⟨g.key,g.lo,adK g.cs b cs k⟩) (by simp [hjl])
 refine yak.intro (fun n fr' H=> ∃i:Nat,i<=cs.length/\n=cs.length-i/\fr'=[(73,I i),(72,I cs.length),(71,roI cs),(4, .ptr 1000009 0),(3, .ptr 1000008 0),(2, .ptr 1000007 0)]++lft fr/\
  H=(1000009, .cells 65 (.lst [I 0, .nils]))::(1000008, .cells 65 (.lst [I (g.lo+2*(b:Int)),roI cs]))::(1000007, .cells 65 (.lst [I g.lo, .sl 1 r 0 g.cs.length]))::(1000006, .cells 65 (.lst [I g.lo, .sl 1 r 0 g.cs.length]))::(1000005, .cells 65 (.lst [I (g.lo+2*(b:Int)),roI cs]))::swpR sd sn G (G.set j ⟨g.key,g.lo,adK g.cs b cs i⟩)) ?_ ?_
 ·refine ⟨_,_,_,?_,0,by omega,rfl,rfl,rfl⟩
  rw [y0o,show (G.set j ⟨g.key,g.lo,g.cs⟩)=G from ywf hj]
  refine Wk.frm ?_ (fun t ht=>?_)
  ·simp only [go_sem,sevalprocAttr,List.forall_mem_cons]
  ·simp only [fget]
   repeat rw [if_neg (by omega)]
 rintro n fr' H ⟨i,hi,rfl,rfl,rfl⟩
 by_cases hil:i<cs.length
 ·have bi:decide ((i:Int)<cs.length)=true:=by simp;omega
  have e1:(g.lo+2*(b:Int)-g.lo).tdiv 2=b:=by rw [show g.lo+2*(b:Int)-g.lo=(b:Int)*2 by omega,Int.mul_tdiv_cancel _ (by decide)]
  have e2:((b:Int)+i).toNat=b+i:=by omega
  have st:=yqd g.cs b cs i (by omega)
  have al:=yc9 g.cs b cs i
  have a1:=yit g.cs b cs i (b+i) (by omega)
  rw [if_neg (by omega),Int.add_zero] at a1
  have c1:=hc1 (b+i)
  have c2:=hc2 i
  have gi:=hget1 i
  have hs:=hset1 i
  rw [←a1] at c1
  repeat' (first|omega|(try apply yaa);simp only [go_sem,sevalprocAttr,bi,e1,e2,n0,n1,n2,n3,n4,n5,m5,m6,m7,m8,m9,gi,hs,al,st]|apply yae<;>(intro h_;(try simp only [h_]);revert h_)|apply yad|apply yab|apply gspI|apply And.intro|with_reducible intro h_|trivial|simp only [go_sem,la2];omega)
  refine ⟨_,_,_,?_,?_,i+1,by omega,rfl,rfl,rfl⟩
  ·omega
  ·refine Wk.frm (A:=[(73,I ((i+1:Nat):Int)),(72,I cs.length),(71,roI cs),(4, .ptr 1000009 0),(3, .ptr 1000008 0),(2, .ptr 1000007 0)]) ?_ (fun t ht=>?_)
   ·simp only [go_sem,sevalprocAttr,List.forall_mem_cons]
   ·simp only [fget]
    repeat rw [if_neg (by omega)]
 ·obtain rfl:i=cs.length:=by omega
  have bi:decide ((cs.length:Int)<cs.length)=false:=by simp
  repeat' (first|omega|(first|apply yaa|(refine yac.intro (id:=5) yg1 [[],[0],[0],[0,1,2],[0],[0],[],[0,1,2,3,4,5,6],[0,1,2,3,4,5,6],[]] (by decide+kernel) mixed ?_)|skip);simp only [go_sem,sevalprocAttr,bi,↓reduceIte,reduceCtorEq,yg1]|apply yae<;>(intro h_;(try simp only [h_]);revert h_)|apply yad|apply yab|apply gspI|apply And.intro|with_reducible intro h_|trivial|simp only [go_sem,la2];omega)
  all_goals exact hK
theorem ym5 (sd:List PE) (sn:List Nat) (G:List PE) (j a b N r:Nat) (lo':Int) (g:PE) (lo:Int) (cs:List Int) (hG:G.length<=900000) (hj:G[j]?=some g) (hr:r=j+10) (hga:g.lo=lo'+2*(a:Int)) (hlb:lo=lo'+2*(b:Int)) (hab:a=0\/b=0)
  (haN:a+g.cs.length<=N) (hbN:b+cs.length<=N) (hN:N=a+g.cs.length\/N=b+cs.length) (hw:0<a\/g.cs.length+a<b+cs.length) (hN0:N<=1000000) (hlo: -1000000<=lo'/\lo'<=1000000)
  (hc1: ∀i,-1152921504606846976<=g.cs.getD i 0/\g.cs.getD i 0<=1152921504606846976) (hc2: ∀i,-1152921504606846976<=cs.getD i 0/\cs.getD i 0<=1152921504606846976) {fr:Fr} {K:AV->Fr->Hp->Prop}
  (hK:K (.agg [I lo', .sl 1 1000010 0 N]) fr ([(1000010, .cells 3 (.ints (adK (padL a g.cs N) b cs cs.length))),(1000009, .cells 65 (.lst [I lo', .sl 1 1000010 0 N])),(1000008, .cells 65 (.lst [I lo,roI cs])),(1000007, .cells 65 (.lst [I lo', .sl 1 1000010 0 N]))]++plT g lo cs r++swpR sd sn G G)):
  ybi Tryd.prog 27 [.agg [I g.lo, .sl 1 r 0 g.cs.length],tpA lo cs] fr (plT g lo cs r++swpH sd sn G) K:=by
 have hjl:j<G.length:=(List.getElem?_eq_some_iff.1 hj).1
 have hnw:max 1000001 (hnew (rwE 0 G))=1000001:=by have:=ych G 0;omega
 have n4:(1000004=r)=False:=eq_false (by omega)
 have n3:(1000003=r)=False:=eq_false (by omega)
 have n2:(1000002=r)=False:=eq_false (by omega)
 have n1:(2=r)=False:=eq_false (by omega)
 have n0:(1=r)=False:=eq_false (by omega)
 have n5:(1000000=r)=False:=eq_false (by omega)
 have m5:(1000005=r)=False:=eq_false (by omega)
 have m6:(1000006=r)=False:=eq_false (by omega)
 have m7:(1000007=r)=False:=eq_false (by omega)
 have m8:(1000008=r)=False:=eq_false (by omega)
 have m9:(1000009=r)=False:=eq_false (by omega)
 have mA:(1000010=r)=False:=eq_false (by omega)
 have gr:hget (rwE 0 G) r=some (.cells 3 (.ints g.cs)):=by rw [hr];exact rwE_row hj
 have b0:decide (lo<g.lo)=decide (0<a):=by
  rw [decide_eq_decide];omega
 have b1:decide (g.lo+2*(g.cs.length:Int)<lo+2*(cs.length:Int))=decide (g.cs.length+a<b+cs.length):=by
  rw [decide_eq_decide];omega
 have e1:(if lo<g.lo then lo else g.lo)=lo':=by split<;>omega
 have e2:(if g.lo+2*(g.cs.length:Int)<lo+2*(cs.length:Int) then lo+2*(cs.length:Int) else g.lo+2*(g.cs.length:Int))=lo'+2*(N:Int):=by split<;>omega
 have e3:(lo'+2*(N:Int)-lo').tdiv 2=N:=by rw [show lo'+2*(N:Int)-lo'=(N:Int)*2 by omega,Int.mul_tdiv_cancel _ (by decide)]
 have e4:(g.lo-lo').tdiv 2=a:=by rw [show g.lo-lo'=(a:Int)*2 by omega,Int.mul_tdiv_cancel _ (by decide)]
 have e5:(lo-lo').tdiv 2=b:=by rw [show lo-lo'=(b:Int)*2 by omega,Int.mul_tdiv_cancel _ (by decide)]
 have pl:=ydj a g.cs N
 have hpc:=ywe a g.cs N
 have r0:(List.replicate N (0:Int)).length=N:=List.length_replicate
 refine ybi.intro [.cell 4 65] Tryd.func27 rfl rfl (by decide) (by simp [Tryd.ntmps27]) ?_;rw [Tryd.ntmps27]
 by_cases ha0:0<a
 case' pos=>
  have ba:decide (0<a)=true:=by simpa using ha0
  repeat' (first|omega|(try apply yaa);simp only [go_sem,sevalprocAttr,hnw,b0,ba,e1,e2,e3,e4,Int.toNat_natCast]|apply yae<;>(intro h_;(try simp only [h_]);revert h_)|apply yad|apply yab|apply gspI|apply And.intro|with_reducible intro h_|trivial|simp only [go_sem,la2];omega)
 case' neg=>
  have ba:decide (0<a)=false:=by simpa using ha0
  have bb:decide (g.cs.length+a<b+cs.length)=true:=by rw [decide_eq_true_eq];omega
  repeat' (first|omega|(try apply yaa);simp only [go_sem,sevalprocAttr,hnw,b0,ba,b1,bb,e1,e2,e3,e4,Int.toNat_natCast]|apply yae<;>(intro h_;(try simp only [h_]);revert h_)|apply yad|apply yab|apply gspI|apply And.intro|with_reducible intro h_|trivial|simp only [go_sem,la2];omega)
 all_goals
  refine yac.cut ([(5,I lo'),(7, .sl 1 1000010 0 N),(4, .ptr 1000009 0),(3, .ptr 1000008 0),(2, .ptr 1000007 0)]++lft fr) ((1000010, .cells 3 (.ints (padL a g.cs N)))::(1000009, .cells 65 (.lst [I 0, .nils]))::(1000008, .cells 65 (.lst [I lo,roI cs]))::(1000007, .cells 65 (.lst [I g.lo, .sl 1 r 0 g.cs.length]))::(1000006, .cells 65 (.lst [I g.lo, .sl 1 r 0 g.cs.length]))::(1000005, .cells 65 (.lst [I lo,roI cs]))::swpR sd sn G G) ?_ ?_
  ·repeat' (first|omega|(first|apply yaa|(refine yac.introE (id:=5) (ywd) (by decide+kernel) mixed ?_)|(refine yac.intro (id:=5) yg1 [[],[0],[0],[0,1,2],[0],[0],[],[0,1,2,3,4,5,6],[0,1,2,3,4,5,6],[]] (by decide+kernel) mixed ?_)|skip);simp only [go_sem,sevalprocAttr,e4,Int.toNat_natCast,n0,n1,n2,n3,n4,n5,m5,m6,m7,m8,m9,mA,gr,↓reduceIte,reduceCtorEq,yg1,ywd]|apply yae<;>(intro h_;(try simp only [h_]);revert h_)|apply yad|apply yab|apply gspI|apply And.intro|with_reducible intro h_|trivial|simp only [go_sem,la2];omega)
   all_goals
    refine SpL.copy (t:=23) (e:=3) (id:=1000010) (rid:=r) (n:=N-a) (m:=g.cs.length) (a:=a) (l:=List.replicate N 0) (ls:=g.cs) rfl rfl (by simp only [go_sem,sevalprocAttr]) (by simp only [go_sem,sevalprocAttr]) rfl rfl rfl ?_ (by rw [r0];omega) rfl (by omega) ?_
    ·simp only [go_sem,sevalprocAttr,n0,n1,n2,n3,n4,n5,m5,m6,m7,m8,m9,mA,gr]
    rw [hpc]
    simp only [go_sem,sevalprocAttr]
    refine Wk.frm (A:=[(5,I lo'),(7, .sl 1 1000010 0 N),(4, .ptr 1000009 0),(3, .ptr 1000008 0),(2, .ptr 1000007 0)]) ?_ (fun t ht=>?_)
    ·simp only [go_sem,sevalprocAttr,List.forall_mem_cons]
    ·simp only [fget]
     repeat rw [if_neg (by omega)]
  repeat' (first|omega|(try apply yaa);simp only [go_sem,sevalprocAttr,e5]|apply yae<;>(intro h_;(try simp only [h_]);revert h_)|apply yad|apply yab|apply gspI|apply And.intro|with_reducible intro h_|trivial|simp only [go_sem,la2];omega)
  refine yak.intro (fun n fr' H=> ∃i:Nat,i<=cs.length/\n=cs.length-i/\fr'=[(73,I i),(72,I cs.length),(71,roI cs),(4, .ptr 1000009 0),(3, .ptr 1000008 0),(2, .ptr 1000007 0)]++lft fr/\
   H=(1000010, .cells 3 (.ints (adK (padL a g.cs N) b cs i)))::(1000009, .cells 65 (.lst [I 0, .nils]))::(1000008, .cells 65 (.lst [I lo,roI cs]))::(1000007, .cells 65 (.lst [I lo', .sl 1 1000010 0 N]))::(1000006, .cells 65 (.lst [I g.lo, .sl 1 r 0 g.cs.length]))::(1000005, .cells 65 (.lst [I lo,roI cs]))::swpR sd sn G G) ?_ ?_
  ·refine ⟨_,_,_,?_,0,by omega,rfl,rfl,rfl⟩
   rw [y0o]
   refine Wk.frm (A:=[(73,I ((0:Nat):Int)),(72,I cs.length),(71,roI cs),(4, .ptr 1000009 0),(3, .ptr 1000008 0),(2, .ptr 1000007 0)]) ?_ (fun t ht=>?_)
   ·simp only [go_sem,sevalprocAttr,List.forall_mem_cons]
   ·simp only [fget]
    repeat rw [if_neg (by omega)]
  rintro n fr' H ⟨i,hi,rfl,rfl,rfl⟩
  by_cases hil:i<cs.length
  ·have bi:decide ((i:Int)<cs.length)=true:=by simp;omega
   have e6:((b:Int)+i).toNat=b+i:=by omega
   have st:=yqd (padL a g.cs N) b cs i (by omega)
   have al:=yc9 (padL a g.cs N) b cs i
   have a1:=yit (padL a g.cs N) b cs i (b+i) (by omega)
   rw [if_neg (by omega),Int.add_zero] at a1
   have c2:=hc2 i
   have c1: -1152921504606846976<=(padL a g.cs N).getD (b+i) 0/\(padL a g.cs N).getD (b+i) 0<=1152921504606846976:=by
    have:=hc1 (b+i-a)
    simp only [padL,List.getD_eq_getElem?_getD,List.getElem?_map,List.getElem?_range (show b+i<N by omega),Option.map_some,Option.getD_some] at this⊢
    split<;>omega
   rw [←a1] at c1
   rw [pl] at al
   repeat' (first|omega|(try apply yaa);simp only [go_sem,sevalprocAttr,bi,e5,e6,n0,n1,n2,n3,n4,n5,m5,m6,m7,m8,m9,mA,al,st]|apply yae<;>(intro h_;(try simp only [h_]);revert h_)|apply yad|apply yab|apply gspI|apply And.intro|with_reducible intro h_|trivial|simp only [go_sem,la2];omega)
   refine ⟨_,_,_,?_,?_,i+1,by omega,rfl,rfl,rfl⟩
   ·omega
   ·refine Wk.frm (A:=[(73,I ((i+1:Nat):Int)),(72,I cs.length),(71,roI cs),(4, .ptr 1000009 0),(3, .ptr 1000008 0),(2, .ptr 1000007 0)]) ?_ (fun t ht=>?_)
    ·simp only [go_sem,sevalprocAttr,List.forall_mem_cons]
    ·simp only [fget]
     repeat rw [if_neg (by omega)]
  ·obtain rfl:i=cs.length:=by omega
   have bi:decide ((cs.length:Int)<cs.length)=false:=by simp
   repeat' (first|omega|(try apply yaa);simp only [go_sem,sevalprocAttr,bi]|apply yae<;>(intro h_;(try simp only [h_]);revert h_)|apply yad|apply yab|apply gspI|apply And.intro|with_reducible intro h_|trivial|simp only [go_sem,la2];omega)
   all_goals exact hK
end Go.Proofs.YtmdjdekgakidhaaDoor
namespace Go.Proofs.YtmdjdekgakidhaaDoor
set_option linter.unusedVariables false
set_option linter.unusedSimpArgs false
section
variable {n W:Nat} {mt b0:Int->Int} {arc:Nat->Nat} {glue:Nat->Int} {hv:Nat->Int} (E:Emb n W mt b0 arc glue hv)
include E
omit E in
theorem Pst.le {b:Int->Int} {sn:List Bool} {c:Nat} {ex dn:Nat->Prop} (h:Pst n W mt b0 arc glue hv b sn c ex dn):sn.count true<=W:=by
 rw [←h.sl];exact List.count_le_length
theorem Pst.path {c x:Nat} {dn:Nat->Prop} (hx:x<W) (hgx:glue x<0) (hdx: ¬dn x): ∀(f:Nat) (b:Int->Int) (sn:List Bool) (u:Nat),W<sn.count true+2*f->u<W->Pst n W mt b0 arc glue hv b sn c (fun v=>v=x\/v=arc u) dn->b (hv (arc u))=hv x->
  ∃ys e b' sn',Pth arc glue u ys e/\e<W/\glue e<0/\Pst n W mt b0 arc glue hv b' sn' c (fun v=>v=x\/v=e) dn/\b' (hv e)=hv x/\sn'=ys.foldl (setP glue) sn/\sn'.count true=sn.count true+2*ys.length/\(∀y∈ys,y<W/\sn'.getD y false=true/\sn'.getD (glue y).toNat false=true)/\ ∀v,sn.getD v false=true->sn'.getD v false=true
 |0,b,sn,u,hf,hu,h,hb=>by have:=h.le;omega
 |f+1,b,sn,u,hf,hu,h,hb=>by
  have hy:=E.nod.ar u hu
  have hxs:sn.getD x false=false:=by
   cases hq:sn.getD x false with
   |false=>rfl
   |true=>have:=(h.seen x hx hq).1;omega
  by_cases hg:0<=glue (arc u)
  ·obtain ⟨zW,ze,zg,zy⟩:=E.gW hy hg
   have hys:sn.getD (arc u) false=false:=by
    cases hq:sn.getD (arc u) false with
    |false=>rfl
    |true=>
     have h1:=(h.seen _ hy hq).2.2
     rw [hb] at h1
     have:=E.inj _ _ hx zW h1
     rw [this,zg] at hgx
     omega
   have hxz:x≠(glue (arc u)).toNat:=fun e=>by rw [e,zg] at hgx;omega
   obtain ⟨s1,s2,s3,s4⟩:=h.step E hx hy hb hg hys hxz hxs hdx
   have hzs:sn.getD (glue (arc u)).toNat false=false:=by
    cases hz:sn.getD (glue (arc u)).toNat false with
    |false=>rfl
    |true=>
     have:=(h.seen _ zW hz).2.1
     rw [zg] at this
     simp only [Int.toNat_natCast] at this
     rw [this] at hys;cases hys
   have hcnt:=yhy (glue:=glue) (sn:=sn) (y:=arc u) (by rw [h.sl];exact hy) (by rw [h.sl];exact zW) zy hys hzs
   have hget:=fun j=>ykq (glue:=glue) (sn:=sn) (y:=arc u) (by rw [h.sl];exact hy) (by rw [h.sl];exact zW) j
   obtain ⟨ys,e,b',sn',p1,p2,p3,p4,p5,p6,p7,p8,p9⟩:=Pst.path hx hgx hdx f _ _ (glue (arc u)).toNat (by omega) zW s1 s4
   refine ⟨arc u::ys,e,b',sn', .cons hg p1,p2,p3,p4,p5,by rw [List.foldl_cons];exact p6,by rw [p7,hcnt,List.length_cons];omega,fun y hyy=>?_,fun v hv'=>p9 v (by rw [hget];split<;>first|rfl|exact hv')⟩
   rcases List.mem_cons.1 hyy with rfl|hyy
   ·exact ⟨hy,p9 _ (by rw [hget,if_pos (.inl rfl)]),p9 _ (by rw [hget,if_pos (.inr rfl)])⟩
   ·exact p8 y hyy
  ·exact ⟨[],arc u,b,sn, .nil (by omega),hy,by omega,h,hb,rfl,by simp,(fun y hyy=>by cases hyy),fun v hv'=>hv'⟩
theorem Pth.back {u e:Nat} {ys:List Nat} (h:Pth arc glue u ys e):u<W-> ∃ws,ws.length=ys.length/\(∀w∈ws,∃y∈ys,w=(glue y).toNat)/\((glue u<0->Pth arc glue e ws u)/\(0<=glue u-> ∀zs x,Pth arc glue (glue u).toNat zs x->Pth arc glue e (ws++u::zs) x)):=by
 induction h with
 | @nil u hn=>
   intro hu
   have ha:=E.nod.aa u hu
   refine ⟨[],rfl,(fun w hw=>by cases hw),fun hgu=>?_,fun hgu zs x hz=>?_⟩
   ·have:=Pth.nil (arc:=arc) (glue:=glue) (u:=arc u) (by rw [ha];exact hgu)
    rw [ha] at this;exact this
   ·have:=Pth.cons (arc:=arc) (glue:=glue) (u:=arc u) (ys:=zs) (e:=x) (by rw [ha];exact hgu) (by rw [ha];exact hz)
    rw [ha] at this;exact this
 | @cons u e ys hg k ih=>
   intro hu
   have hy:=E.nod.ar u hu
   obtain ⟨zW,ze,zg,zy⟩:=E.gW hy hg
   have ha:=E.nod.aa u hu
   obtain ⟨ws,h1,h2,h3,h4⟩:=ih zW
   have hgz:0<=glue (glue (arc u)).toNat:=by rw [zg];omega
   have hgz2:(glue (glue (arc u)).toNat).toNat=arc u:=by rw [zg];simp
   refine ⟨ws++[(glue (arc u)).toNat],by simp [h1],fun w hw=>?_,fun hgu=>?_,fun hgu zs x hz=>?_⟩
   ·rcases List.mem_append.1 hw with hw|hw
    ·obtain ⟨y,q1,q2⟩:=h2 w hw
     exact ⟨y,List.mem_cons_of_mem _ q1,q2⟩
    ·simp only [List.mem_singleton] at hw
     exact ⟨arc u,List.mem_cons_self ..,hw⟩
   ·refine h4 hgz [] u ?_
    rw [hgz2]
    have:=Pth.nil (arc:=arc) (glue:=glue) (u:=arc u) (by rw [ha];exact hgu)
    rw [ha] at this;exact this
   ·rw [List.append_assoc]
    refine h4 hgz (u::zs) x ?_
    rw [hgz2]
    have:=Pth.cons (arc:=arc) (glue:=glue) (u:=arc u) (ys:=zs) (e:=x) (by rw [ha];exact hgu) (by rw [ha];exact hz)
    rw [ha] at this;exact this
theorem ysk: ∀k,k<=W-> ∃b dn,Pst n W mt b0 arc glue hv b (endN W arc glue k) 0 (fun _=>False) dn/\ ∀x,x<k->glue x<0->dn x
 |0,_=>⟨b0,fun _=>False,⟨E.inv,fun _ _ _=>rfl,by simp [endN],fun x hx h=>by simp [endN,List.getD_eq_getElem?_getD,List.getElem?_replicate] at h;split at h<;>simp_all,fun x hx _ _ _=>E.ba x hx,fun u h=>h.elim,by simp [endN,List.count_replicate]⟩,fun x h=>by omega⟩
 |k+1,hk=>by
  obtain ⟨b,dn,h,hd⟩:=ysk k (by omega)
  by_cases hg:0<=glue k
  ·have:endN W arc glue (k+1)=endN W arc glue k:=by simp only [endN];rw [if_pos hg]
   rw [this]
   exact ⟨b,dn,h,fun x hx hx0=>by
    by_cases e:x=k
    ·subst e;omega
    ·exact hd x (by omega) hx0⟩
  ·have e1:endN W arc glue (k+1)=(pthN arc glue (W+1) (endN W arc glue k) (arc k)).1:=by simp only [endN];rw [if_neg hg]
   rw [e1]
   by_cases hdk:dn k
   ·obtain ⟨_,_,ys,e,g3,g4,_,_,g7⟩:=h.dne k hdk
    rw [yd9 g3 (W+1) _ (by omega),ynt ys _ g7]
    exact ⟨b,dn,h,fun x hx hx0=>by
     by_cases e:x=k
     ·subst e;exact hdk
     ·exact hd x (by omega) hx0⟩
   ·have hks:(endN W arc glue k).getD k false=false:=by
     cases hq:(endN W arc glue k).getD k false with
     |false=>rfl
     |true=>have:=(h.seen k (by omega) hq).1;omega
    have hbk:=h.org k (by omega) hks (fun h=>h) hdk
    have hbk2:b (hv (arc k))=hv k:=by rw [←hbk,h.inv.jj _ (E.rng k (by omega))]
    have hst:Pst n W mt b0 arc glue hv b (endN W arc glue k) 0 (fun v=>v=k\/v=arc k) dn:=⟨h.inv,h.off,h.sl,h.seen,fun x hx hs _ hd'=>h.org x hx hs (fun h=>h) hd',h.dne,h.cnt⟩
    obtain ⟨ys,e,b',sn',p1,p2,p3,p4,p5,p6,p7,p8,p9⟩:=Pst.path E (by omega) (by omega) hdk (W+1) b _ k (by omega) (by omega) hst hbk2
    have hle:=p4.le
    have hyl:ys.length<=W:=by omega
    rw [yd9 p1 (W+1) _ (by omega),←p6]
    obtain ⟨ws,w1,w2,w3,_⟩:=Pth.back E p1 (by omega)
    have hbe:b' (hv k)=hv e:=by rw [←p5,p4.inv.jj _ (E.rng e p2)]
    refine ⟨b',fun v=>dn v\/v=k\/v=e,⟨p4.inv,p4.off,p4.sl,p4.seen,fun x hx hs _ hd'=>p4.org x hx hs (fun g=>hd' (.inr g)) (fun g=>hd' (.inl g)),fun u hu=>?_,p4.cnt⟩,fun x hx hx0=>?_⟩
    ·rcases hu with hu|rfl|rfl
     ·obtain ⟨q1,q2,ys2,e2,q3,q4,q5,q6,q7⟩:=p4.dne u hu
      exact ⟨q1,q2,ys2,e2,q3,q4, .inl q5,q6,q7⟩
     ·exact ⟨by omega,by omega,ys,e,p1,hyl, .inr (.inr rfl),hbe,fun y hy=>(p8 y hy).2⟩
     ·refine ⟨p2,p3,ws,k,w3 (by omega),by omega, .inr (.inl rfl),p5,fun w hw=>?_⟩
      obtain ⟨y,q1,q2⟩:=w2 w hw
      obtain ⟨r1,r2,r3⟩:=p8 y q1
      have hgy:=(p4.seen y r1 r2).1
      obtain ⟨_,_,zg,_⟩:=E.gW r1 hgy
      rw [q2]
      refine ⟨r3,?_⟩
      rw [zg];simpa using r2
    ·by_cases e':x=k
     ·exact .inr (.inl e')
     ·exact .inl (hd x (by omega) hx0)
end
end Go.Proofs.YtmdjdekgakidhaaDoor
