/- Layer 17: the sum of two polynomials, the first of which may be written. -/
import Derived.Test.YtphjphpmfflfpaaGreatDoorSw1
import Derived.Test.YtphjphpmfflfpaaGreatDoorZf
namespace Go.Proofs.YtphjphpmfflfpaaGreatDoor
open Go Go.RowKit
set_option maxRecDepth 100000
set_option maxHeartbeats 8000000
set_option linter.unusedVariables false
set_option linter.unusedSimpArgs false
def yh:List (List Nat):=[[58,59,60,61,62,64,65],[57,60,64,65],[57,60,64,65],[57,58,59,64,65],[57,64,65],[57,64,65],[64,65],[57,58,59,60,61,62,63],[57,58,59,60,61,62,63],[]]
def QX:Tr:= .node [(0, .node [(3, .node [(1, .node [(2, .node [(4, .node [(5, .node [(6, .node [(7, .node [(8, .node [(9, .done)])])])]),(7, .node [(5, .node [(6, .node [(8, .node [(9, .done)])])]),(8, .node [(5, .node [(6, .node [(9, .done)])])])])]),(7, .node [(4, .node [(5, .node [(6, .node [(8, .node [(9, .done)])])]),(8, .node [(5, .node [(6, .node [(9, .done)])])])]),(8, .node [(4, .node [(5, .node [(6, .node [(9, .done)])])])])])]),(7, .node [(2, .node [(4, .node [(5, .node [(6, .node [(8, .node [(9, .done)])])]),(8, .node [(5, .node [(6, .node [(9, .done)])])])]),(8, .node [(4, .node [(5, .node [(6, .node [(9, .done)])])])])]),(8, .node [(2, .node [(4, .node [(5, .node [(6, .node [(9, .done)])])])])])])]),(7, .node [(1, .node [(2, .node [(4, .node [(5, .node [(6, .node [(8, .node [(9, .done)])])]),(8, .node [(5, .node [(6, .node [(9, .done)])])])]),(8, .node [(4, .node [(5, .node [(6, .node [(9, .done)])])])])]),(8, .node [(2, .node [(4, .node [(5, .node [(6, .node [(9, .done)])])])])])]),(8, .node [(1, .node [(2, .node [(4, .node [(5, .node [(6, .node [(9, .done)])])])])])])])])])]
theorem ytw: ∀fr:Fr,unl (lft fr)=fr
 |[]=>rfl
 |(s,x)::r=>by simp [lft,unl,ytw r]
attribute [go_sem] ytw
def gp (r:List Int) (b:Nat) (q:List Int) (k:Nat):List Int:=(List.range r.length).map fun i=>r.getD i 0+if b<=i/\i-b<k then q.getD (i-b) 0 else 0
theorem tJ (r:List Int) (b:Nat) (q:List Int) (k:Nat):(gp r b q k).length=r.length:=by simp [gp]
theorem Ql (r:List Int) (b:Nat) (q:List Int):gp r b q 0=r:=by
 apply List.ext_getElem?;intro i;by_cases h:i<r.length<;>simp [gp,h]
theorem zV (r:List Int) (b:Nat) (q:List Int) (k i:Nat) (h:i<r.length):(gp r b q k).getD i 0=r.getD i 0+if b<=i/\i-b<k then q.getD (i-b) 0 else 0:=by
 simp [gp,List.getD_eq_getElem?_getD,h]
theorem Oa (r:List Int) (b:Nat) (q:List Int) (k:Nat) (h:b+k<r.length):(gp r b q k).set (b+k) ((gp r b q k).getD (b+k) 0+q.getD k 0)=gp r b q (k+1):=by
 rw [zV _ _ _ _ _ h,if_neg (by omega)];apply List.ext_getElem?;intro i;rw [List.getElem?_set,tJ];by_cases e:b+k=i
 ·subst e;rw [if_pos rfl,if_pos h];simp only [gp,List.getElem?_map,List.getElem?_range h,Option.map_some];rw [if_pos (by omega),show b+k-b=k by omega];simp
 ·rw [if_neg e];by_cases hi:i<r.length
  ·simp only [gp,List.getElem?_map,List.getElem?_range hi,Option.map_some]
   have:(b<=i/\i-b<k)=(b<=i/\i-b<k+1):=propext ⟨fun h=>by omega,fun h=>by omega⟩
   simp only [this]
  ·simp [gp,hi]
def cW (a:Nat) (p:List Int) (N:Nat):List Int:=(List.range N).map fun i=>if a<=i/\i-a<p.length then p.getD (i-a) 0 else 0
theorem wJ (a:Nat) (p:List Int) (N:Nat):(cW a p N).length=N:=by simp [cW]
theorem WT (a:Nat) (p:List Int) (N:Nat):((List.range (List.replicate N (0:Int)).length).map fun i=>if a<=i/\i-a<p.length then p.getD (i-a) 0 else (List.replicate N (0:Int)).getD i 0)=cW a p N:=by
 unfold cW;rw [List.length_replicate];refine List.map_congr_left fun i hi=>?_
 have:=List.mem_range.1 hi
 simp [List.getD_eq_getElem?_getD,this]
theorem WS {α:Type} {l:List α} {j:Nat} {x:α} (h:l[j]?=some x):l.set j x=l:=by
 apply List.ext_getElem?;intro i;rw [List.getElem?_set]
 split
 ·rename_i e;subst e;rw [if_pos (List.getElem?_eq_some_iff.1 h).1,h]
 ·rfl
abbrev E3 (g:PE) (lo:Int) (cs:List Int) (r:Nat):Hp:=[(1000006, .cells 151 (.lst [I g.lo, .sl 1 r 0 g.cs.length])),(1000005, .cells 151 (.lst [I lo,roI cs]))]
theorem T6 (sd:List PE) (sn:List Nat) (G:List PE) (j b r:Nat) (g:PE) (cs:List Int) (hG:G.length<=900000) (hj:G[j]?=some g) (hr:r=j+10) (hb:b+cs.length<=g.cs.length) (hl:g.cs.length<=1000000) (kx: -1000000<=g.lo/\g.lo<=1000000)
  (gm: ∀i,-1152921504606846976<=g.cs.getD i 0/\g.cs.getD i 0<=1152921504606846976) (pX: ∀i,-1152921504606846976<=cs.getD i 0/\cs.getD i 0<=1152921504606846976) {fr:Fr} {K:AV->Fr->Hp->Prop}
  (hK:K (.agg [I g.lo, .sl 1 r 0 g.cs.length]) fr ([(1000009, .cells 151 (.lst [I g.lo, .sl 1 r 0 g.cs.length])),(1000008, .cells 151 (.lst [I (g.lo+2*(b:Int)),roI cs])),(1000007, .cells 151 (.lst [I g.lo, .sl 1 r 0 g.cs.length]))]++E3 g (g.lo+2*(b:Int)) cs r++pH sd sn G (G.set j ⟨g.key,g.lo,gp g.cs b cs cs.length⟩))):
  gu Tryz.prog 145 [.agg [I g.lo, .sl 1 r 0 g.cs.length],tpA (g.lo+2*(b:Int)) cs] fr (E3 g (g.lo+2*(b:Int)) cs r++aR sd sn G) K:=by
 have bY:j<G.length:=(List.getElem?_eq_some_iff.1 hj).1;have js:max 1000001 (hnew (dC 0 G))=1000001:=by have:=qW G 0;omega
 have b0:decide (g.lo+2*(b:Int)<g.lo)=false:=by rw [decide_eq_false_iff_not];omega
 have b1:decide (g.lo+2*(g.cs.length:Int)<g.lo+2*(b:Int)+2*(cs.length:Int))=false:=by rw [decide_eq_false_iff_not];omega
 refine gu.intro [.cell 4 151] Tryz.func145 rfl rfl (by decide) (by simp [Tryz.ntmps145]) ?_;rw [Tryz.ntmps145]
 repeat' (first|omega|(first|apply aj|(refine an.intro (id:=5) yh [[],[0],[0],[0,1,2],[0],[0],[],[0,1,2,3,4,5,6],[0,1,2,3,4,5,6],[]] (by decide+kernel) mixed ?_)|skip);simp only [go_sem,sevalprocAttr,js,b0,b1,↓reduceIte,reduceCtorEq,yh]|apply ag<;>(intro h_;(try simp only [h_]);revert h_)|apply ah|apply ai|apply ae|apply And.intro|with_reducible intro h_|trivial|simp only [go_sem,ak];omega)
 have n4:(1000004=r)=False:=eq_false (by omega);have n3:(1000003=r)=False:=eq_false (by omega);have n2:(1000002=r)=False:=eq_false (by omega);have n1:(2=r)=False:=eq_false (by omega);have n0:(1=r)=False:=eq_false (by omega);have n5:(1000000=r)=False:=eq_false (by omega);have m5:(1000005=r)=False:=eq_false (by omega);have m6:(1000006=r)=False:=eq_false (by omega)
 have m7:(1000007=r)=False:=eq_false (by omega);have m8:(1000008=r)=False:=eq_false (by omega);have m9:(1000009=r)=False:=eq_false (by omega);have mW: ∀k c,hset (dC 0 (G.set j ⟨g.key,g.lo,gp g.cs b cs k⟩)) r (.cells 3 (.ints c))=dC 0 (G.set j ⟨g.key,g.lo,c⟩):=fun k c=>by
  have:=Oc g.key g.lo c (G.set j ⟨g.key,g.lo,gp g.cs b cs k⟩) 0 j (by simpa using bY)
  rw [Nat.zero_add,←hr,List.set_set] at this;exact this
 have Cx: ∀k,hget (dC 0 (G.set j ⟨g.key,g.lo,gp g.cs b cs k⟩)) r=some (.cells 3 (.ints (gp g.cs b cs k))):=fun k=>by
  rw [hr];exact cK (G:=G.set j ⟨g.key,g.lo,gp g.cs b cs k⟩) (g:=⟨g.key,g.lo,gp g.cs b cs k⟩) (by simp [bY])
 refine bN.intro (fun n fr' H=> ∃i:Nat,i<=cs.length/\n=cs.length-i/\fr'=[(73,I i),(72,I cs.length),(71,roI cs),(4, .ptr 1000009 0),(3, .ptr 1000008 0),(2, .ptr 1000007 0)]++lft fr/\
  H=(1000009, .cells 151 (.lst [I 0, .nils]))::(1000008, .cells 151 (.lst [I (g.lo+2*(b:Int)),roI cs]))::(1000007, .cells 151 (.lst [I g.lo, .sl 1 r 0 g.cs.length]))::(1000006, .cells 151 (.lst [I g.lo, .sl 1 r 0 g.cs.length]))::(1000005, .cells 151 (.lst [I (g.lo+2*(b:Int)),roI cs]))::pH sd sn G (G.set j ⟨g.key,g.lo,gp g.cs b cs i⟩)) ?_ ?_
 ·refine ⟨_,_,_,?_,0,by omega,rfl,rfl,rfl⟩;rw [Ql,show (G.set j ⟨g.key,g.lo,g.cs⟩)=G from WS hj];refine Wk.uR ?_ (fun t ht=>?_)
  ·simp only [go_sem,sevalprocAttr,List.forall_mem_cons]
  ·simp only [fget]
   repeat rw [if_neg (by omega)]
 rintro n fr' H ⟨i,hi,rfl,rfl,rfl⟩;by_cases fS:i<cs.length
 ·have bi:decide ((i:Int)<cs.length)=true:=by simp;omega
  have e1:(g.lo+2*(b:Int)-g.lo).tdiv 2=b:=by rw [show g.lo+2*(b:Int)-g.lo=(b:Int)*2 by omega,Int.mul_tdiv_cancel _ (by decide)]
  have e2:((b:Int)+i).toNat=b+i:=by omega
  have st:=Oa g.cs b cs i (by omega);have al:=tJ g.cs b cs i;have a1:=zV g.cs b cs i (b+i) (by omega);rw [if_neg (by omega),Int.add_zero] at a1;have c1:=gm (b+i);have c2:=pX i;have gi:=Cx i;have hs:=mW i;rw [←a1] at c1
  repeat' (first|omega|(try apply aj);simp only [go_sem,sevalprocAttr,bi,e1,e2,n0,n1,n2,n3,n4,n5,m5,m6,m7,m8,m9,gi,hs,al,st]|apply ag<;>(intro h_;(try simp only [h_]);revert h_)|apply ah|apply ai|apply ae|apply And.intro|with_reducible intro h_|trivial|simp only [go_sem,ak];omega)
  refine ⟨_,_,_,?_,?_,i+1,by omega,rfl,rfl,rfl⟩
  ·omega
  ·refine Wk.uR (A:=[(73,I ((i+1:Nat):Int)),(72,I cs.length),(71,roI cs),(4, .ptr 1000009 0),(3, .ptr 1000008 0),(2, .ptr 1000007 0)]) ?_ (fun t ht=>?_)
   ·simp only [go_sem,sevalprocAttr,List.forall_mem_cons]
   ·simp only [fget]
    repeat rw [if_neg (by omega)]
 ·obtain rfl:i=cs.length:=by omega
  have bi:decide ((cs.length:Int)<cs.length)=false:=by simp
  repeat' (first|omega|(first|apply aj|(refine an.intro (id:=5) yh [[],[0],[0],[0,1,2],[0],[0],[],[0,1,2,3,4,5,6],[0,1,2,3,4,5,6],[]] (by decide+kernel) mixed ?_)|skip);simp only [go_sem,sevalprocAttr,bi,↓reduceIte,reduceCtorEq,yh]|apply ag<;>(intro h_;(try simp only [h_]);revert h_)|apply ah|apply ai|apply ae|apply And.intro|with_reducible intro h_|trivial|simp only [go_sem,ak];omega)
  all_goals exact hK
theorem Ug (sd:List PE) (sn:List Nat) (G:List PE) (j a b N r:Nat) (c6:Int) (g:PE) (lo:Int) (cs:List Int) (hG:G.length<=900000) (hj:G[j]?=some g) (hr:r=j+10) (Lm:g.lo=c6+2*(a:Int)) (Cn:lo=c6+2*(b:Int)) (fh:a=0\/b=0)
  (Su:a+g.cs.length<=N) (So:b+cs.length<=N) (hN:N=a+g.cs.length\/N=b+cs.length) (hw:0<a\/g.cs.length+a<b+cs.length) (SA:N<=1000000) (kx: -1000000<=c6/\c6<=1000000)
  (gm: ∀i,-1152921504606846976<=g.cs.getD i 0/\g.cs.getD i 0<=1152921504606846976) (pX: ∀i,-1152921504606846976<=cs.getD i 0/\cs.getD i 0<=1152921504606846976) {fr:Fr} {K:AV->Fr->Hp->Prop}
  (hK:K (.agg [I c6, .sl 1 1000010 0 N]) fr ([(1000010, .cells 3 (.ints (gp (cW a g.cs N) b cs cs.length))),(1000009, .cells 151 (.lst [I c6, .sl 1 1000010 0 N])),(1000008, .cells 151 (.lst [I lo,roI cs])),(1000007, .cells 151 (.lst [I c6, .sl 1 1000010 0 N]))]++E3 g lo cs r++pH sd sn G G)):
  gu Tryz.prog 145 [.agg [I g.lo, .sl 1 r 0 g.cs.length],tpA lo cs] fr (E3 g lo cs r++aR sd sn G) K:=by
 have bY:j<G.length:=(List.getElem?_eq_some_iff.1 hj).1;have js:max 1000001 (hnew (dC 0 G))=1000001:=by have:=qW G 0;omega
 have n4:(1000004=r)=False:=eq_false (by omega);have n3:(1000003=r)=False:=eq_false (by omega);have n2:(1000002=r)=False:=eq_false (by omega);have n1:(2=r)=False:=eq_false (by omega);have n0:(1=r)=False:=eq_false (by omega);have n5:(1000000=r)=False:=eq_false (by omega);have m5:(1000005=r)=False:=eq_false (by omega);have m6:(1000006=r)=False:=eq_false (by omega)
 have m7:(1000007=r)=False:=eq_false (by omega);have m8:(1000008=r)=False:=eq_false (by omega);have m9:(1000009=r)=False:=eq_false (by omega);have mA:(1000010=r)=False:=eq_false (by omega);have gr:hget (dC 0 G) r=some (.cells 3 (.ints g.cs)):=by rw [hr];exact cK hj
 have b0:decide (lo<g.lo)=decide (0<a):=by
  rw [decide_eq_decide];omega
 have b1:decide (g.lo+2*(g.cs.length:Int)<lo+2*(cs.length:Int))=decide (g.cs.length+a<b+cs.length):=by
  rw [decide_eq_decide];omega
 have e1:(if lo<g.lo then lo else g.lo)=c6:=by split<;>omega
 have e2:(if g.lo+2*(g.cs.length:Int)<lo+2*(cs.length:Int) then lo+2*(cs.length:Int) else g.lo+2*(g.cs.length:Int))=c6+2*(N:Int):=by split<;>omega
 have e3:(c6+2*(N:Int)-c6).tdiv 2=N:=by rw [show c6+2*(N:Int)-c6=(N:Int)*2 by omega,Int.mul_tdiv_cancel _ (by decide)]
 have e4:(g.lo-c6).tdiv 2=a:=by rw [show g.lo-c6=(a:Int)*2 by omega,Int.mul_tdiv_cancel _ (by decide)]
 have e5:(lo-c6).tdiv 2=b:=by rw [show lo-c6=(b:Int)*2 by omega,Int.mul_tdiv_cancel _ (by decide)]
 have pl:=wJ a g.cs N;have R0:=WT a g.cs N;have r0:(List.replicate N (0:Int)).length=N:=List.length_replicate;refine gu.intro [.cell 4 151] Tryz.func145 rfl rfl (by decide) (by simp [Tryz.ntmps145]) ?_;rw [Tryz.ntmps145];by_cases ha0:0<a
 case' pos=>
  have ba:decide (0<a)=true:=by simpa using ha0
  repeat' (first|omega|(try apply aj);simp only [go_sem,sevalprocAttr,js,b0,ba,e1,e2,e3,e4,Int.toNat_natCast]|apply ag<;>(intro h_;(try simp only [h_]);revert h_)|apply ah|apply ai|apply ae|apply And.intro|with_reducible intro h_|trivial|simp only [go_sem,ak];omega)
 case' neg=>
  have ba:decide (0<a)=false:=by simpa using ha0
  have bb:decide (g.cs.length+a<b+cs.length)=true:=by rw [decide_eq_true_eq];omega
  repeat' (first|omega|(try apply aj);simp only [go_sem,sevalprocAttr,js,b0,ba,b1,bb,e1,e2,e3,e4,Int.toNat_natCast]|apply ag<;>(intro h_;(try simp only [h_]);revert h_)|apply ah|apply ai|apply ae|apply And.intro|with_reducible intro h_|trivial|simp only [go_sem,ak];omega)
 all_goals
  refine an.cut ([(5,I c6),(7, .sl 1 1000010 0 N),(4, .ptr 1000009 0),(3, .ptr 1000008 0),(2, .ptr 1000007 0)]++lft fr) ((1000010, .cells 3 (.ints (cW a g.cs N)))::(1000009, .cells 151 (.lst [I 0, .nils]))::(1000008, .cells 151 (.lst [I lo,roI cs]))::(1000007, .cells 151 (.lst [I g.lo, .sl 1 r 0 g.cs.length]))::(1000006, .cells 151 (.lst [I g.lo, .sl 1 r 0 g.cs.length]))::(1000005, .cells 151 (.lst [I lo,roI cs]))::pH sd sn G G) ?_ ?_
  ·repeat' (first|omega|(first|apply aj|(refine an.ay (id:=5) (QX) (by decide+kernel) mixed ?_)|(refine an.intro (id:=5) yh [[],[0],[0],[0,1,2],[0],[0],[],[0,1,2,3,4,5,6],[0,1,2,3,4,5,6],[]] (by decide+kernel) mixed ?_)|skip);simp only [go_sem,sevalprocAttr,e4,Int.toNat_natCast,n0,n1,n2,n3,n4,n5,m5,m6,m7,m8,m9,mA,gr,↓reduceIte,reduceCtorEq,yh,QX]|apply ag<;>(intro h_;(try simp only [h_]);revert h_)|apply ah|apply ai|apply ae|apply And.intro|with_reducible intro h_|trivial|simp only [go_sem,ak];omega)
   all_goals
    refine dM.copy (t:=22) (e:=3) (id:=1000010) (rid:=r) (n:=N-a) (m:=g.cs.length) (a:=a) (l:=List.replicate N 0) (ls:=g.cs) rfl rfl (by simp only [go_sem,sevalprocAttr]) (by simp only [go_sem,sevalprocAttr]) rfl rfl rfl ?_ (by rw [r0];omega) rfl (by omega) ?_
    ·simp only [go_sem,sevalprocAttr,n0,n1,n2,n3,n4,n5,m5,m6,m7,m8,m9,mA,gr]
    rw [R0];simp only [go_sem,sevalprocAttr];refine Wk.uR (A:=[(5,I c6),(7, .sl 1 1000010 0 N),(4, .ptr 1000009 0),(3, .ptr 1000008 0),(2, .ptr 1000007 0)]) ?_ (fun t ht=>?_)
    ·simp only [go_sem,sevalprocAttr,List.forall_mem_cons]
    ·simp only [fget]
     repeat rw [if_neg (by omega)]
  repeat' (first|omega|(try apply aj);simp only [go_sem,sevalprocAttr,e5]|apply ag<;>(intro h_;(try simp only [h_]);revert h_)|apply ah|apply ai|apply ae|apply And.intro|with_reducible intro h_|trivial|simp only [go_sem,ak];omega)
  refine bN.intro (fun n fr' H=> ∃i:Nat,i<=cs.length/\n=cs.length-i/\fr'=[(73,I i),(72,I cs.length),(71,roI cs),(4, .ptr 1000009 0),(3, .ptr 1000008 0),(2, .ptr 1000007 0)]++lft fr/\
   H=(1000010, .cells 3 (.ints (gp (cW a g.cs N) b cs i)))::(1000009, .cells 151 (.lst [I 0, .nils]))::(1000008, .cells 151 (.lst [I lo,roI cs]))::(1000007, .cells 151 (.lst [I c6, .sl 1 1000010 0 N]))::(1000006, .cells 151 (.lst [I g.lo, .sl 1 r 0 g.cs.length]))::(1000005, .cells 151 (.lst [I lo,roI cs]))::pH sd sn G G) ?_ ?_
  ·refine ⟨_,_,_,?_,0,by omega,rfl,rfl,rfl⟩;rw [Ql];refine Wk.uR (A:=[(73,I ((0:Nat):Int)),(72,I cs.length),(71,roI cs),(4, .ptr 1000009 0),(3, .ptr 1000008 0),(2, .ptr 1000007 0)]) ?_ (fun t ht=>?_)
   ·simp only [go_sem,sevalprocAttr,List.forall_mem_cons]
   ·simp only [fget]
    repeat rw [if_neg (by omega)]
  rintro n fr' H ⟨i,hi,rfl,rfl,rfl⟩;by_cases fS:i<cs.length
  ·have bi:decide ((i:Int)<cs.length)=true:=by simp;omega
   have e6:((b:Int)+i).toNat=b+i:=by omega
   have st:=Oa (cW a g.cs N) b cs i (by omega);have al:=tJ (cW a g.cs N) b cs i;have a1:=zV (cW a g.cs N) b cs i (b+i) (by omega);rw [if_neg (by omega),Int.add_zero] at a1;have c2:=pX i;have c1: -1152921504606846976<=(cW a g.cs N).getD (b+i) 0/\(cW a g.cs N).getD (b+i) 0<=1152921504606846976:=by
    have:=gm (b+i-a)
    simp only [cW,List.getD_eq_getElem?_getD,List.getElem?_map,List.getElem?_range (show b+i<N by omega),Option.map_some,Option.getD_some] at this⊢
    split<;>omega
   rw [←a1] at c1;rw [pl] at al
   repeat' (first|omega|(try apply aj);simp only [go_sem,sevalprocAttr,bi,e5,e6,n0,n1,n2,n3,n4,n5,m5,m6,m7,m8,m9,mA,al,st]|apply ag<;>(intro h_;(try simp only [h_]);revert h_)|apply ah|apply ai|apply ae|apply And.intro|with_reducible intro h_|trivial|simp only [go_sem,ak];omega)
   refine ⟨_,_,_,?_,?_,i+1,by omega,rfl,rfl,rfl⟩
   ·omega
   ·refine Wk.uR (A:=[(73,I ((i+1:Nat):Int)),(72,I cs.length),(71,roI cs),(4, .ptr 1000009 0),(3, .ptr 1000008 0),(2, .ptr 1000007 0)]) ?_ (fun t ht=>?_)
    ·simp only [go_sem,sevalprocAttr,List.forall_mem_cons]
    ·simp only [fget]
     repeat rw [if_neg (by omega)]
  ·obtain rfl:i=cs.length:=by omega
   have bi:decide ((cs.length:Int)<cs.length)=false:=by simp
   repeat' (first|omega|(try apply aj);simp only [go_sem,sevalprocAttr,bi]|apply ag<;>(intro h_;(try simp only [h_]);revert h_)|apply ah|apply ai|apply ae|apply And.intro|with_reducible intro h_|trivial|simp only [go_sem,ak];omega)
   all_goals exact hK
end Go.Proofs.YtphjphpmfflfpaaGreatDoor
namespace Go.Proofs.YtphjphpmfflfpaaGreatDoor
set_option linter.unusedVariables false
set_option linter.unusedSimpArgs false
section
variable {n W:Nat} {mt b0:Int->Int} {arc:Nat->Nat} {glue:Nat->Int} {hv:Nat->Int} (E:Dh n W mt b0 arc glue hv)
include E
omit E in
theorem iD.le {b:Int->Int} {sn:List Bool} {c:Nat} {ex dn:Nat->Prop} (h:iD n W mt b0 arc glue hv b sn c ex dn):sn.count true<=W:=by
 rw [←h.sl];exact List.count_le_length
theorem iD.path {c x:Nat} {dn:Nat->Prop} (hx:x<W) (Cv:glue x<0) (Fx: ¬dn x): ∀(f:Nat) (b:Int->Int) (sn:List Bool) (u:Nat),W<sn.count true+2*f->u<W->iD n W mt b0 arc glue hv b sn c (fun v=>v=x\/v=arc u) dn->b (hv (arc u))=hv x->
  ∃ys e b' tW,kj arc glue u ys e/\e<W/\glue e<0/\iD n W mt b0 arc glue hv b' tW c (fun v=>v=x\/v=e) dn/\b' (hv e)=hv x/\tW=ys.foldl (b5 glue) sn/\tW.count true=sn.count true+2*ys.length/\(∀y∈ys,y<W/\tW.getD y false=true/\tW.getD (glue y).toNat false=true)/\ ∀v,sn.getD v false=true->tW.getD v false=true
 |0,b,sn,u,hf,hu,h,hb=>by have:=h.le;omega
 |f+1,b,sn,u,hf,hu,h,hb=>by
  have hy:=E.nod.ar u hu;have Ks:sn.getD x false=false:=by
   cases hq:sn.getD x false with
   |false=>rfl
   |true=>have:=(h.seen x hx hq).1;omega
  by_cases hg:0<=glue (arc u)
  ·obtain ⟨zW,ze,zg,zy⟩:=E.gW hy hg;have vA:sn.getD (arc u) false=false:=by
    cases hq:sn.getD (arc u) false with
    |false=>rfl
    |true=>
     have h1:=(h.seen _ hy hq).2.2;rw [hb] at h1
     have:=E.inj _ _ hx zW h1
     rw [this,zg] at Cv;omega
   have Fa:x≠(glue (arc u)).toNat:=fun e=>by rw [e,zg] at Cv;omega
   obtain ⟨s1,s2,s3,s4⟩:=h.step E hx hy hb hg vA Fa Ks Fx;have kv:sn.getD (glue (arc u)).toNat false=false:=by
    cases hz:sn.getD (glue (arc u)).toNat false with
    |false=>rfl
    |true=>
     have:=(h.seen _ zW hz).2.1
     rw [zg] at this;simp only [Int.toNat_natCast] at this;rw [this] at vA;cases vA
   have iT:=Io (glue:=glue) (sn:=sn) (y:=arc u) (by rw [h.sl];exact hy) (by rw [h.sl];exact zW) zy vA kv;have hget:=fun j=>HW (glue:=glue) (sn:=sn) (y:=arc u) (by rw [h.sl];exact hy) (by rw [h.sl];exact zW) j;obtain ⟨ys,e,b',tW,p1,p2,p3,p4,p5,p6,p7,p8,p9⟩:=iD.path hx Cv Fx f _ _ (glue (arc u)).toNat (by omega) zW s1 s4
   refine ⟨arc u::ys,e,b',tW, .cons hg p1,p2,p3,p4,p5,by rw [List.foldl_cons];exact p6,by rw [p7,iT,List.length_cons];omega,fun y BK=>?_,fun v lE=>p9 v (by rw [hget];split<;>first|rfl|exact lE)⟩;rcases List.mem_cons.1 BK with rfl|BK
   ·exact ⟨hy,p9 _ (by rw [hget,if_pos (.inl rfl)]),p9 _ (by rw [hget,if_pos (.inr rfl)])⟩
   ·exact p8 y BK
  ·exact ⟨[],arc u,b,sn, .nil (by omega),hy,by omega,h,hb,rfl,by simp,(fun y BK=>by cases BK),fun v lE=>lE⟩
theorem kj.back {u e:Nat} {ys:List Nat} (h:kj arc glue u ys e):u<W-> ∃ws,ws.length=ys.length/\(∀w∈ws,∃y∈ys,w=(glue y).toNat)/\((glue u<0->kj arc glue e ws u)/\(0<=glue u-> ∀zs x,kj arc glue (glue u).toNat zs x->kj arc glue e (ws++u::zs) x)):=by
 induction h with
 | @nil u hn=>
   intro hu;have ha:=E.nod.aa u hu;refine ⟨[],rfl,(fun w hw=>by cases hw),fun xv=>?_,fun xv zs x hz=>?_⟩
   ·have:=kj.nil (arc:=arc) (glue:=glue) (u:=arc u) (by rw [ha];exact xv)
    rw [ha] at this;exact this
   ·have:=kj.cons (arc:=arc) (glue:=glue) (u:=arc u) (ys:=zs) (e:=x) (by rw [ha];exact xv) (by rw [ha];exact hz)
    rw [ha] at this;exact this
 | @cons u e ys hg k ih=>
   intro hu;have hy:=E.nod.ar u hu;obtain ⟨zW,ze,zg,zy⟩:=E.gW hy hg;have ha:=E.nod.aa u hu;obtain ⟨ws,h1,h2,h3,h4⟩:=ih zW;have rZ:0<=glue (glue (arc u)).toNat:=by rw [zg];omega
   have rY:(glue (glue (arc u)).toNat).toNat=arc u:=by rw [zg];simp
   refine ⟨ws++[(glue (arc u)).toNat],by simp [h1],fun w hw=>?_,fun xv=>?_,fun xv zs x hz=>?_⟩
   ·rcases List.mem_append.1 hw with hw|hw
    ·obtain ⟨y,q1,q2⟩:=h2 w hw;exact ⟨y,List.mem_cons_of_mem _ q1,q2⟩
    ·simp only [List.mem_singleton] at hw;exact ⟨arc u,List.mem_cons_self ..,hw⟩
   ·refine h4 rZ [] u ?_;rw [rY]
    have:=kj.nil (arc:=arc) (glue:=glue) (u:=arc u) (by rw [ha];exact xv)
    rw [ha] at this;exact this
   ·rw [List.append_assoc];refine h4 rZ (u::zs) x ?_;rw [rY]
    have:=kj.cons (arc:=arc) (glue:=glue) (u:=arc u) (ys:=zs) (e:=x) (by rw [ha];exact xv) (by rw [ha];exact hz)
    rw [ha] at this;exact this
theorem MT: ∀k,k<=W-> ∃b dn,iD n W mt b0 arc glue hv b (endN W arc glue k) 0 (fun _=>False) dn/\ ∀x,x<k->glue x<0->dn x
 |0,_=>⟨b0,fun _=>False,⟨E.inv,fun _ _ _=>rfl,by simp [endN],fun x hx h=>by simp [endN,List.getD_eq_getElem?_getD,List.getElem?_replicate] at h;split at h<;>simp_all,fun x hx _ _ _=>E.ba x hx,fun u h=>h.elim,by simp [endN,List.count_replicate]⟩,fun x h=>by omega⟩
 |k+1,hk=>by
  obtain ⟨b,dn,h,hd⟩:=MT k (by omega);by_cases hg:0<=glue k
  ·have:endN W arc glue (k+1)=endN W arc glue k:=by simp only [endN];rw [if_pos hg]
   rw [this];exact ⟨b,dn,h,fun x hx kW=>by
    by_cases e:x=k
    ·subst e;omega
    ·exact hd x (by omega) kW⟩
  ·have e1:endN W arc glue (k+1)=(pthN arc glue (W+1) (endN W arc glue k) (arc k)).1:=by simp only [endN];rw [if_neg hg]
   rw [e1];by_cases jw:dn k
   ·obtain ⟨_,_,ys,e,g3,g4,_,_,g7⟩:=h.dne k jw;rw [yF g3 (W+1) _ (by omega),Po ys _ g7];exact ⟨b,dn,h,fun x hx kW=>by
     by_cases e:x=k
     ·subst e;exact jw
     ·exact hd x (by omega) kW⟩
   ·have Ld:(endN W arc glue k).getD k false=false:=by
     cases hq:(endN W arc glue k).getD k false with
     |false=>rfl
     |true=>have:=(h.seen k (by omega) hq).1;omega
    have nQ:=h.org k (by omega) Ld (fun h=>h) jw;have Ly:b (hv (arc k))=hv k:=by rw [←nQ,h.inv.jj _ (E.bP k (by omega))]
    have bo:iD n W mt b0 arc glue hv b (endN W arc glue k) 0 (fun v=>v=k\/v=arc k) dn:=⟨h.inv,h.off,h.sl,h.seen,fun x hx hs _ qK=>h.org x hx hs (fun h=>h) qK,h.dne,h.aS⟩;obtain ⟨ys,e,b',tW,p1,p2,p3,p4,p5,p6,p7,p8,p9⟩:=iD.path E (by omega) (by omega) jw (W+1) b _ k (by omega) (by omega) bo Ly;have hle:=p4.le;have kU:ys.length<=W:=by omega
    rw [yF p1 (W+1) _ (by omega),←p6];obtain ⟨ws,w1,w2,w3,_⟩:=kj.back E p1 (by omega);have YB:b' (hv k)=hv e:=by rw [←p5,p4.inv.jj _ (E.bP e p2)]
    refine ⟨b',fun v=>dn v\/v=k\/v=e,⟨p4.inv,p4.off,p4.sl,p4.seen,fun x hx hs _ qK=>p4.org x hx hs (fun g=>qK (.inr g)) (fun g=>qK (.inl g)),fun u hu=>?_,p4.aS⟩,fun x hx kW=>?_⟩
    ·rcases hu with hu|rfl|rfl
     ·obtain ⟨q1,q2,TZ,e2,q3,q4,q5,q6,q7⟩:=p4.dne u hu;exact ⟨q1,q2,TZ,e2,q3,q4, .inl q5,q6,q7⟩
     ·exact ⟨by omega,by omega,ys,e,p1,kU, .inr (.inr rfl),YB,fun y hy=>(p8 y hy).2⟩
     ·refine ⟨p2,p3,ws,k,w3 (by omega),by omega, .inr (.inl rfl),p5,fun w hw=>?_⟩;obtain ⟨y,q1,q2⟩:=w2 w hw;obtain ⟨r1,r2,r3⟩:=p8 y q1;have Yl:=(p4.seen y r1 r2).1;obtain ⟨_,_,zg,_⟩:=E.gW r1 Yl;rw [q2];refine ⟨r3,?_⟩;rw [zg];simpa using r2
    ·by_cases e':x=k
     ·exact .inr (.inl e')
     ·exact .inl (hd x (by omega) kW)
end
end Go.Proofs.YtphjphpmfflfpaaGreatDoor
