/- Layer 17: follow at a crossing of a sweep: the next pairing, the circles that are closed. -/
import Derived.Test.YtmdjdekgakidhaaDoorTd2
namespace Go.Proofs.YtmdjdekgakidhaaDoor
open Go Go.RowKit
set_option maxRecDepth 100000
set_option maxHeartbeats 8000000
set_option linter.unusedVariables false
set_option linter.unusedSimpArgs false
theorem ymc (cnt:Nat) (T:List Nat) (b:Bool):arcF cnt T (jL b)=arN cnt T b:=by
 funext x
 unfold arcF arcV arN
 split
 ·simp
 ·have h: ∀i,0<=(jL b).getD i 0:=fun i=>by
   cases b<;>(match i with
    |0=>decide
    |1=>decide
    |2=>decide
    |3=>decide
    |i+4=>simp [jL])
  have:=h (x-cnt)
  omega
section
variable {m:List Int} {n:Nat} {P:List Nat} {ends:List Int} {c:Nat} {T:List Nat} (hp:PmOk m n) (he:yda m n P ends) (hT:ybp T ends.length) (hc:c<n) (hcP:c∉P) (hw:ends.length<=90)
include hp he hT hc hcP hw
theorem y5g (b:Bool):y0j ends.length (gluL m ends c) (idxL m ends c) (endL m ends c).length T (jL b):=by
 have E:=yjl hp he hT hc hcP fun _=>b
 obtain ⟨f1,f2⟩:=ywk hp he hT hc hcP fun _=>b
 refine ⟨yf2 _ _ _,yf2 _ _ _,hT.len,hT.lt (by omega),by cases b<;>rfl,fun i=>?_,hw,?_,fun x hx=>?_,fun x hx=>⟨fun h=>?_,fun h=>?_⟩,fun x hx=>?_,fun k hk hg=>?_,fun k hk hg hs=>?_⟩
 ·cases b<;>(match i with
   |0=>decide
   |1=>decide
   |2=>decide
   |3=>decide
   |i+4=>simp [jL])
 ·have:=yso hp he hc hcP;omega
 ·rcases Int.lt_or_le ((gluL m ends c).getD x 0) 0 with h|h
  ·have h1:=(yee hp he hc hcP hx).1 h
   have h2:=yjj hp he hc hcP hx
   unfold glS at h2
   rw [h1] at h2
   rw [h2];simp;omega
  ·obtain ⟨y,hy,e,_⟩:=yg2 hp he hc hcP hx h
   rw [e];omega
 ·have h1:glO (hvL ends c) m x≠none:=fun e=>by have:=(yee hp he hc hcP hx).2 e;omega
  rw [yqj hp he hc hcP hx,if_pos (by cases hq:glO (hvL ends c) m x with
   |none=>exact absurd hq h1
   |some _=>rfl)]
 ·have h1:=(yee hp he hc hcP hx).1 h
  rw [ycl hp he hc hcP hx h1]
  have:(endS (hvL ends c) m x).length<(endL m ends c).length:=(ybt hx h1).1
  omega
 ·have h1:arN ends.length T b x<ends.length+4:=E.nod.ar x hx
  have h2:(arcV ends.length T (jL b) x).toNat=arN ends.length T b x:=congrFun (ymc ends.length T b) x
  have h3:0<=arcV ends.length T (jL b) x:=by
   unfold arcV
   split
   ·omega
   ·have: ∀i,0<=(jL b).getD i 0:=fun i=>by
     cases b<;>(match i with
      |0=>decide
      |1=>decide
      |2=>decide
      |3=>decide
      |i+4=>simp [jL])
    have:=this (x-ends.length)
    omega
  omega
 ·rw [ymc];exact f1 k hk hg
 ·rw [ymc] at hs⊢;exact f2 k hk hg hs
omit hw in
theorem y3j (b:Bool):strB (txN (arN ends.length T b) (fun x=>(gluL m ends c).getD x 0) (fun x=>(idxL m ends c).getD x 0) (ends.length+4) (endL m ends c).length (ends.length+4))=pS (nxT m ends c T b):=by
 unfold pS nxT
 rw [List.map_map]
 congr 1
 conv=>lhs;rw [←List.map_id (txN _ _ _ _ _ _)]
 refine List.map_congr_left fun t ht=>?_
 obtain ⟨j,hj,rfl⟩:=List.mem_iff_getElem.1 ht
 have:=y6q hp he hT hc hcP b j (by rw [yea] at hj;exact hj)
 rw [List.getD_eq_getElem?_getD,List.getElem?_eq_getElem hj,Option.getD_some] at this
 simp only [Function.comp,id]
 omega
theorem ymd (b:Bool):Fn Tryd.prog 41 [.agg [I ends.length,roI (gluL m ends c),roI (idxL m ends c),roI (endL m ends c)], .str (pS T), .agg ((jL b).map (AV.int .i64))]
  (.tup [.str (pS (nxT m ends c T b)),I (ccN m ends c T b)]):=by
 have h:=yvz ends.length (gluL m ends c) (idxL m ends c) (endL m ends c) T (jL b) (y5g hp he hT hc hcP hw b)
 rw [ymc] at h
 have e:=y3j hp he hT hc hcP b
 unfold gluF at h
 rw [e] at h
 exact h
end
end Go.Proofs.YtmdjdekgakidhaaDoor
