/- Layer 17: follow at a crossing of a sweep: the next pairing, the circles that are closed. -/
import Derived.Test.YtphjphpmfflfpaaGreatDoorTd2
namespace Go.Proofs.YtphjphpmfflfpaaGreatDoor
open Go Go.RowKit
set_option maxRecDepth 100000
set_option maxHeartbeats 8000000
set_option linter.unusedVariables false
set_option linter.unusedSimpArgs false
theorem DK (aS:Nat) (T:List Nat) (b:Bool):fF aS T (jL b)=fk aS T b:=by
 funext x;unfold fF j6 fk
 split
 ·simp
 ·have h: ∀i,0<=(jL b).getD i 0:=fun i=>by
   cases b<;>(match i with
    |0=>decide
    |1=>decide
    |2=>decide
    |3=>decide
    |i+4=>simp [jL])
  have:=h (x-aS)
  omega
section
variable {m:List Int} {n:Nat} {P:List Nat} {ends:List Int} {c:Nat} {T:List Nat} (hp:bd m n) (he:qT m n P ends) (hT:nA T ends.length) (hc:c<n) (aV:c∉P) (hw:ends.length<=90)
include hp he hT hc aV hw
theorem JC (b:Bool):Qm ends.length (aU m ends c) (cC m ends c) (aG m ends c).length T (jL b):=by
 have E:=DV hp he hT hc aV fun _=>b;obtain ⟨f1,f2⟩:=WO hp he hT hc aV fun _=>b;refine ⟨Ay _ _ _,Ay _ _ _,hT.len,hT.lt (by omega),by cases b<;>rfl,fun i=>?_,hw,?_,fun x hx=>?_,fun x hx=>⟨fun h=>?_,fun h=>?_⟩,fun x hx=>?_,fun k hk hg=>?_,fun k hk hg hs=>?_⟩
 ·cases b<;>(match i with
   |0=>decide
   |1=>decide
   |2=>decide
   |3=>decide
   |i+4=>simp [jL])
 ·have:=Ns hp he hc aV;omega
 ·rcases Int.lt_or_le ((aU m ends c).getD x 0) 0 with h|h
  ·have h1:=(wA hp he hc aV hx).1 h;have h2:=DX hp he hc aV hx;unfold kh at h2;rw [h1] at h2;rw [h2];simp;omega
  ·obtain ⟨y,hy,e,_⟩:=Af hp he hc aV hx h;rw [e];omega
 ·have h1:eG (bu ends c) m x≠none:=fun e=>by have:=(wA hp he hc aV hx).2 e;omega
  rw [Gn hp he hc aV hx,if_pos (by cases hq:eG (bu ends c) m x with
   |none=>exact absurd hq h1
   |some _=>rfl)]
 ·have h1:=(wA hp he hc aV hx).1 h;rw [tO hp he hc aV hx h1]
  have:(aO (bu ends c) m x).length<(aG m ends c).length:=(qw hx h1).1
  omega
 ·have h1:fk ends.length T b x<ends.length+4:=E.nod.ar x hx;have h2:(j6 ends.length T (jL b) x).toNat=fk ends.length T b x:=congrFun (DK ends.length T b) x;have h3:0<=j6 ends.length T (jL b) x:=by
   unfold j6
   split
   ·omega
   ·have: ∀i,0<=(jL b).getD i 0:=fun i=>by
     cases b<;>(match i with
      |0=>decide
      |1=>decide
      |2=>decide
      |3=>decide
      |i+4=>simp [jL])
    have:=this (x-ends.length)
    omega
  omega
 ·rw [DK];exact f1 k hk hg
 ·rw [DK] at hs⊢;exact f2 k hk hg hs
omit hw in
theorem Ul (b:Bool):nU (txN (fk ends.length T b) (fun x=>(aU m ends c).getD x 0) (fun x=>(cC m ends c).getD x 0) (ends.length+4) (aG m ends c).length (ends.length+4))=pS (cO m ends c T b):=by
 unfold pS cO;rw [List.map_map];congr 1
 conv=>lhs;rw [←List.map_id (txN _ _ _ _ _ _)]
 refine List.map_congr_left fun t ht=>?_;obtain ⟨j,hj,rfl⟩:=List.mem_iff_getElem.1 ht
 have:=A7 hp he hT hc aV b j (by rw [wC] at hj;exact hj)
 rw [List.getD_eq_getElem?_getD,List.getElem?_eq_getElem hj,Option.getD_some] at this;simp only [Function.comp,id];omega
theorem PG (b:Bool):Fn Tryz.prog 176 [.agg [I ends.length,roI (aU m ends c),roI (cC m ends c),roI (aG m ends c)], .str (pS T), .agg ((jL b).map (AV.int .i64))]
  (.tup [.str (pS (cO m ends c T b)),I (b7 m ends c T b)]):=by
 have h:=WW ends.length (aU m ends c) (cC m ends c) (aG m ends c) T (jL b) (JC hp he hT hc aV hw b);rw [DK] at h;have e:=Ul hp he hT hc aV b;unfold aE at h;rw [e] at h;exact h
end
end Go.Proofs.YtphjphpmfflfpaaGreatDoor
