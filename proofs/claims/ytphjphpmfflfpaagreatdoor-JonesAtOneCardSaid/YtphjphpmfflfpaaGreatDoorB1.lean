/- The value of a bracket at A = 1. -/
import Derived.Test.YtphjphpmfflfpaaGreatDoorZj
import Derived.Test.YtphjphpmfflfpaaGreatDoorZm
set_option linter.unusedSimpArgs false
set_option linter.unusedVariables false
namespace Go.Proofs.YtphjphpmfflfpaaGreatDoor
open Go Go.RowKit
set_option maxRecDepth 100000
set_option maxHeartbeats 8000000
theorem LV {s m:List Int} {L:Nat} (hp:aE m s.length) (hs:s.length<=9) (hL:L<=20):bZ (gP m s.length L) (aU m s.length L 1):=pH fun e he=>oW hp hs hL (by omega) he
theorem MZ {s m:List Int} {L:Nat} (hv:bF s m L=true) (h0: ¬(s.length=0/\L=0)) (hs:s.length<=9) (hL:L<=20):evL (gP m s.length L)=(-1)^s.length*(-2:Int)^((a8 s m).length+L-1):=by
 have hp:=bP hv;have v1:=cK hv;have hP:=LV hp hs hL;rw [←JU 1000 (gP m s.length L) fun t ht=>oW hp hs hL (j:=1) (by omega) (hP.mem ht).2,show cfL (gP m s.length L)=aU m s.length L 1 from funext hP.cf];have h1:=V7 (K:=2^s.length) (c:=cN m s.length L) (w:=wB s.length) 1 1000 fun k _ hk=>by
  have a:=F6 hp (L:=L) k;have b:=GK k s.length;unfold wB;omega
 have h2:rX (aU m s.length L 1) 1000=sm (fun k=>(-2:Int)^(cN m s.length L k-1)) (2^s.length):=by
  refine Eq.trans h1 (dO fun k _=>?_);rw [if_pos];by_cases hn:0<s.length
  ·have:=vU hp (cA k) hn
   unfold cN;omega
  ·unfold cN;omega
 rw [h2];by_cases hn:0<s.length
 ·rw [Vo hp hn L,TZ v1 hp]
 ·have jM:s.length=0:=by omega
  have kB:m=[]:=List.length_eq_zero_iff.1 (by have:=v1.len;omega);subst kB;rw [jM];have e1:cN [] 0 L 0=L:=by unfold cN;simp [aX,gj,ou,roots]
  have e2:(a8 s []).length=0:=by have:=zu s [];simpa using this
  simp only [Nat.pow_zero,sm,e1,e2];simp
end Go.Proofs.YtphjphpmfflfpaaGreatDoor
