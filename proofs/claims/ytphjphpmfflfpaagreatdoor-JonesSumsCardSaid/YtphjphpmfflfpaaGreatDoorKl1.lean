/- The bracket of a union, and with one more loop; it is not 0. -/
import Derived.Test.YtphjphpmfflfpaaGreatDoorZj
import Derived.Test.YtphjphpmfflfpaaGreatDoorZm
import Derived.Test.YtphjphpmfflfpaaGreatDoorKb5
set_option linter.unusedSimpArgs false
set_option linter.unusedVariables false
namespace Go.Proofs.YtphjphpmfflfpaaGreatDoor
open Go Go.RowKit
set_option maxRecDepth 100000
set_option maxHeartbeats 8000000
theorem wi {a:Int} (h:a≠0): ∀k:Nat,a^k≠0
 |0=>by rw [Int.pow_zero];decide
 |k+1=>by rw [Int.pow_succ];exact Int.mul_ne_zero (wi h k) h
theorem JI {m:List Int} {n L:Nat} (hp:aE m n) (hs:n<=9) (hL:L<=20):bZ (gP m n L) (aU m n L 1):=pH fun e he=>oW hp hs hL (by omega) he
theorem Ws {m:List Int} {n L:Nat} (hp:aE m n) (hm:m.length=4*n) (h0: ¬(n=0/\L=0)) (hs:n<=9) (hL:L<=20):0<(gP m n L).length:=by
 have hP:=JI hp hs hL;have dW:evL (gP m n L)≠0:=by
  rw [←JU 1000 (gP m n L) fun t ht=>oW hp hs hL (j:=1) (by omega) (hP.mem ht).2,show cfL (gP m n L)=aU m n L 1 from funext hP.cf];have h1:=V7 (K:=2^n) (c:=cN m n L) (w:=wB n) 1 1000 fun k _ hk=>by
   have a:=F6 hp (L:=L) k;have b:=GK k n;unfold wB;omega
  have h2:rX (aU m n L 1) 1000=sm (fun k=>(-2:Int)^(cN m n L k-1)) (2^n):=Eq.trans h1 (dO fun k _=>by rw [if_pos (y7 hp h0 k)]);rw [h2];by_cases hn:0<n
  ·rw [Vo hp hn L];exact Int.mul_ne_zero (wi (by decide) _) (wi (by decide) _)
  ·have jM:n=0:=by omega
   subst jM;simp only [Nat.pow_zero,sm];rw [show (0:Int)+(-2)^(cN m 0 L 0-1)=(-2)^(cN m 0 L 0-1) by omega];exact wi (by decide) _
 cases h:gP m n L with
 |nil=>rw [h] at dW;exact absurd rfl dW
 |cons t p=>simp
theorem Mu {m1 m2:List Int} {n1 n2 L1 L2:Nat} (aC:aE m1 n1) (aJ:aE m2 n2) (dc:aE (Sp.bR m1 m2) (n1+n2)) (h1: ¬(n1=0/\L1=0)) (h2: ¬(n2=0/\L2=0)) (k:Nat):2<=cN (Sp.bR m1 m2) (n1+n2) (L1+L2) k:=by
 unfold cN;rw [Ts aC aJ dc];have a:1<=aX m1 n1 (cA k)+L1:=by
  by_cases hn:0<n1
  ·have:=vU aC (cA k) hn;omega
  ·omega
 have b:1<=aX m2 n2 (fun c=>cA k (n1+c))+L2:=by
  by_cases hn:0<n2
  ·have:=vU aJ (fun c=>cA k (n1+c)) hn;omega
  ·omega
 omega
end Go.Proofs.YtphjphpmfflfpaaGreatDoor
