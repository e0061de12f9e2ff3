/- The split union of two diagrams; its polynomial is 0. -/
import Derived.Test.YtbblgobamoabkaaGreatDoorSr
import Derived.Test.YtbblgobamoabkaaGreatDoorZi
import Derived.Test.YtbblgobamoabkaaGreatDoorSq
import Derived.Test.YtbblgobamoabkaaGreatDoorZc
import Derived.Test.YtbblgobamoabkaaGreatDoorZg
import Derived.Test.YtbblgobamoabkaaGreatDoorZh
set_option linter.unusedSimpArgs false
set_option linter.unusedVariables false
namespace Go.Proofs.YtbblgobamoabkaaGreatDoor
namespace Sp
section
variable {s s1 s2 m m1 m2:List Int} {L L1 L2:Int} {n c k:Nat}
variable {col:Nat->Bool} {LA LB:Int}
end
end Sp
end Go.Proofs.YtbblgobamoabkaaGreatDoor
namespace Go.Proofs.YtbblgobamoabkaaGreatDoor
set_option linter.unusedSimpArgs false
set_option linter.unusedVariables false
section
variable {m1 m2:List Int} {n1 n2:Nat}
end
section
variable {m1 m2:List Int} {n1 n2 L1 L2:Nat}
end
end Go.Proofs.YtbblgobamoabkaaGreatDoor
namespace Go.Proofs.YtbblgobamoabkaaGreatDoor
set_option linter.unusedSimpArgs false
set_option linter.unusedVariables false
section
variable {m:List Int} {n c:Nat} {b:Bool}
end
def cutK (c:Nat) (y:Int):Int:=if (c:Int)<y/4 then y-4 else y
def upK (c:Nat) (x:Int):Int:=if x/4<(c:Int) then x else x+4
section
variable {m m':List Int} {n c:Nat} {b:Bool} {mt jn mt' jn':Int->Int} (hp:PmOk m n) (hc:c<n) (hi:Inv2 n mt jn) (hmt: ∀x,mt x=m.getD x.toNat 0) (hjd: ∀x,jn x/4=x/4) (hjc: ∀x,x/4=(c:Int)->jn x=jnB b x)
include hjc hmt
variable (hi':Inv2 (n-1) mt' jn') (hmt': ∀x:Nat,x<4*(n-1)->mt' x=cutK c (thrX m b c 5 (m.getD (upK c x).toNat 0))) (hjq: ∀y:Int,0<=y->y/4≠(c:Int)->jn' (cutK c y)=cutK c (jn y))
include hp hc hi hjd hi' hmt' hjq
end
section
variable {m m':List Int} {n c:Nat} {b:Bool} {mt jn mt' jn':Int->Int} (hp:PmOk m n) (hc:c<n) (hi:Inv2 n mt jn) (hmt: ∀x,mt x=m.getD x.toNat 0) (hjd: ∀x,jn x/4=x/4) (hjc: ∀x,x/4=(c:Int)->jn x=jnB b x)
include hmt hjc
variable (hi':Inv2 (n-1) mt' jn') (hmt': ∀x:Nat,x<4*(n-1)->mt' x=cutK c (thrX m b c 5 (m.getD (upK c x).toNat 0))) (hjq: ∀y:Int,0<=y->y/4≠(c:Int)->jn' (cutK c y)=cutK c (jn y))
include hp hc hi hjd hi' hmt' hjq
end
end Go.Proofs.YtbblgobamoabkaaGreatDoor
namespace Go.Proofs.YtbblgobamoabkaaGreatDoor
set_option linter.unusedSimpArgs false
set_option linter.unusedVariables false
set_option linter.unusedSectionVars false
namespace Sp
open Classical
section
variable {N:Nat} {si al si':Nat->Nat}
end
end Sp
section
variable {n:Nat} {f g:Nat->Nat} {m m':List Int}
end
end Go.Proofs.YtbblgobamoabkaaGreatDoor
namespace Go.Proofs.YtbblgobamoabkaaGreatDoor
set_option linter.unusedSimpArgs false
set_option linter.unusedVariables false
section
variable {m m':List Int} {n L:Nat}
end
section
variable {s m:List Int} {L:Int}
end
end Go.Proofs.YtbblgobamoabkaaGreatDoor
namespace Go.Proofs.YtbblgobamoabkaaGreatDoor
set_option linter.unusedSimpArgs false
set_option linter.unusedVariables false
section
variable {m:List Int} {n:Nat} (hp:PmOk m n)
include hp
end
section
variable {s m:List Int} {L:Int} (hv:ybx s m L)
include hv
end
end Go.Proofs.YtbblgobamoabkaaGreatDoor
namespace Go.Proofs.YtbblgobamoabkaaGreatDoor
set_option linter.unusedSimpArgs false
set_option linter.unusedVariables false
namespace Sp
open Classical
section
variable {N n:Nat} {si al:Nat->Nat} {w g:Nat->Int}
def nbt (b:Bool):Nat:=if b then 1 else 0
end
end Sp
end Go.Proofs.YtbblgobamoabkaaGreatDoor
namespace Go.Proofs.YtbblgobamoabkaaGreatDoor
set_option linter.unusedSimpArgs false
set_option linter.unusedVariables false
section
variable {s m:List Int} {L:Int} (v:ybx s m L)
include v
end
end Go.Proofs.YtbblgobamoabkaaGreatDoor
namespace Go.Proofs.YtbblgobamoabkaaGreatDoor
set_option linter.unusedSimpArgs false
set_option linter.unusedVariables false
open Classical
section
variable {s m:List Int} {L:Int} (v:ybx s m L)
include v
end
section
variable {s m:List Int} {L:Int} (hv:yap s m L=true)
include hv
end
end Go.Proofs.YtbblgobamoabkaaGreatDoor
namespace Go.Proofs.YtbblgobamoabkaaGreatDoor
set_option linter.unusedSimpArgs false
set_option linter.unusedVariables false
section
variable {s m:List Int} {L:Int} {un ov:Nat->Bool}
end
section
variable {s m:List Int} {L:Int} {u o:Nat->Nat}
end
end Go.Proofs.YtbblgobamoabkaaGreatDoor
namespace Go.Proofs.YtbblgobamoabkaaGreatDoor
set_option linter.unusedSimpArgs false
set_option linter.unusedVariables false
open Classical
section
variable {m:List Int} {n:Nat} {σ:Nat->Bool} {s s':Nat->Nat} {c:Nat}
end
section
variable {s m:List Int} {L:Int}
end
end Go.Proofs.YtbblgobamoabkaaGreatDoor
namespace Go.Proofs.YtbblgobamoabkaaGreatDoor
set_option linter.unusedSimpArgs false
set_option linter.unusedVariables false
section
variable {s m:List Int} {L:Int} (hv:yap s m L=true)
include hv
end
end Go.Proofs.YtbblgobamoabkaaGreatDoor
namespace Go.Proofs.YtbblgobamoabkaaGreatDoor
set_option linter.unusedSimpArgs false
set_option linter.unusedVariables false
open Classical
section
variable {s m:List Int} {L:Int} (hv:yap s m L=true)
include hv
end
section
variable {s m:List Int} {L:Int} (hv:yap s m L=true)
include hv
end
end Go.Proofs.YtbblgobamoabkaaGreatDoor
namespace Go.Proofs.YtbblgobamoabkaaGreatDoor
set_option linter.unusedSimpArgs false
set_option linter.unusedVariables false
section
variable {n:Nat} {mt jn mt':Int->Int} {x y:Int}
end
section
variable {m:List Int} {n:Nat}
end
end Go.Proofs.YtbblgobamoabkaaGreatDoor
namespace Go.Proofs.YtbblgobamoabkaaGreatDoor
set_option linter.unusedSimpArgs false
set_option linter.unusedVariables false
namespace Sp
open Classical
section
variable {N:Nat} {si al al':Nat->Nat}
end
end Sp
section
variable {s1 s2 m1 m2:List Int} {L1 L2:Int} {n1 n2:Nat}
end
end Go.Proofs.YtbblgobamoabkaaGreatDoor
namespace Go.Proofs.YtbblgobamoabkaaGreatDoor
set_option linter.unusedSimpArgs false
set_option linter.unusedVariables false
section
variable {s m:List Int} {L:Int} {o nu:Nat->Nat}
end
end Go.Proofs.YtbblgobamoabkaaGreatDoor
namespace Go.Proofs.YtbblgobamoabkaaGreatDoor
set_option linter.unusedSimpArgs false
set_option linter.unusedVariables false
namespace Hs
def dN:Nat->Int->Int
 |0,e=>if e=0 then 1 else 0
 |n+1,e=>dN n (e+1)-dN n (e-1)
theorem dN_sup: ∀(n:Nat) (e:Int),dN n e≠0-> -(n:Int)<=e/\e<=n/\(e-n)% 2=0
 |0,e,h=>by
  unfold dN at h
  by_cases h0:e=0
  ·subst h0;decide
  ·rw [if_neg h0] at h;exact absurd rfl h
 |n+1,e,h=>by
  unfold dN at h
  by_cases h1:dN n (e+1)=0
  ·have:=dN_sup n (e-1) (by intro h2;rw [h1,h2] at h;exact h rfl)
   omega
  ·have:=dN_sup n (e+1) h1
   omega
theorem dN_bnd: ∀(n:Nat) (e:Int),-(2^n:Int)<=dN n e/\dN n e<=2^n
 |0,e=>by unfold dN;split<;>decide
 |n+1,e=>by
  unfold dN
  have h1:=dN_bnd n (e+1)
  have h2:=dN_bnd n (e-1)
  rw [Int.pow_succ]
  omega
def Xh (a b:Int) (i j:Int) (k:Nat):Int:=if b=j-(k-1) then dN (k-1) (a-i) else 0
section
variable {s m:List Int} {L:Int}
end
end Hs
end Go.Proofs.YtbblgobamoabkaaGreatDoor
namespace Go.Proofs.YtbblgobamoabkaaGreatDoor
set_option linter.unusedSimpArgs false
set_option linter.unusedVariables false
namespace Hs
open Sp (Sph siD yax itn SC alD)
end Hs
end Go.Proofs.YtbblgobamoabkaaGreatDoor
namespace Go.Proofs.YtbblgobamoabkaaGreatDoor
set_option linter.unusedSimpArgs false
set_option linter.unusedVariables false
namespace Hs
def Dl (g:Int->Int->Int) (a b:Int):Int:=g (a+1) (b+1)-g (a-1) (b+1)
theorem Xh_k (a b i j:Int) {k:Nat} (hk:1<=k):Xh a b i j (k+1)=Xh (a+1) (b+1) i j k-Xh (a-1) (b+1) i j k:=by
 obtain ⟨n,rfl⟩: ∃n,k=n+1:=⟨k-1,by omega⟩
 unfold Xh
 have e1:((n+1:Nat):Int)-1=n:=by omega
 have e2:((n+1+1:Nat):Int)-1=n+1:=by omega
 rw [e1,e2,show n+1-1=n by omega,show n+1+1-1=n+1 by omega]
 by_cases h:b=j-(n+1)
 ·rw [if_pos h,if_pos (by omega),if_pos (by omega)]
  have e3:dN (n+1) (a-i)=dN n (a-i+1)-dN n (a-i-1):=rfl
  rw [e3,show a+1-i=a-i+1 by omega,show a-1-i=a-i-1 by omega]
 ·rw [if_neg h,if_neg (by omega),if_neg (by omega)];rfl
section
variable {s m:List Int} {l:Nat}
end
section
variable {s m:List Int} {l:Nat}
end
end Hs
end Go.Proofs.YtbblgobamoabkaaGreatDoor
namespace Go.Proofs.YtbblgobamoabkaaGreatDoor
set_option linter.unusedSimpArgs false
set_option linter.unusedVariables false
namespace Hs
section
variable {s m:List Int} {l:Nat}
end
end Hs
end Go.Proofs.YtbblgobamoabkaaGreatDoor
namespace Go.Proofs.YtbblgobamoabkaaGreatDoor
set_option linter.unusedSimpArgs false
set_option linter.unusedVariables false
namespace Hs
section
variable {s m:List Int} {L:Int}
theorem Xh_1 (a b:Int):Xh a b 0 0 1=if a=0/\b=0 then 1 else 0:=by
 unfold Xh
 show (if b=0-(((1:Nat):Int)-1) then (if a-0=0 then 1 else 0) else 0)=_
 by_cases h:a=0/\b=0
 ·rw [if_pos (by omega),if_pos (by omega),if_pos h]
 ·rw [if_neg h]
  by_cases h1:b=0-(((1:Nat):Int)-1)
  ·rw [if_pos h1,if_neg (by omega)]
  ·rw [if_neg h1]
theorem y6o (n:Nat) (a b:Int):Xh a b 0 0 (n+1+1)=Dl (fun a b=>Xh a b 0 0 (n+1)) a b:=Xh_k a b 0 0 (by omega)
end
end Hs
end Go.Proofs.YtbblgobamoabkaaGreatDoor
namespace Go.Proofs.YtbblgobamoabkaaGreatDoor
set_option linter.unusedSimpArgs false
set_option linter.unusedVariables false
namespace Hs
def XE (k:Nat) (e:Int):Int:=Xh (bvA e) (bvZ e) 0 0 k
theorem XE_sup (k:Nat):SupB (XE k) (k+1):=fun e he=>by
 unfold XE Xh at he
 by_cases hb:bvZ e=0-((k:Int)-1)
 ·rw [if_pos hb] at he
  have:=dN_sup _ _ he
  omega
 ·rw [if_neg hb] at he;exact absurd rfl he
theorem XE_bnd (k:Nat) (e:Int): -(2^k:Int)<=XE k e/\XE k e<=2^k:=by
 unfold XE Xh
 have h1:=dN_bnd (k-1) (bvA e-0)
 have h2:((2^(k-1):Nat):Int)<=((2^k:Nat):Int):=Int.ofNat_le.2 (Nat.pow_le_pow_right (by decide) (Nat.sub_le k 1))
 rw [Int.natCast_pow,Int.natCast_pow] at h2
 have h3:(0:Int)<=2^(k-1):=Int.pow_nonneg (by decide)
 have h4:(0:Int)<=2^k:=Int.le_trans h3 h2
 split
 ·exact ⟨Int.le_trans (Int.neg_le_neg h2) h1.1,Int.le_trans h1.2 h2⟩
 ·exact ⟨Int.neg_nonpos_of_nonneg h4,h4⟩
theorem XE_1:yak [(0,1)] (XE 1):=by
 have b0:bvA 0=0/\bvZ 0=0:=by decide
 refine ⟨⟨by simp,fun t ht=>by simp only [List.mem_singleton] at ht;subst ht;decide⟩,fun e=>?_⟩
 unfold XE
 rw [Xh_1]
 simp only [cfL,Int.add_zero]
 by_cases h:e=0
 ·subst h;rw [if_pos rfl,if_pos b0]
 ·rw [if_neg (fun h'=>h h'.symm),if_neg fun h'=>h ?_]
  have:=ycb e
  rw [h'.1,h'.2] at this
  rw [←this];decide
theorem yx0 {n:Nat} (hn:n<=1000) {e e':Int} (h: -1048576<=bvZ e'/\bvZ e'<=1048576):XE n (e-e')=Xh (bvA e-bvA e') (bvZ e-bvZ e') 0 0 n:=by
 have e1:e-e'=bvE (bvA e-bvA e') (bvZ e-bvZ e'):=by
  have h1:=ycb e
  have h2:=ycb e'
  unfold bvE at*
  omega
 unfold XE
 by_cases hz: -8388608<=bvZ e-bvZ e'/\bvZ e-bvZ e'<8388608
 ·rw [e1,yf2 hz,ydx hz]
 ·have b1:=ym9 e
  have k:bvZ (e-e')=bvZ e-bvZ e'-16777216\/bvZ (e-e')=bvZ e-bvZ e'+16777216:=by
   unfold bvZ at*
   omega
  unfold Xh
  rw [if_neg (by omega),if_neg (by omega)]
theorem XE_S (n:Nat) (hn:n<=900) (e:Int):XE (n+1+1) e=XE (n+1) (e-bvE (-1) (-1))-XE (n+1) (e-bvE 1 (-1)):=by
 rw [yx0 (by omega) (by rw [ydx (by omega)];omega),yx0 (by omega) (by rw [ydx (by omega)];omega)]
 rw [yf2 (by omega),ydx (by omega),yf2 (by omega),ydx (by omega)]
 unfold XE
 rw [y6o]
 unfold Dl
 rw [show bvA e- -1=bvA e+1 by omega,show bvZ e- -1=bvZ e+1 by omega]
section
variable {s m:List Int} {l:Nat}
end
end Hs
end Go.Proofs.YtbblgobamoabkaaGreatDoor
namespace Go.Proofs.YtbblgobamoabkaaGreatDoor
open Go Go.RowKit
set_option maxRecDepth 100000
set_option maxHeartbeats 8000000
set_option linter.unusedVariables false
set_option linter.unusedSimpArgs false
theorem yx1 {e c:Int} (hc:c≠0):yak [(e,c)] (cfL [(e,c)]):=⟨⟨by simp,fun t ht=>by simp only [List.mem_singleton] at ht;subst ht;exact hc⟩,fun _=>rfl⟩
def facU:Int:=bvE (-1) (-1)
def facV:Int:=bvE 1 (-1)
abbrev facL:List (Int×Int):=[(facU,1),(facV,-1)]
theorem yni:yak facL (cfL facL):=⟨⟨by decide,by decide⟩,fun _=>rfl⟩
theorem yqm {e c:Int}: ∀x,cfL [(e,c)] x≠0->x=e:=fun x h=>by
 simp only [cfL,Int.add_zero] at h
 by_cases he:e=x
 ·exact he.symm
 ·rw [if_neg he] at h;exact absurd rfl h
theorem y09:SupB (cfL facL) 1:=fun e he=>by
 simp only [cfL,Int.add_zero] at he
 by_cases h1:facU=e
 ·subst h1;decide
 ·rw [if_neg h1] at he
  by_cases h2:facV=e
  ·subst h2;decide
  ·rw [if_neg h2] at he;exact absurd rfl he
theorem y1a (e:Int): -1<=cfL facL e/\cfL facL e<=1:=by
 simp only [cfL,Int.add_zero]
 by_cases h1:facU=e
 ·rw [if_pos h1,if_neg (by rw [←h1];decide)];omega
 ·rw [if_neg h1];split<;>omega
theorem yx2:Fn Tryz.prog 31 [bvP false [(facU,1)],bvP false [(facV,1)]] (bvP false facL):=by
 refine ysy (N:=1) (yx1 (by decide)) (yx1 (by decide)) (fun e he=>?_) (fun e he=>?_) (by decide) (fun e=>?_) (fun e=>?_) ⟨yni.asc,fun e=>?_⟩ (fun e=>?_)
 ·rw [yqm e he];decide
 ·rw [yqm e he];decide
 ·simp only [cfL];split<;>omega
 ·simp only [cfL];split<;>omega
 ·simp only [cfL];split<;>split<;>omega
 ·simp only [cfL];split<;>split<;>omega
theorem ys7 {p:List (Int×Int)} {f:Int->Int} (hp:yak p f) (e:Int):cvL p (cfL facL) e=f (e-facU)-f (e-facV):=by
 rw [ysw,hp.cf,hp.cf];omega
theorem yir {k:Nat} (hk:k<=45) (e:Int): -35184372088832<=Hs.XE k e/\Hs.XE k e<=35184372088832:=by
 have h1:=Hs.XE_bnd k e
 have h2:((2^k:Nat):Int)<=((2^45:Nat):Int):=Int.ofNat_le.2 (Nat.pow_le_pow_right (by decide) hk)
 rw [Int.natCast_pow,Int.natCast_pow] at h2
 have h3:((2:Nat):Int)^45=35184372088832:=by decide
 rw [h3] at h2
 have h4:((2:Nat):Int)^k=2^k:=rfl
 rw [h4] at h2
 generalize (2:Int)^k=y at*
 omega
theorem yx3: ∀n:Nat,Hs.dN n (-(n:Int))=1
 |0=>rfl
 |n+1=>by
  unfold Hs.dN
  have h1:=yx3 n
  have h2:Hs.dN n (-((n+1:Nat):Int)-1)=0:=Classical.byContradiction fun h=>by
   have:=Hs.dN_sup n _ h
   omega
  rw [h2,show-((n+1:Nat):Int)+1= -(n:Int) by omega,h1];rfl
theorem y6p {n:Nat} (hn:n<=900) {q:List (Int×Int)} (hq:yak q (Hs.XE (n+1))):q≠[]:=fun h=>by
 have h1:=hq.cf (bvE (-(n:Int)) (-(n:Int)))
 rw [h] at h1
 unfold Hs.XE Hs.Xh at h1
 rw [yf2 (by omega),ydx (by omega),if_pos (by omega),Nat.add_sub_cancel,Int.sub_zero,yx3] at h1
 simp [cfL] at h1
theorem yu3 (k:Nat) (hk:1<=k/\k<=45) {p:List (Int×Int)} (hp:yak p (Hs.XE k)):Fn Tryz.prog 33 [I k] (bvP false p):=by
 have t1:=ylf 1 (-1) (-1) (by decide) (by decide) (by decide) (by decide)
 have t2:=ylf 1 1 (-1) (by decide) (by decide) (by decide) (by decide)
 have t3:=ylf 1 0 0 (by decide) (by decide) (by decide) (by decide)
 have hF:=yx2
 rw [show bvE (-1) (-1)=facU from rfl] at t1
 rw [show bvE 1 (-1)=facV from rfl] at t2
 rw [show bvE 0 0=0 from rfl] at t3
 refine Fn.introL [.cell 2 29] Tryz.func33 rfl rfl (by decide) (by simp [Tryz.ntmps33]) ?_;rw [Tryz.ntmps33]
 repeat' (first|omega|(try apply yaa);simp only [go_sem,sevalprocAttr,yad]|(refine ⟨yae.fn (r:=?_) rfl ?_ ?_⟩;rotate_left;assumption)|(refine ⟨yai.fn (r:=?_) rfl ?_ ?_⟩;rotate_left;assumption)|apply yab<;>(intro h_;(try simp only [h_]);revert h_)|apply And.intro|with_reducible intro h_|trivial|simp only [go_sem,la2];omega)
 refine yaj.intro (fun n fr H=> ∃(i:Nat) (q:List (Int×Int)),i+1<=k/\n=k-i/\yak q (Hs.XE (i+1))/\fr=[(11,I i),(10,I ((k:Int)-1)),(4, .ptr 2 0),(3, .ptr 1 0),(2, .ptr 0 0)]/\H=[(2, .cells 29 (.lst [.bool false,bvT q])),(1, .cells 29 (.lst [.bool false,bvT facL])),(0,gaB)]) ?_ ?_
 ·refine ⟨_,_,_,Wk.sub ?_ ?_,0,[(0,1)],by omega,rfl,Hs.XE_1,rfl,rfl⟩
  ·simp only [go_sem,sevalprocAttr,yad]
  ·simp only [go_sem,sevalprocAttr,yad]
 rintro n fr H ⟨i,q,hi,rfl,hq,rfl,rfl⟩
 by_cases hil:i+1<k
 ·have bi:decide ((i:Int)<(k:Int)-1)=true:=by simp;omega
  have e2: ∀e,cvL q (cfL facL) e=Hs.XE (i+1+1) e:=fun e=>by rw [ys7 hq,Hs.XE_S i (by omega)];rfl
  obtain ⟨q',hq'⟩:=ybo (Hs.XE_sup (i+1+1)) (by omega)
  have hM:=y31 (p:=q) (q:=facL) (r:=q') (N:=50) (A:=35184372088832) (B:=1) hq yni (y6p (by omega) hq) (by decide) ((Hs.XE_sup (i+1)).mono (by omega)) (y09.mono (by decide)) (by decide) (yir (by omega)) y1a (by decide) (by decide) (by decide) (hq'.congr fun e=>(e2 e).symm) (fun e=>by dsimp only;rw [e2];have:=yir (k:=i+1+1) (by omega) e;omega) (fun e he=>by dsimp only at he;rw [e2] at he;have:=Hs.XE_sup (i+1+1) e he;omega)
  repeat' (first|omega|(try apply yaa);simp only [go_sem,sevalprocAttr,bi,yad]|(refine ⟨yae.fn (r:=?_) rfl ?_ ?_⟩;rotate_left;assumption)|(refine ⟨yai.fn (r:=?_) rfl ?_ ?_⟩;rotate_left;assumption)|apply yab<;>(intro h_;(try simp only [h_]);revert h_)|apply And.intro|with_reducible intro h_|trivial|simp only [go_sem,la2];omega)
  refine ⟨_,_,_,?_,Wk.sub ?_ ?_,i+1,q',by omega,rfl,hq',rfl,rfl⟩
  ·omega
  ·simp only [go_sem,sevalprocAttr,yad]
  ·simp only [go_sem,sevalprocAttr,yad]
 ·obtain rfl:k=i+1:=by omega
  have bi:decide ((i:Int)<((i+1:Nat):Int)-1)=false:=by simp
  obtain rfl:q=p:=hq.uniq hp
  repeat' (first|omega|(try apply yaa);simp only [go_sem,sevalprocAttr,bi,yad]|apply yab<;>(intro h_;(try simp only [h_]);revert h_)|apply And.intro|with_reducible intro h_|trivial|simp only [go_sem,la2];omega)
  all_goals exact LeA.refl _
end Go.Proofs.YtbblgobamoabkaaGreatDoor
namespace Go.Proofs.YtbblgobamoabkaaGreatDoor
open Sp
set_option linter.unusedSimpArgs false
set_option linter.unusedVariables false
structure ybg (s m:List Int) (l:Nat):Prop where
 val:yap s m l=true
 len:3*s.length+l<=36
 n14:s.length<=9
 pos:0<s.length\/0<l
theorem yga {motive:List Int->List Int->Nat->Prop} (desc: ∀s m l,ybg s m l->badO s m=none->motive s m l)
  (step: ∀(s m:List Int) (l c l':Nat),ybg s m l->badO s m=some (c:Int)->c<s.length->(s.getD c 0=1\/s.getD c 0= -1)->smLp s m c l=l'->ybg (swS s c) (swM s m c) l->(swS s c).length=s.length->ybg (smS s c) (smM s m c) l'->(smS s c).length+1=s.length->motive (swS s c) (swM s m c) l->motive (smS s c) (smM s m c) l'->motive s m l):
  ∀s m l,ybg s m l->motive s m l:=by
 have key: ∀(f:Nat) (s m:List Int) (l:Nat),ybg s m l->s.length*s.length+bc s m+1<=f->motive s m l:=by
  intro f
  induction f with
  |zero=>intro s m l _ h;omega
  |succ f ih=>
   intro s m l h hf
   have v:=ya1 h.val
   have hbl:=yiq v
   have hn:=h.n14
   have hl:=h.len
   cases hb:badO s m with
   |none=>exact desc s m l h hb
   |some c=>
    have hcr:=ypw v.prd hb
    obtain ⟨c,rfl⟩: ∃d:Nat,c=d:=⟨c.toNat,by omega⟩
    have hc:c<s.length:=by omega
    have hsm:=yf9 (m:=m) (b:=(s.getD c 0== -1)) (c:=c) (n:=s.length)
    have hlp:smLp s m c l=l+smL m (s.getD c 0== -1) c s.length:=rfl
    obtain ⟨v2,l2⟩:=yjm h.val hc (by omega)
    have v1:=yqf h.val hc
    have hbs:=y1y h.val hc hb
    have hb2:=yiq (ya1 v2)
    obtain ⟨d,hd⟩: ∃d,s.length=d+1:=⟨s.length-1,by omega⟩
    have hsq:s.length*s.length=d*d+2*d+1:=by rw [hd,Nat.add_mul,Nat.mul_add];omega
    obtain ⟨l',hl'⟩: ∃l':Nat,smLp s m c l=l':=⟨(smLp s m c l).toNat,by omega⟩
    have h1:ybg (swS s c) (swM s m c) l:=⟨v1,by rw [ydg];omega,by rw [ydg];omega,by rw [ydg];exact h.pos⟩
    have h2:ybg (smS s c) (smM s m c) l':=⟨by rw [←hl'];exact v2,by rw [l2];omega,by rw [l2];omega,by
     rw [l2]
     by_cases h1:0<s.length-1
     ·exact .inl h1
     ·have hl1:s.length=1:=by omega
      obtain rfl:c=0:=by omega
      have:=y34 (m:=m) (b:=(s.getD 0 0== -1))
      rw [hl1] at hlp
      right;omega⟩
    exact step s m l c l' h hb hc (v.sg c hc) hl' h1 (ydg ..) h2 (by rw [l2];omega) (ih _ _ _ h1 (by rw [ydg];omega)) (ih _ _ _ h2 (by rw [l2,hd,Nat.add_sub_cancel];rw [l2] at hb2;omega))
 exact fun s m l h=>key _ s m l h (Nat.le_refl _)
end Go.Proofs.YtbblgobamoabkaaGreatDoor
