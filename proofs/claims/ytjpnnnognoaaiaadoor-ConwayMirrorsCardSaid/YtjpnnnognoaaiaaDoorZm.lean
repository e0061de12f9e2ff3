/- Plain: the states of a diagram, their circles, and what Bracket counts. -/
import Derived.Test.YtjpnnnognoaaiaaDoorZk
namespace Go.Proofs.YtjpnnnognoaaiaaDoor
set_option linter.unusedSimpArgs false
set_option linter.unusedVariables false
structure PmOk (m:List Int) (n:Nat):Prop where
 ok:yb1 m n
 inv: ∀x:Nat,x<4*n->m.getD (m.getD x 0).toNat 0=x
 ne: ∀x:Nat,x<4*n->m.getD x 0≠x
theorem pmOk {s m:List Int} {L:Int} (h:yag s m L=true):PmOk m s.length:=by
 have v:=yan h
 refine ⟨v.prd.ok,v.prd.inv,fun x hx=>?_⟩
 have:=v.mt x hx
 omega
abbrev cirS (m:List Int) (n:Nat) (ch:Nat->Bool):Nat:=roots (mgB m ch n)
def nb01 (b:Bool):Nat:=if b then 1 else 0
theorem y15 (ch:Nat->Bool):st3 (fun c=>nb01 (ch c))=fun x=>jnB (ch (x/4).toNat) x:=by
 funext x
 unfold st3 nb01
 dsimp only
 cases ch (x/4).toNat<;>rfl
section
variable {m:List Int} {n:Nat} (hp:PmOk m n)
include hp
theorem y7i (ch:Nat->Bool):CirR n (fun x=>m.getD x.toNat 0) (st3 (fun c=>nb01 (ch c))) (mgB m ch n):=by
 rw [y15];exact ypl hp.ok hp.inv hp.ne
theorem yrq (s:Nat->Nat):CirR n (fun x=>m.getD x.toNat 0) (st3 s) (crN (fun x=>m.getD x.toNat 0) (st3 s) (4*n) (4*n)):=y8t (ytp hp.ok hp.inv hp.ne s)
theorem yy5 (ch:Nat->Bool):cirS m n ch=cir3 m n (fun c=>nb01 (ch c)):=yqw (y7i hp ch) (yrq hp _)
end
section
variable {m:List Int} {n L:Nat} (hp:PmOk m n)
include hp
end
end Go.Proofs.YtjpnnnognoaaiaaDoor
namespace Go.Proofs.YtjpnnnognoaaiaaDoor
set_option linter.unusedSimpArgs false
set_option linter.unusedVariables false
end Go.Proofs.YtjpnnnognoaaiaaDoor
