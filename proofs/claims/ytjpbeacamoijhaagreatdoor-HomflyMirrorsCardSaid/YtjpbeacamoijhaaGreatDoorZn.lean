/- Plain: the states of a diagram, their circles, and what Bracket counts. -/
import Derived.Test.YtjpbeacamoijhaaGreatDoorZe
import Derived.Test.YtjpbeacamoijhaaGreatDoorZb
namespace Go.Proofs.YtjpbeacamoijhaaGreatDoor
set_option linter.unusedSimpArgs false
set_option linter.unusedVariables false
structure jh (m:List Int) (n:Nat):Prop where
 ok:pf m n
 inv: ∀x:Nat,x<4*n->m.getD (m.getD x 0).toNat 0=x
 ne: ∀x:Nat,x<4*n->m.getD x 0≠x
theorem pj {s m:List Int} {L:Int} (h:bI s m L=true):jh m s.length:=by
 have v:=dr h;refine ⟨v.dB.ok,v.dB.inv,fun x hx=>?_⟩
 have:=v.mt x hx
 omega
abbrev pD (m:List Int) (n:Nat) (ch:Nat->Bool):Nat:=roots (lH m ch n)
def uI (b:Bool):Nat:=if b then 1 else 0
theorem y4h (ch:Nat->Bool):tS (fun c=>uI (ch c))=fun x=>aF (ch (x/4).toNat) x:=by
 funext x;unfold tS uI;dsimp only;cases ch (x/4).toNat<;>rfl
section
variable {m:List Int} {n:Nat} (hp:jh m n)
include hp
theorem Zv (ch:Nat->Bool):l7 n (fun x=>m.getD x.toNat 0) (tS (fun c=>uI (ch c))) (lH m ch n):=by
 rw [y4h];exact HE hp.ok hp.inv hp.ne
theorem KN (s:Nat->Nat):l7 n (fun x=>m.getD x.toNat 0) (tS s) (crN (fun x=>m.getD x.toNat 0) (tS s) (4*n) (4*n)):=G5 (Qz hp.ok hp.inv hp.ne s)
theorem Vd (ch:Nat->Bool):pD m n ch=G7 m n (fun c=>uI (ch c)):=Sk (Zv hp ch) (KN hp _)
end
section
variable {m:List Int} {n L:Nat} (hp:jh m n)
include hp
end
end Go.Proofs.YtjpbeacamoijhaaGreatDoor
set_option linter.unusedSimpArgs false
set_option linter.unusedVariables false
namespace Go.Proofs.YtjpbeacamoijhaaGreatDoor
namespace Sp
end Sp
end Go.Proofs.YtjpbeacamoijhaaGreatDoor
