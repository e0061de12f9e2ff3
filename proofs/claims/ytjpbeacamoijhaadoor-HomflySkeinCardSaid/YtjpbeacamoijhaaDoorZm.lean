/- Plain: all crossings switched. -/
import Derived.Test.YtjpbeacamoijhaaDoorHs24
import Derived.Test.YtjpbeacamoijhaaDoorZf
import Derived.Test.YtjpbeacamoijhaaDoorZb
namespace Go.Proofs.YtjpbeacamoijhaaDoor
set_option linter.unusedSimpArgs false
set_option linter.unusedVariables false
namespace Hs
open Sp (Sph siD PermN itn)
section
variable {D:Sh} {X:Int->Int->Nat->Int}
end
end Hs
end Go.Proofs.YtjpbeacamoijhaaDoor
namespace Go.Proofs.YtjpbeacamoijhaaDoor
set_option linter.unusedSimpArgs false
set_option linter.unusedVariables false
namespace Hs
open Sp (Sph siD PermN itn)
section
variable {D D':Sh} {X:Int->Int->Nat->Int}
end
end Hs
end Go.Proofs.YtjpbeacamoijhaaDoor
namespace Go.Proofs.YtjpbeacamoijhaaDoor
set_option linter.unusedSimpArgs false
set_option linter.unusedVariables false
structure PmOk (m:List Int) (n:Nat):Prop where
 ok:ybu m n
 inv: ∀x:Nat,x<4*n->m.getD (m.getD x 0).toNat 0=x
 ne: ∀x:Nat,x<4*n->m.getD x 0≠x
theorem pmOk {s m:List Int} {L:Int} (h:yai s m L=true):PmOk m s.length:=by
 have v:=yal h
 refine ⟨v.prd.ok,v.prd.inv,fun x hx=>?_⟩
 have:=v.mt x hx
 omega
abbrev cirS (m:List Int) (n:Nat) (ch:Nat->Bool):Nat:=roots (mgB m ch n)
def nb01 (b:Bool):Nat:=if b then 1 else 0
theorem y2y (ch:Nat->Bool):st3 (fun c=>nb01 (ch c))=fun x=>jnB (ch (x/4).toNat) x:=by
 funext x
 unfold st3 nb01
 dsimp only
 cases ch (x/4).toNat<;>rfl
section
variable {m:List Int} {n:Nat} (hp:PmOk m n)
include hp
theorem y74 (ch:Nat->Bool):CirR n (fun x=>m.getD x.toNat 0) (st3 (fun c=>nb01 (ch c))) (mgB m ch n):=by
 rw [y2y];exact yp3 hp.ok hp.inv hp.ne
theorem yrr (s:Nat->Nat):CirR n (fun x=>m.getD x.toNat 0) (st3 s) (crN (fun x=>m.getD x.toNat 0) (st3 s) (4*n) (4*n)):=y9q (yuh hp.ok hp.inv hp.ne s)
theorem yzf (ch:Nat->Bool):cirS m n ch=cir3 m n (fun c=>nb01 (ch c)):=yrh (y74 hp ch) (yrr hp _)
end
section
variable {m:List Int} {n L:Nat} (hp:PmOk m n)
include hp
end
end Go.Proofs.YtjpbeacamoijhaaDoor
namespace Go.Proofs.YtjpbeacamoijhaaDoor
set_option linter.unusedSimpArgs false
set_option linter.unusedVariables false
end Go.Proofs.YtjpbeacamoijhaaDoor
set_option linter.unusedSimpArgs false
set_option linter.unusedVariables false
namespace Go.Proofs.YtjpbeacamoijhaaDoor
set_option linter.unusedVariables false
namespace Sp
end Sp
end Go.Proofs.YtjpbeacamoijhaaDoor
