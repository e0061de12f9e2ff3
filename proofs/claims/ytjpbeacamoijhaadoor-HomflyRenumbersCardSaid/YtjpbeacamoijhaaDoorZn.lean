/- The split union of two diagrams; its polynomial is 0. -/
import Derived.Test.YtjpbeacamoijhaaDoorSr
import Derived.Test.YtjpbeacamoijhaaDoorZm
set_option linter.unusedSimpArgs false
set_option linter.unusedVariables false
namespace Go.Proofs.YtjpbeacamoijhaaDoor
namespace Sp
section
variable {s s1 s2 m m1 m2:List Int} {L L1 L2:Int} {n c k:Nat}
variable {col:Nat->Bool} {LA LB:Int}
end
end Sp
end Go.Proofs.YtjpbeacamoijhaaDoor
namespace Go.Proofs.YtjpbeacamoijhaaDoor
set_option linter.unusedSimpArgs false
set_option linter.unusedVariables false
theorem yzp (b:Bool) (x:Int) (n:Nat):jnB b (x+4*n)=jnB b x+4*n:=by
 unfold jnB
 rw [ydq,ycq,ydq,ycq,show (x+4*(n:Int))% 2=x % 2 by omega]
 split<;>omega
section
variable {m1 m2:List Int} {n1 n2:Nat}
end
section
variable {m1 m2:List Int} {n1 n2 L1 L2:Nat}
end
end Go.Proofs.YtjpbeacamoijhaaDoor
