/- Dropped. -/
import Derived.Test.YtbblgobamoabkaaGreatDoorSq
import Derived.Test.YtbblgobamoabkaaGreatDoorZh
import Derived.Test.YtbblgobamoabkaaGreatDoorZd
import Derived.Test.YtbblgobamoabkaaGreatDoorZc
namespace Go.Proofs.YtbblgobamoabkaaGreatDoor
set_option linter.unusedSimpArgs false
set_option linter.unusedVariables false
structure PmOk (m:List Int) (n:Nat):Prop where
 ok:ybn m n
 inv: ∀x:Nat,x<4*n->m.getD (m.getD x 0).toNat 0=x
 ne: ∀x:Nat,x<4*n->m.getD x 0≠x
section
variable {m:List Int} {n:Nat} (hp:PmOk m n)
include hp
end
section
variable {m:List Int} {n L:Nat} (hp:PmOk m n)
include hp
end
end Go.Proofs.YtbblgobamoabkaaGreatDoor
namespace Go.Proofs.YtbblgobamoabkaaGreatDoor
set_option linter.unusedSimpArgs false
set_option linter.unusedVariables false
end Go.Proofs.YtbblgobamoabkaaGreatDoor
set_option linter.unusedSimpArgs false
set_option linter.unusedVariables false
namespace Go.Proofs.YtbblgobamoabkaaGreatDoor
set_option linter.unusedVariables false
namespace Sp
end Sp
end Go.Proofs.YtbblgobamoabkaaGreatDoor
