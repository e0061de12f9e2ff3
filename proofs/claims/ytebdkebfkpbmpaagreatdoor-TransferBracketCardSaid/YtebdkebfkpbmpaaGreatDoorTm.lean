/- Plain: the terms of a list of coefficients. -/
import Derived.Test.YtebdkebfkpbmpaaGreatDoorXe
set_option linter.unusedSimpArgs false
set_option linter.unusedVariables false
namespace Go.Proofs.YtebdkebfkpbmpaaGreatDoor
set_option linter.unusedVariables false
namespace Sp
def tmsF : Int -> List Int -> List (Int × Int)
 | _, [] => []
 | i, a :: q => if a = 0 then tmsF (i + 1) q else (i, a) :: tmsF (i + 1) q
theorem tmsF_len : ∀ (q : List Int) (i : Int), (tmsF i q).length <= q.length
 | [], _ => Nat.le_refl _
 | a :: q, i => by unfold tmsF; have := tmsF_len q (i + 1); split <;> simp <;> omega
end Sp
end Go.Proofs.YtebdkebfkpbmpaaGreatDoor
