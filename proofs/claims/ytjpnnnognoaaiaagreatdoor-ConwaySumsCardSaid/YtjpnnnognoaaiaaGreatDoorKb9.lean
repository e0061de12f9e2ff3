/- Plain: states by number. -/
import Derived.Test.YtjpnnnognoaaiaaGreatDoorZn
namespace Go.Proofs.YtjpnnnognoaaiaaGreatDoor
set_option linter.unusedSimpArgs false
set_option linter.unusedVariables false
end Go.Proofs.YtjpnnnognoaaiaaGreatDoor
