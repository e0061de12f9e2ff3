/- Arguments: bools and rows of bools. -/
import Derived.Test.YtphjphpmfflfpaaGreatDoorZa
import Derived.Deep.Grids
set_option linter.unusedSimpArgs false
set_option linter.unusedVariables false
namespace Go.Proofs.YtphjphpmfflfpaaGreatDoor
open Go Go.Joins Go.ChangeShapes Go.WideShapes Go.ChangeAt Go.WideMaps Go.WideElems Go.RowKit
set_option maxRecDepth 100000
section
variable {H:Type} {enc:TypeId×Value->H}
theorem TG {w:World} {r:Reach} {b0 t:Nat} {v:Value} (hu: ∀fs,Tryz.prog.underlying t≠some (.struct fs)) (ha: ∀n e,Tryz.prog.underlying t≠some (.array n e)) (hv:Value.okWide Tryz.prog w r b0 t v):v.cells.toList=[v]:=by
 unfold Value.okWide at hv
 split at hv
 ·exact absurd ‹_› (hu _)
 ·exact absurd ‹_› (ha _ _)
 ·unfold Cell.okWide at hv;cases v<;>first|rfl|(exfalso;split at hv<;>simp_all [Cell.ok])
end
end Go.Proofs.YtphjphpmfflfpaaGreatDoor
