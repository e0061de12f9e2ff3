/- Arguments: rows of integers. -/
import Derived.Test.YtphjphpmfflfpaaGreatDoorRw4
set_option linter.unusedSimpArgs false
set_option linter.unusedVariables false
namespace Go.Proofs.YtphjphpmfflfpaaGreatDoor
open Go Go.Joins Go.ChangeShapes Go.WideShapes Go.ChangeAt Go.WideMaps Go.WideElems Go.RowKit
set_option maxRecDepth 100000
theorem yagy {H:Type} {enc:TypeId×Value->H} {w:World} {r:Reach} {b0:Nat} {v:Value} {d:DataW H} {p:List MemPlace} (hv:Value.okWide Tryz.prog w r b0 22 v) (h:DataW.Trod enc Tryz.prog w 0 (fun _=>true) true 22 v d p):
  ∃l:List Int,VR w (fun _=>False) ρ0 (fun _=>False) v (roI l):=by
 obtain ⟨fuel,hf⟩:=h;rw [TG (fun fs=>by rw [Tryz.underlying22];simp) (fun n e=>by rw [Tryz.underlying22];simp) hv] at hf;exact Ki hf
end Go.Proofs.YtphjphpmfflfpaaGreatDoor
