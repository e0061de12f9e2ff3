/- Layer 19: the example of the chapter, with its text. -/
import Derived.Test.YtmplhbgolhlicaaDoorCw4
import Derived.Test.YtmplhbgolhlicaaDoorTx4
set_option linter.unusedSimpArgs false
set_option linter.unusedVariables false
namespace Go.Proofs.YtmplhbgolhlicaaDoor
open Go Go.RowKit
set_option maxRecDepth 100000
set_option maxHeartbeats 8000000
theorem txt_awake : txtB [122] [(0, 1), (2, 1)] = [49, 43, 122, 94, 50] := by decide +kernel
theorem fn_awake19 : Fn Tryd.prog 11 [] (.bool true) := by
  refine fn_awake ?_
  have h := fn_Text [(0, 1), (2, 1)] ⟨#[122]⟩ (fun k hk => by
    match k, hk with
    | 0, _ => decide
    | 1, _ => decide) (by decide) (by decide)
  rw [show (⟨#[122]⟩ : ByteArray).data.toList = [122] from rfl, txt_awake] at h
  exact h
end Go.Proofs.YtmplhbgolhlicaaDoor
