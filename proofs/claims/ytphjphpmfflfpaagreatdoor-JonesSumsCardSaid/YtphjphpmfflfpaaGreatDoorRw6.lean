/- Arguments: small numbers. -/
import Derived.Test.YtphjphpmfflfpaaGreatDoorRw4
set_option linter.unusedSimpArgs false
set_option linter.unusedVariables false
namespace Go.Proofs.YtphjphpmfflfpaaGreatDoor
open Go Go.Joins Go.ChangeShapes Go.WideShapes Go.ChangeAt Go.WideMaps Go.WideElems Go.RowKit
set_option maxRecDepth 100000
theorem y2t {H:Type} {enc:TypeId×Value->H} {w:World} {r:Reach} {b0:Nat} {v:Value} {d:DataW H} {p:List MemPlace} (hv:Value.okWide Tryz.prog w r b0 5 v) (h:DataW.Trod enc Tryz.prog w 0 (fun _=>true) true 5 v d p):
  ∃n:Int,(0<=n/\n<=255)/\VR w (fun _=>False) ρ0 (fun _=>False) v (.int .u8 n):=by
 obtain ⟨fuel,hf⟩:=h;rw [TG (fun fs=>by rw [Tryz.underlying5];simp) (fun n e=>by rw [Tryz.underlying5];simp) hv] at hf;obtain ⟨n,hc,_,hw⟩:=DataW.trod_int Tryz.underlying5 hf;simp only [List.cons.injEq,and_true] at hc;subst hc;refine ⟨n,?_, .int _ _⟩;simp [Lit.wf,IntKind.has,IntKind.min,IntKind.max,IntKind.bits,IntKind.signed] at hw;omega
end Go.Proofs.YtphjphpmfflfpaaGreatDoor
