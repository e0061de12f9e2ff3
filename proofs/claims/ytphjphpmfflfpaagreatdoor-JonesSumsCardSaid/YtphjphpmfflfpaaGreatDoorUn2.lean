/- Layer 7: Union. -/
import Derived.Test.YtphjphpmfflfpaaGreatDoorUn1
import Derived.Test.YtphjphpmfflfpaaGreatDoorSs
import Derived.Test.YtphjphpmfflfpaaGreatDoorZl
set_option linter.unusedSimpArgs false
set_option linter.unusedVariables false
namespace Go.Proofs.YtphjphpmfflfpaaGreatDoor
open Go Go.RowKit
set_option maxRecDepth 100000
set_option maxHeartbeats 8000000
theorem Ol (s m:List Int) (L:Int) (s' m':List Int) (L':Int) (hv:bF s m L=true) (fN:bF s' m' L'=true) (hs:s.length+s'.length<=64) (hL:L+L'<=64):
  Fn Tryz.prog 14 [dgA s m L,dgA s' m' L'] (.tup [dgA (s++s') (Sp.bR m m') (L+L'),I 0]):=by
 have v1:=cK hv;have v2:=cK fN;have hV:=l8 s m L;rw [hv] at hV;have pz:=l8 s' m' L';rw [fN] at pz;have l1:=v1.len;have l2:=v2.len;have l3:=v1.l0;have l4:=v2.l0;have hB:=Z7 s m L s' m' L' (L+L') hs (by omega) (by omega) (fun i hi=>by
  have:=v2.prd.ok.2 i (by omega)
  have:=v2.s64
  omega) hL
 rw [R4] at hB;refine Fn.aq [.cell 4 24, .tmp 5] Tryz.func14 rfl rfl (by decide) (by simp [Tryz.ntmps14]) ?_;rw [Tryz.ntmps14]
 repeat' (first|omega|(try apply ag);simp only [go_sem,sevalprocAttr]|apply ah<;>(intro h_;(try simp only [h_]);revert h_)|apply ai|apply aj|apply ae|apply And.intro|with_reducible intro h_|trivial|simp only [go_sem,ak];omega)
 refine ⟨aA.fn rfl hV ?_⟩
 repeat' (first|omega|(try apply ag);simp only [go_sem,sevalprocAttr]|apply ah<;>(intro h_;(try simp only [h_]);revert h_)|apply ai|apply aj|apply ae|apply And.intro|with_reducible intro h_|trivial|simp only [go_sem,ak];omega)
 refine ⟨aA.fn rfl pz ?_⟩
 repeat' (first|omega|(try apply ag);simp only [go_sem,sevalprocAttr]|apply ah<;>(intro h_;(try simp only [h_]);revert h_)|apply ai|apply aj|apply ae|apply And.intro|with_reducible intro h_|trivial|simp only [go_sem,ak];omega)
 refine ⟨aA.fn rfl hB ?_⟩
 repeat' (first|omega|(try apply ag);simp only [go_sem,sevalprocAttr]|apply ah<;>(intro h_;(try simp only [h_]);revert h_)|apply ai|apply aj|apply ae|apply And.intro|with_reducible intro h_|trivial|simp only [go_sem,ak];omega)
 all_goals exact aR.of (by simp [Sp.bR])
end Go.Proofs.YtphjphpmfflfpaaGreatDoor
