/- The row of HomflySets: for every input the law returns true, and its arguments read as they did; and the card, tied to the program's text. Conditions: none beyond the row's own. -/
import Derived.Test.YtfgbnalnbdhimaaGreatDoorZc
import Derived.Test.YtfgbnalnbdhimaaGreatDoorZk
set_option linter.unusedSimpArgs false
set_option linter.unusedVariables false
namespace Go.Proofs.YtfgbnalnbdhimaaGreatDoor
set_option maxRecDepth 100000
open Go Go.Joins Go.ChangeShapes Go.WideShapes Go.ChangeAt Go.WideMaps Go.WideElems Go.RowKit
theorem yjs (os:Os) (started:os.Started) (H:Type) (enc:TypeId×Value->H):
  ReturnsInHanded {} Tryz.checked os 3 .any (fun w args=>(Rows.homflySetsSpec.pre enc Tryz.prog Tryz.f3 [] false w args/\laidMetH Tryz.prog ylx w)/\sizedMet enc Tryz.prog Tryz.f3 (OpenSpec.ofChange Rows.homflySetsSpec) false w args)
   (Rows.homflySetsSpec.post enc Tryz.prog Tryz.f3 false true false false):=by
 refine returnsInHanded_of_change_and (C:=Tryz.checked) (X:=fun w _=>laidMetH Tryz.prog ylx w) (fun _ _ _ hh h=>h.of_heap hh) own started (by kernel_rfl) Tryz.func3
  (ChangeSpec.witness_shaped (enc:=enc) (C:=Tryz.checked) (os:=os) (X:=fun w _=>laidMetH Tryz.prog ylx w) false (World.doorLaid Tryz.prog 400 os) #[.slice none 0 0] 8 rfl (World.shaped_of_RefB (by kernel_rfl) (by kernel_rfl)) (by kernel_rfl) (by kernel_rfl) (by kernel_rfl) (y0v os _)) ?_
 intro W base args ds gs before hval0 hW _ hwt hL _
 have hval: ∀(j:Nat) t v,Tryz.f3.params[j]?=some t->args[j]?=some v->Value.okWide Tryz.prog W .any base t v:=hval0
 have hW':=hW
 obtain ⟨p,q,hA0,hV,rfl,hfz,hnd⟩:=hW
 have hA:DataW.TrodAll enc Tryz.prog W 0 (fun _=>true) true Tryz.f3.params.toList args.toList ds p:=hA0
 rw [Tryz.params3] at hA hval
 obtain ⟨v0,d0,rfl,rfl,h0⟩:=trodAll_one hA
 obtain ⟨rfl,rfl⟩:=trodVars_none hV
 obtain ⟨n0,zs0,hz0,hv0⟩:=y5x (hval 0 22 v0 rfl rfl) h0
 have hg:=yp6 hL
 refine ((yol n0 zs0 hz0).2 W (fun _=>False) [v0] ⟨hg,fun _ h=>h.elim⟩ rfl fun i u x hu hx=>?_).mono ?_
 ·match i,hu,hx with
  |0,hu,hx=>simp at hu hx;subst hu hx;exact hv0
 ·rintro e W' ⟨v,rfl,hb,hv⟩
  obtain rfl:=hv.bool_inv
  exact ⟨_,rfl,y0u hW' rfl (by rw [Tryz.params3];decide) (by kernel_rfl) rfl hb⟩
theorem homflySets_row:Rows.HomflySetsSaid:=
 OpenClaim.holds_of_wide 3 Tryz.f3 rfl rfl rfl rfl rfl rfl rfl ⟨rfl,rfl,rfl,rfl,rfl⟩ rfl rfl rfl rfl rfl (by kernel_rfl) Tryz.func3 (by kernel_rfl)
  (of_decide_eq_true (by kernel_rfl)) (by unfold Func.isWrapper;first|(rw [if_pos (by decide+kernel)];kernel_rfl)|(rw [if_neg (by decide+kernel)];exact ⟨rfl,rfl⟩))
  (fun os started H enc _=>yjs os started H enc)
theorem homflySets_holds:Rows.HomflySetsCardSaid:=
 Claim7.holds_tied_plain_at .later [] [.data, .data, .data] true (true,Rows.homflySetsCard.stood.harness.2) false
  homflySets_row (fun _ h=>by cases h) (by kernel_rfl) (fun _ h=>by cases h) homflySets_row_tie rfl ⟨rfl,rfl⟩ (by kernel_rfl) rfl
  (fun f fn hf hfn=>by
   obtain rfl:f=3:=Option.some.inj ((show Tryz.prog.funcNamed Rows.homflySetsRow.func=some 3 by kernel_rfl).symm.trans hf)|>.symm
   obtain rfl:fn=Tryz.f3:=(Option.some.inj (Tryz.func3.symm.trans hfn)).symm
   exact ⟨by kernel_rfl,fun j t ht=>by
    rw [Tryz.params3] at ht
    have hm:=Array.mem_of_getElem? ht
    simp at hm
    subst hm
    exact (show Tryz.prog.wantsStandIn 22=false by kernel_rfl)⟩)
  (by kernel_rfl)
end Go.Proofs.YtfgbnalnbdhimaaGreatDoor
