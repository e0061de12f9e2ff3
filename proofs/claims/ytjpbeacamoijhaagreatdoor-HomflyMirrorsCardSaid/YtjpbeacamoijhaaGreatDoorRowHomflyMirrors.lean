/- The row of HomflyMirrors: for every input the law returns true, and its arguments read as they did; and the card, tied to the program's text. Conditions: none beyond the row's own. -/
import Derived.Test.YtjpbeacamoijhaaGreatDoorZa
import Derived.Test.YtjpbeacamoijhaaGreatDoorZvg
set_option linter.unusedSimpArgs false
set_option linter.unusedVariables false
namespace Go.Proofs.YtjpbeacamoijhaaGreatDoor
set_option maxRecDepth 100000
open Go Go.Joins Go.ChangeShapes Go.WideShapes Go.ChangeAt Go.WideMaps Go.WideElems Go.RowKit
theorem yjs (os:Os) (started:os.Started) (H:Type) (enc:TypeId×Value->H):
  ReturnsInHanded {} Tryz.checked os 4 .any (fun w args=>(Rows.homflyMirrorsSpec.pre enc Tryz.prog Tryz.f4 [] false w args/\laidMetH Tryz.prog ynk w)/\sizedMet enc Tryz.prog Tryz.f4 (OpenSpec.ofChange Rows.homflyMirrorsSpec) false w args)
   (Rows.homflyMirrorsSpec.post enc Tryz.prog Tryz.f4 false true false false):=by
 refine returnsInHanded_of_change_and (C:=Tryz.checked) (X:=fun w _=>laidMetH Tryz.prog ynk w) (fun _ _ _ hh h=>h.of_heap hh) own started (by kernel_rfl) Tryz.func4
  (ChangeSpec.witness_shaped (enc:=enc) (C:=Tryz.checked) (os:=os) (X:=fun w _=>laidMetH Tryz.prog ynk w) false (World.doorLaid Tryz.prog 400 os) #[.agg #[.slice none 0 0, .slice none 0 0, .int .i64 0]] 8 rfl (World.shaped_of_RefB (by kernel_rfl) (by kernel_rfl)) (by kernel_rfl) (by kernel_rfl) (by kernel_rfl) (y38 os _)) ?_
 intro W base args ds gs before hval0 hW _ hwt hL _;have hval: ∀(j:Nat) t v,Tryz.f4.params[j]?=some t->args[j]?=some v->Value.okWide Tryz.prog W .any base t v:=hval0;have hW':=hW;obtain ⟨p,q,hA0,hV,rfl,hfz,hnd⟩:=hW;have hA:DataW.TrodAll enc Tryz.prog W 0 (fun _=>true) true Tryz.f4.params.toList args.toList ds p:=hA0;rw [Tryz.params4] at hA hval;obtain ⟨v0,d0,rfl,rfl,h0⟩:=trodAll_one hA
 obtain ⟨rfl,rfl⟩:=trodVars_none hV;obtain ⟨s0,m0,L0,hv0⟩:=dg_VR (hval 0 24 v0 rfl rfl) h0;have hg:=yrj hL;refine ((ymw s0 m0 L0).2 W (fun _=>False) [v0] ⟨hg,fun _ h=>h.elim⟩ rfl fun i u x hu hx=>?_).mono ?_
 ·match i,hu,hx with
  |0,hu,hx=>simp at hu hx;subst hu hx;exact hv0
 ·rintro e W' ⟨v,rfl,hb,hv⟩;obtain rfl:=hv.bool_inv;exact ⟨_,rfl,y37 hW' rfl (by rw [Tryz.params4];decide) (by kernel_rfl) rfl hb⟩
theorem homflyMirrors_row:Rows.HomflyMirrorsSaid:=
 OpenClaim.holds_of_wide 4 Tryz.f4 rfl rfl rfl rfl rfl rfl rfl ⟨rfl,rfl,rfl,rfl,rfl⟩ rfl rfl rfl rfl rfl (by kernel_rfl) Tryz.func4 (by kernel_rfl)
  (of_decide_eq_true (by kernel_rfl)) (by unfold Func.isWrapper;first|(rw [if_pos (by decide+kernel)];kernel_rfl)|(rw [if_neg (by decide+kernel)];exact ⟨rfl,rfl⟩))
  (fun os started H enc _=>yjs os started H enc)
theorem homflyMirrors_holds:Rows.HomflyMirrorsCardSaid:=
 Claim7.holds_tied_plain_at .later [] [.data, .data, .data] true (true,Rows.homflyMirrorsCard.stood.harness.2) false
  homflyMirrors_row (fun _ h=>by cases h) (by kernel_rfl) (fun _ h=>by cases h) homflyMirrors_row_tie rfl ⟨rfl,rfl⟩ (by kernel_rfl) rfl
  (fun f fn hf hfn=>by
   obtain rfl:f=4:=Option.some.inj ((show Tryz.prog.funcNamed Rows.homflyMirrorsRow.func=some 4 by kernel_rfl).symm.trans hf)|>.symm;obtain rfl:fn=Tryz.f4:=(Option.some.inj (Tryz.func4.symm.trans hfn)).symm;exact ⟨by kernel_rfl,fun j t ht=>by
    rw [Tryz.params4] at ht;have hm:=Array.mem_of_getElem? ht;simp at hm;subst hm;exact (show Tryz.prog.wantsStandIn 24=false by kernel_rfl)⟩)
  (by kernel_rfl)
end Go.Proofs.YtjpbeacamoijhaaGreatDoor
