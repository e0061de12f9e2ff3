/- The row of HomflyUnions: for every input the law returns true, and its arguments read as they did; and the card, tied to the program's text. Conditions: none beyond the row's own. -/
import Derived.Test.YtjpbeacamoijhaaGreatDoorZa
import Derived.Test.YtjpbeacamoijhaaGreatDoorZq
set_option linter.unusedSimpArgs false
set_option linter.unusedVariables false
namespace Go.Proofs.YtjpbeacamoijhaaGreatDoor
set_option maxRecDepth 100000
open Go Go.Joins Go.ChangeShapes Go.WideShapes Go.ChangeAt Go.WideMaps Go.WideElems Go.RowKit
theorem yjv (os:Os) (started:os.Started) (H:Type) (enc:TypeId×Value->H):
  ReturnsInHanded {} Tryz.checked os 5 .any (fun w args=>(Rows.homflyUnionsSpec.pre enc Tryz.prog Tryz.f5 [] false w args/\laidMetH Tryz.prog ynv w)/\sizedMet enc Tryz.prog Tryz.f5 (OpenSpec.ofChange Rows.homflyUnionsSpec) false w args)
   (Rows.homflyUnionsSpec.post enc Tryz.prog Tryz.f5 false true false false):=by
 refine returnsInHanded_of_change_and (C:=Tryz.checked) (X:=fun w _=>laidMetH Tryz.prog ynv w) (fun _ _ _ hh h=>h.of_heap hh) own started (by kernel_rfl) Tryz.func5
  (ChangeSpec.witness_shaped (enc:=enc) (C:=Tryz.checked) (os:=os) (X:=fun w _=>laidMetH Tryz.prog ynv w) false (World.doorLaid Tryz.prog 400 os) #[.agg #[.slice none 0 0, .slice none 0 0, .int .i64 0], .agg #[.slice none 0 0, .slice none 0 0, .int .i64 0], .int .u8 0, .int .u8 0] 8 rfl (World.shaped_of_RefB (by kernel_rfl) (by kernel_rfl)) (by kernel_rfl) (by kernel_rfl) (by kernel_rfl) (y4v os _)) ?_
 intro W base args ds gs before hval0 hW _ hwt hL _;have hval: ∀(j:Nat) t v,Tryz.f5.params[j]?=some t->args[j]?=some v->Value.okWide Tryz.prog W .any base t v:=hval0;have hW':=hW;obtain ⟨p,q,hA0,hV,rfl,hfz,hnd⟩:=hW;have hA:DataW.TrodAll enc Tryz.prog W 0 (fun _=>true) true Tryz.f5.params.toList args.toList ds p:=hA0;rw [Tryz.params5] at hA hval
 obtain ⟨v0,v1,v2,v3,d0,d1,d2,d3,p0,p1,p2,p3,rfl,rfl,rfl,h0,h1,h2,h3⟩:=trodAll_four hA;obtain ⟨rfl,rfl⟩:=trodVars_none hV;obtain ⟨s0,m0,L0,hv0⟩:=y5v (hval 0 24 v0 rfl rfl) h0;obtain ⟨s1,m1,L1,hv1⟩:=y5v (hval 1 24 v1 rfl rfl) h1;obtain ⟨un2,ub2,hv2⟩:=y5w (hval 2 5 v2 rfl rfl) h2;obtain ⟨un3,ub3,hv3⟩:=y5w (hval 3 5 v3 rfl rfl) h3;have hg:=yr9 hL
 refine ((yor s0 m0 L0 s1 m1 L1 un2 ub2 un3 ub3).2 W (fun _=>False) [v0,v1,v2,v3] ⟨hg,fun _ h=>h.elim⟩ rfl fun i u x hu hx=>?_).mono ?_
 ·match i,hu,hx with
  |0,hu,hx=>simp at hu hx;subst hu hx;exact hv0
  |1,hu,hx=>simp at hu hx;subst hu hx;exact hv1
  |2,hu,hx=>simp at hu hx;subst hu hx;exact hv2
  |3,hu,hx=>simp at hu hx;subst hu hx;exact hv3
 ·rintro e W' ⟨v,rfl,hb,hv⟩;obtain rfl:=hv.bool_inv;exact ⟨_,rfl,y4u hW' rfl (by rw [Tryz.params5];decide) (by kernel_rfl) rfl hb⟩
theorem homflyUnions_row:Rows.HomflyUnionsSaid:=
 OpenClaim.holds_of_wide 5 Tryz.f5 rfl rfl rfl rfl rfl rfl rfl ⟨rfl,rfl,rfl,rfl,rfl⟩ rfl rfl rfl rfl rfl (by kernel_rfl) Tryz.func5 (by kernel_rfl)
  (of_decide_eq_true (by kernel_rfl)) (by unfold Func.isWrapper;first|(rw [zzJ (by decide+kernel)];kernel_rfl)|(rw [zzI (by decide+kernel)];exact ⟨rfl,rfl⟩))
  (fun os started H enc _=>yjv os started H enc)
theorem homflyUnions_holds:Rows.HomflyUnionsCardSaid:=
 Claim7.holds_tied_plain_at .later [] [.data, .data, .data] true (true,Rows.homflyUnionsCard.stood.harness.2) false
  homflyUnions_row (fun _ h=>by cases h) (by kernel_rfl) (fun _ h=>by cases h) homflyUnions_row_tie rfl ⟨rfl,rfl⟩ (by kernel_rfl) rfl
  (fun f fn hf hfn=>by
   obtain rfl:f=5:=Option.some.inj ((show Tryz.prog.funcNamed Rows.homflyUnionsRow.func=some 5 by kernel_rfl).symm.trans hf)|>.symm;obtain rfl:fn=Tryz.f5:=(Option.some.inj (Tryz.func5.symm.trans hfn)).symm;exact ⟨by kernel_rfl,fun j t ht=>by
    rw [Tryz.params5] at ht;have hm:=Array.mem_of_getElem? ht;simp at hm;rcases hm with rfl|rfl
    ·exact (show Tryz.prog.wantsStandIn 24=false by kernel_rfl)
    ·exact (show Tryz.prog.wantsStandIn 5=false by kernel_rfl)⟩)
  (by kernel_rfl)
end Go.Proofs.YtjpbeacamoijhaaGreatDoor
