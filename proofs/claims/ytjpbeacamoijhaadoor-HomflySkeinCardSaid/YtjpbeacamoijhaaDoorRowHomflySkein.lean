/- The row of HomflySkein: for every input the law returns true, and its arguments read as they did; and the card, tied to the program's text. Conditions: none beyond the row's own. -/
import Derived.Test.YtjpbeacamoijhaaDoorZa
import Derived.Test.YtjpbeacamoijhaaDoorLh1
set_option linter.unusedSimpArgs false
set_option linter.unusedVariables false
namespace Go.Proofs.YtjpbeacamoijhaaDoor
set_option maxRecDepth 100000
open Go Go.Joins Go.ChangeShapes Go.WideShapes Go.ChangeAt Go.WideMaps Go.WideElems Go.RowKit
theorem yj5 (os:Os) (started:os.Started) (H:Type) (enc:TypeId×Value->H):
  ReturnsInHanded {} Tryd.checked os 3 .any (fun w args=>(Rows.homflySkeinSpec.pre enc Tryd.prog Tryd.f3 [] false w args/\laidMetH Tryd.prog yhi w)/\sizedMet enc Tryd.prog Tryd.f3 (OpenSpec.ofChange Rows.homflySkeinSpec) false w args)
   (Rows.homflySkeinSpec.post enc Tryd.prog Tryd.f3 false true false false):=by
 refine returnsInHanded_of_change_and (C:=Tryd.checked) (X:=fun w _=>laidMetH Tryd.prog yhi w) (fun _ _ _ hh h=>h.of_heap hh) own started (by kernel_rfl) Tryd.func3
  (ChangeSpec.witness_shaped (enc:=enc) (C:=Tryd.checked) (os:=os) (X:=fun w _=>laidMetH Tryd.prog yhi w) false (World.doorLaid Tryd.prog 400 os) #[.agg #[.slice none 0 0, .slice none 0 0, .int .i64 0], .int .u8 0] 8 rfl (World.shaped_of_RefB (by kernel_rfl) (by kernel_rfl)) (by kernel_rfl) (by kernel_rfl) (by kernel_rfl) (yq1 os _)) ?_
 intro W base args ds gs before hval0 hW _ hwt hL _
 have hval: ∀(j:Nat) t v,Tryd.f3.params[j]?=some t->args[j]?=some v->Value.okWide Tryd.prog W .any base t v:=hval0
 have hW':=hW
 obtain ⟨p,q,hA0,hV,rfl,hfz,hnd⟩:=hW
 have hA:DataW.TrodAll enc Tryd.prog W 0 (fun _=>true) true Tryd.f3.params.toList args.toList ds p:=hA0
 rw [Tryd.params3] at hA hval
 obtain ⟨v0,v1,d0,d1,p0,p1,rfl,rfl,rfl,h0,h1⟩:=trodAll_two hA
 obtain ⟨rfl,rfl⟩:=trodVars_none hV
 obtain ⟨s0,m0,L0,hv0⟩:=y3n (hval 0 24 v0 rfl rfl) h0
 obtain ⟨un1,ub1,hv1⟩:=y3o (hval 1 5 v1 rfl rfl) h1
 have hg:=yjp hL
 refine ((yol s0 m0 L0 un1 ub1).2 W (fun _=>False) [v0,v1] ⟨hg,fun _ h=>h.elim⟩ rfl fun i u x hu hx=>?_).mono ?_
 ·match i,hu,hx with
  |0,hu,hx=>simp at hu hx;subst hu hx;exact hv0
  |1,hu,hx=>simp at hu hx;subst hu hx;exact hv1
 ·rintro e W' ⟨v,rfl,hb,hv⟩
  obtain rfl:=hv.bool_inv
  exact ⟨_,rfl,yq0 hW' rfl (by rw [Tryd.params3];decide) (by kernel_rfl) rfl hb⟩
theorem homflySkein_row:Rows.HomflySkeinSaid:=
 OpenClaim.holds_of_wide 3 Tryd.f3 rfl rfl rfl rfl rfl rfl rfl ⟨rfl,rfl,rfl,rfl,rfl⟩ rfl rfl rfl rfl rfl (by kernel_rfl) Tryd.func3 (by kernel_rfl)
  (of_decide_eq_true (by kernel_rfl)) (by unfold Func.isWrapper;first|(rw [if_pos (by decide+kernel)];kernel_rfl)|(rw [if_neg (by decide+kernel)];exact ⟨rfl,rfl⟩))
  (fun os started H enc _=>yj5 os started H enc)
theorem homflySkein_holds:Rows.HomflySkeinCardSaid:=
 Claim7.holds_tied_plain_at .later [] [.data, .data, .data] true (true,Rows.homflySkeinCard.stood.harness.2) false
  homflySkein_row (fun _ h=>by cases h) (by kernel_rfl) (fun _ h=>by cases h) homflySkein_row_tie rfl ⟨rfl,rfl⟩ (by kernel_rfl) rfl
  (fun f fn hf hfn=>by
   obtain rfl:f=3:=Option.some.inj ((show Tryd.prog.funcNamed Rows.homflySkeinRow.func=some 3 by kernel_rfl).symm.trans hf)|>.symm
   obtain rfl:fn=Tryd.f3:=(Option.some.inj (Tryd.func3.symm.trans hfn)).symm
   exact ⟨by kernel_rfl,fun j t ht=>by
    rw [Tryd.params3] at ht
    have hm:=Array.mem_of_getElem? ht
    simp at hm
    rcases hm with rfl|rfl
    ·exact (show Tryd.prog.wantsStandIn 24=false by kernel_rfl)
    ·exact (show Tryd.prog.wantsStandIn 5=false by kernel_rfl)⟩)
  (by kernel_rfl)
end Go.Proofs.YtjpbeacamoijhaaDoor
