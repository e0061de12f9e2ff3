/- The row of TransferAny: for every input the law returns true, and its arguments read as they did; and the card, tied to the program's text. Conditions: none beyond the row's own. -/
import Derived.Test.YtphjphpmfflfpaaDoorZa
import Derived.Test.YtphjphpmfflfpaaDoorZw
set_option linter.unusedSimpArgs false
set_option linter.unusedVariables false
namespace Go.Proofs.YtphjphpmfflfpaaDoor
set_option maxRecDepth 100000
open Go Go.Joins Go.ChangeShapes Go.WideShapes Go.ChangeAt Go.WideMaps Go.WideElems Go.RowKit
theorem yjb (os:Os) (started:os.Started) (H:Type) (enc:TypeId×Value->H):
  ReturnsInHanded {} Tryd.checked os 4 .any (fun w args=>(Rows.transferAnySpec.pre enc Tryd.prog Tryd.f4 [] false w args/\laidMetH Tryd.prog ymn w)/\sizedMet enc Tryd.prog Tryd.f4 (OpenSpec.ofChange Rows.transferAnySpec) false w args)
   (Rows.transferAnySpec.post enc Tryd.prog Tryd.f4 false true false false):=by
 refine returnsInHanded_of_change_and (C:=Tryd.checked) (X:=fun w _=>laidMetH Tryd.prog ymn w) (fun _ _ _ hh h=>h.of_heap hh) own started (by kernel_rfl) Tryd.func4
  (ChangeSpec.witness_shaped (enc:=enc) (C:=Tryd.checked) (os:=os) (X:=fun w _=>laidMetH Tryd.prog ymn w) false (World.doorLaid Tryd.prog 400 os) #[.agg #[.slice none 0 0, .slice none 0 0, .int .i64 0], .slice none 0 0, .slice none 0 0] 8 rfl (World.shaped_of_RefB (by kernel_rfl) (by kernel_rfl)) (by kernel_rfl) (by kernel_rfl) (by kernel_rfl) (y1k os _)) ?_
 intro W base args ds gs before hval0 hW _ hwt hL _
 have hval: ∀(j:Nat) t v,Tryd.f4.params[j]?=some t->args[j]?=some v->Value.okWide Tryd.prog W .any base t v:=hval0
 have hW':=hW
 obtain ⟨p,q,hA0,hV,rfl,hfz,hnd⟩:=hW
 have hA:DataW.TrodAll enc Tryd.prog W 0 (fun _=>true) true Tryd.f4.params.toList args.toList ds p:=hA0
 rw [Tryd.params4] at hA hval
 obtain ⟨v0,v1,v2,d0,d1,d2,p0,p1,p2,rfl,rfl,rfl,h0,h1,h2⟩:=trodAll_three hA
 obtain ⟨rfl,rfl⟩:=trodVars_none hV
 obtain ⟨s0,m0,L0,hv0⟩:=y8x (hval 0 31 v0 rfl rfl) h0
 obtain ⟨il1,hv1⟩:=yx2 (hval 1 29 v1 rfl rfl) h1
 obtain ⟨il2,hv2⟩:=yx2 (hval 2 29 v2 rfl rfl) h2
 have hg:=yqo hL
 refine ((yoh s0 m0 L0 il1 il2).2 W (fun _=>False) [v0,v1,v2] ⟨hg,fun _ h=>h.elim⟩ rfl fun i u x hu hx=>?_).mono ?_
 ·match i,hu,hx with
  |0,hu,hx=>simp at hu hx;subst hu hx;exact hv0
  |1,hu,hx=>simp at hu hx;subst hu hx;exact hv1
  |2,hu,hx=>simp at hu hx;subst hu hx;exact hv2
 ·rintro e W' ⟨v,rfl,hb,hv⟩
  obtain rfl:=hv.bool_inv
  exact ⟨_,rfl,y1j hW' rfl (by rw [Tryd.params4];decide) (by kernel_rfl) rfl hb⟩
theorem transferAny_row:Rows.TransferAnySaid:=
 OpenClaim.holds_of_wide 4 Tryd.f4 rfl rfl rfl rfl rfl rfl rfl ⟨rfl,rfl,rfl,rfl,rfl⟩ rfl rfl rfl rfl rfl (by kernel_rfl) Tryd.func4 (by kernel_rfl)
  (of_decide_eq_true (by kernel_rfl)) (by unfold Func.isWrapper;first|(rw [if_pos (by decide+kernel)];kernel_rfl)|(rw [if_neg (by decide+kernel)];exact ⟨rfl,rfl⟩))
  (fun os started H enc _=>yjb os started H enc)
theorem transferAny_holds:Rows.TransferAnyCardSaid:=
 Claim7.holds_tied_plain_at .later [] [.data, .data, .data] true (true,Rows.transferAnyCard.stood.harness.2) false
  transferAny_row (fun _ h=>by cases h) (by kernel_rfl) (fun _ h=>by cases h) transferAny_row_tie rfl ⟨rfl,rfl⟩ (by kernel_rfl) rfl
  (fun f fn hf hfn=>by
   obtain rfl:f=4:=Option.some.inj ((show Tryd.prog.funcNamed Rows.transferAnyRow.func=some 4 by kernel_rfl).symm.trans hf)|>.symm
   obtain rfl:fn=Tryd.f4:=(Option.some.inj (Tryd.func4.symm.trans hfn)).symm
   exact ⟨by kernel_rfl,fun j t ht=>by
    rw [Tryd.params4] at ht
    have hm:=Array.mem_of_getElem? ht
    simp at hm
    rcases hm with rfl|rfl
    ·exact (show Tryd.prog.wantsStandIn 31=false by kernel_rfl)
    ·exact (show Tryd.prog.wantsStandIn 29=false by kernel_rfl)⟩)
  (by kernel_rfl)
end Go.Proofs.YtphjphpmfflfpaaDoor
