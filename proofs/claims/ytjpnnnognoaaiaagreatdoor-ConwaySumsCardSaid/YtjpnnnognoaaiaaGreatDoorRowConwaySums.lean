/- The row of ConwaySums: for every input the law returns true, and its arguments read as they did; and the card, tied to the program's text. Conditions: none beyond the row's own. -/
import Derived.Test.YtjpnnnognoaaiaaGreatDoorZa
import Derived.Test.YtjpnnnognoaaiaaGreatDoorLc2
set_option linter.unusedSimpArgs false
set_option linter.unusedVariables false
namespace Go.Proofs.YtjpnnnognoaaiaaGreatDoor
set_option maxRecDepth 100000
open Go Go.Joins Go.ChangeShapes Go.WideShapes Go.ChangeAt Go.WideMaps Go.WideElems Go.RowKit
theorem ykz (os:Os) (started:os.Started) (H:Type) (enc:TypeId×Value->H):
  ReturnsInHanded {} Tryz.checked os 5 .any (fun w args=>(Rows.conwaySumsSpec.pre enc Tryz.prog Tryz.f5 [] false w args/\laidMetH Tryz.prog ymv w)/\sizedMet enc Tryz.prog Tryz.f5 (OpenSpec.ofChange Rows.conwaySumsSpec) false w args)
   (Rows.conwaySumsSpec.post enc Tryz.prog Tryz.f5 false true false false):=by
 refine returnsInHanded_of_change_and (C:=Tryz.checked) (X:=fun w _=>laidMetH Tryz.prog ymv w) (fun _ _ _ hh h=>h.of_heap hh) own started (by kernel_rfl) Tryz.func5
  (ChangeSpec.witness_shaped (enc:=enc) (C:=Tryz.checked) (os:=os) (X:=fun w _=>laidMetH Tryz.prog ymv w) false (World.doorLaid Tryz.prog 400 os) #[.agg #[.slice none 0 0, .slice none 0 0, .int .i64 0], .int .i64 0, .agg #[.slice none 0 0, .slice none 0 0, .int .i64 0], .int .i64 0] 8 rfl (World.shaped_of_RefB (by kernel_rfl) (by kernel_rfl)) (by kernel_rfl) (by kernel_rfl) (by kernel_rfl) (y10 os _)) ?_
 intro W base args ds gs before hval0 hW _ hwt hL _
 have hval: ∀(j:Nat) t v,Tryz.f5.params[j]?=some t->args[j]?=some v->Value.okWide Tryz.prog W .any base t v:=hval0
 have hW':=hW
 obtain ⟨p,q,hA0,hV,rfl,hfz,hnd⟩:=hW
 have hA:DataW.TrodAll enc Tryz.prog W 0 (fun _=>true) true Tryz.f5.params.toList args.toList ds p:=hA0
 rw [Tryz.params5] at hA hval
 obtain ⟨v0,v1,v2,v3,d0,d1,d2,d3,p0,p1,p2,p3,rfl,rfl,rfl,h0,h1,h2,h3⟩:=trodAll_four hA
 obtain ⟨rfl,rfl⟩:=trodVars_none hV
 obtain ⟨s0,m0,L0,hv0,bs0,bm0⟩:=dg_w (hval 0 24 v0 rfl rfl) h0 (fun n hn=>by have:=List.all_eq_true.1 hwt _ (DataW.weights_mem_each (j:=0) rfl rfl n hn);simpa using this)
 obtain ⟨in1,hv1⟩:=yx8 (hval 1 3 v1 rfl rfl) h1
 obtain ⟨s2,m2,L2,hv2,bs2,bm2⟩:=dg_w (hval 2 24 v2 rfl rfl) h2 (fun n hn=>by have:=List.all_eq_true.1 hwt _ (DataW.weights_mem_each (j:=2) rfl rfl n hn);simpa using this)
 obtain ⟨in3,hv3⟩:=yx8 (hval 3 3 v3 rfl rfl) h3
 have hg:=yqo hL
 refine ((ypd s0 m0 L0 in1 s2 m2 L2 in3 bs0 bs2).2 W (fun _=>False) [v0,v1,v2,v3] ⟨hg,fun _ h=>h.elim⟩ rfl fun i u x hu hx=>?_).mono ?_
 ·match i,hu,hx with
  |0,hu,hx=>simp at hu hx;subst hu hx;exact hv0
  |1,hu,hx=>simp at hu hx;subst hu hx;exact hv1
  |2,hu,hx=>simp at hu hx;subst hu hx;exact hv2
  |3,hu,hx=>simp at hu hx;subst hu hx;exact hv3
 ·rintro e W' ⟨v,rfl,hb,hv⟩
  obtain rfl:=hv.bool_inv
  exact ⟨_,rfl,y1z hW' rfl (by rw [Tryz.params5];decide) (by kernel_rfl) rfl hb⟩
theorem conwaySums_row:Rows.ConwaySumsSaid:=
 OpenClaim.holds_of_wide 5 Tryz.f5 rfl rfl rfl rfl rfl rfl rfl ⟨rfl,rfl,rfl,rfl,rfl⟩ rfl rfl rfl rfl rfl (by kernel_rfl) Tryz.func5 (by kernel_rfl)
  (of_decide_eq_true (by kernel_rfl)) (by unfold Func.isWrapper;first|(rw [if_pos (by decide+kernel)];kernel_rfl)|(rw [if_neg (by decide+kernel)];exact ⟨rfl,rfl⟩))
  (fun os started H enc _=>ykz os started H enc)
theorem conwaySums_holds:Rows.ConwaySumsCardSaid:=
 Claim7.holds_tied_plain_at .later [] [.data, .data, .data] true (true,Rows.conwaySumsCard.stood.harness.2) false
  conwaySums_row (fun _ h=>by cases h) (by kernel_rfl) (fun _ h=>by cases h) conwaySums_row_tie rfl ⟨rfl,rfl⟩ (by kernel_rfl) rfl
  (fun f fn hf hfn=>by
   obtain rfl:f=5:=Option.some.inj ((show Tryz.prog.funcNamed Rows.conwaySumsRow.func=some 5 by kernel_rfl).symm.trans hf)|>.symm
   obtain rfl:fn=Tryz.f5:=(Option.some.inj (Tryz.func5.symm.trans hfn)).symm
   exact ⟨by kernel_rfl,fun j t ht=>by
    rw [Tryz.params5] at ht
    have hm:=Array.mem_of_getElem? ht
    simp at hm
    rcases hm with rfl|rfl|rfl|rfl
    ·exact (show Tryz.prog.wantsStandIn 24=false by kernel_rfl)
    ·exact (show Tryz.prog.wantsStandIn 3=false by kernel_rfl)
    ·exact (show Tryz.prog.wantsStandIn 24=false by kernel_rfl)
    ·exact (show Tryz.prog.wantsStandIn 3=false by kernel_rfl)⟩)
  (by kernel_rfl)
end Go.Proofs.YtjpnnnognoaaiaaGreatDoor
