/- The row, and the card. -/
import Derived.Test.YthohfoombimbeaaGreatDoorLb3
set_option linter.unusedSimpArgs false
set_option linter.unusedVariables false
namespace Go.Proofs.YthohfoombimbeaaGreatDoor
set_option maxRecDepth 99999
open Go Go.Joins Go.ChangeShapes Go.WideShapes Go.ChangeAt Go.WideMaps Go.WideElems Go.RowKit
theorem yi3(os:Os)(started:os.Started)(H:Type)(enc:TypeId×Value->H):
  ReturnsInHanded {} Tryz.checked os 3 .any (fun w args=>(Rows.bracketMovesSpec.pre enc Tryz.prog Tryz.f3 [] false w args/\laidMetH Tryz.prog ynn w)/\sizedMet enc Tryz.prog Tryz.f3 (OpenSpec.ofChange Rows.bracketMovesSpec) false w args)
   (Rows.bracketMovesSpec.post enc Tryz.prog Tryz.f3 false true false false):=by
 refine returnsInHanded_of_change_and (C:=Tryz.checked) (X:=fun w _=>laidMetH Tryz.prog ynn w) (fun _ _ _ hh h=>h.of_heap hh) own started (by kernel_rfl) Tryz.func3
  (ChangeSpec.witness_shaped (enc:=enc) (C:=Tryz.checked) (os:=os) (X:=fun w _=>laidMetH Tryz.prog ynn w) false (World.doorLaid Tryz.prog 400 os) #[.agg #[.slice none 0 0,.slice none 0 0,.int .i64 0],.agg #[.int .i64 0,.int .i64 0,.int .i64 0,.int .i64 0,.bool false]] 8 rfl (World.shaped_of_RefB (by kernel_rfl) (by kernel_rfl)) (by kernel_rfl) (by kernel_rfl) (by kernel_rfl) (y27 os _)) ?_
 intro W base args ds gs before hval0 hW _ hwt hL _;have hval:∀(j:Nat) t v,Tryz.f3.params[j]?=some t->args[j]?=some v->Value.okWide Tryz.prog W .any base t v:=hval0;have hW':=hW;obtain⟨p,q,hA0,hV,rfl,hfz,hnd⟩:=hW;have hA:DataW.TrodAll enc Tryz.prog W 0 (fun _=>true) true Tryz.f3.params.toList args.toList ds p:=hA0;rw[Tryz.params3]at hA hval
 obtain⟨v0,v1,d0,d1,p0,p1,rfl,rfl,rfl,h0,h1⟩:=trodAll_two hA;obtain⟨rfl,rfl⟩:=trodVars_none hV;obtain⟨s0,m0,L0,hv0⟩:=dg_VR (hval 0 24 v0 rfl rfl) h0;obtain⟨k1,x1,y1,g1,b1,hv1⟩:=mv_VR (hval 1 26 v1 rfl rfl) h1;have hg:=yrx hL;refine((yof s0 m0 L0 k1 x1 y1 g1 b1).2 W (fun _=>False) [v0,v1] ⟨hg,fun _ h=>h.elim⟩ rfl fun i u x hu hx=>?_).mono ?_
 ·match i,hu,hx with
  |0,hu,hx=>simp at hu hx;subst hu hx;exact hv0
  |1,hu,hx=>simp at hu hx;subst hu hx;exact hv1
 ·rintro e W' ⟨v,rfl,hb,hv⟩;obtain rfl:=hv.bool_inv;exact⟨_,rfl,y26 hW' rfl (by rw[Tryz.params3];decide) (by kernel_rfl) rfl hb⟩
theorem bracketMoves_row:Rows.BracketMovesSaid:=
 OpenClaim.holds_of_wide 3 Tryz.f3 rfl rfl rfl rfl rfl rfl rfl ⟨rfl,rfl,rfl,rfl,rfl⟩ rfl rfl rfl rfl rfl (by kernel_rfl) Tryz.func3 (by kernel_rfl)
  (of_decide_eq_true (by kernel_rfl)) (by unfold Func.isWrapper;first|(rw[zM (by decide+kernel)];kernel_rfl)|(rw[zL (by decide+kernel)];exact⟨rfl,rfl⟩))
  (fun os started H enc _=>yi3 os started H enc)
theorem bracketMoves_holds:Rows.BracketMovesCardSaid:=
 Claim7.holds_tied_plain_at .later [] [.data,.data,.data] true (true,Rows.bracketMovesCard.stood.harness.2) false
  bracketMoves_row (fun _ h=>by cases h) (by kernel_rfl) (fun _ h=>by cases h) bracketMoves_row_tie rfl ⟨rfl,rfl⟩ (by kernel_rfl) rfl
  (fun f fn hf hfn=>by
   obtain rfl:f=3:=Option.some.inj ((show Tryz.prog.funcNamed Rows.bracketMovesRow.func=some 3 by kernel_rfl).symm.trans hf)|>.symm;obtain rfl:fn=Tryz.f3:=(Option.some.inj (Tryz.func3.symm.trans hfn)).symm;exact⟨by kernel_rfl,fun j t ht=>by
    rw[Tryz.params3]at ht;have hm:=Array.mem_of_getElem? ht;simp at hm;rcases hm with rfl|rfl
    ·exact(show Tryz.prog.wantsStandIn 24=false by kernel_rfl)
    ·exact(show Tryz.prog.wantsStandIn 26=false by kernel_rfl)⟩)
  (by kernel_rfl)
end Go.Proofs.YthohfoombimbeaaGreatDoor
