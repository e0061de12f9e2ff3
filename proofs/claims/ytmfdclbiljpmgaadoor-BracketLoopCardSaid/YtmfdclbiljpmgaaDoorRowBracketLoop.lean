/- The row of BracketLoop: for every input the law returns true, and its arguments read as they did; and the card, tied to the program's text. Conditions: none beyond the row's own. -/
import Derived.Test.YtmfdclbiljpmgaaDoorRw2
import Derived.Test.YtmfdclbiljpmgaaDoorRw3
import Derived.Test.YtmfdclbiljpmgaaDoorBl1
set_option linter.unusedSimpArgs false
set_option linter.unusedVariables false
namespace Go.Proofs.YtmfdclbiljpmgaaDoor
set_option maxRecDepth 100000
open Go Go.Joins Go.ChangeShapes Go.WideShapes Go.ChangeAt Go.WideMaps Go.WideElems Go.RowKit

theorem bracketLoop_lifted (os : Os) (started : os.Started) (H : Type) (enc : TypeId × Value → H) :
    ReturnsInHanded {} Tryd.checked os 3 .any (fun w args => (Rows.bracketLoopSpec.pre enc Tryd.prog Tryd.f3 [] false w args ∧ laidMetH Tryd.prog laid3 w) ∧ sizedMet enc Tryd.prog Tryd.f3 (OpenSpec.ofChange Rows.bracketLoopSpec) false w args)
      (Rows.bracketLoopSpec.post enc Tryd.prog Tryd.f3 false true false false) := by
  refine returnsInHanded_of_change_and (C := Tryd.checked) (X := fun w _ => laidMetH Tryd.prog laid3 w) (fun _ _ _ hh h => h.of_heap hh) own started (by kernel_rfl) Tryd.func3
    (ChangeSpec.witness_shaped (enc := enc) (C := Tryd.checked) (os := os) (X := fun w _ => laidMetH Tryd.prog laid3 w) false (World.doorLaid Tryd.prog 400 os) #[.agg #[.slice none 0 0, .slice none 0 0, .int .i64 0], .agg #[.slice none 0 0, .slice none 0 0, .int .i64 0]] 8 rfl (World.shaped_of_RefB (by kernel_rfl) (by kernel_rfl)) (by kernel_rfl) (by kernel_rfl) (by kernel_rfl) (door_met os _)) ?_
  intro W base args ds gs before hval0 hW _ hwt hL _
  have hval : ∀ (j : Nat) t v, Tryd.f3.params[j]? = some t → args[j]? = some v → Value.okWide Tryd.prog W .any base t v := hval0
  have hW' := hW
  obtain ⟨p, q, hA0, hV, rfl, hfz, hnd⟩ := hW
  have hA : DataW.TrodAll enc Tryd.prog W 0 (fun _ => true) true Tryd.f3.params.toList args.toList ds p := hA0
  rw [Tryd.params3] at hA hval
  obtain ⟨v0, v1, d0, d1, p0, p1, rfl, rfl, rfl, h0, h1⟩ := trodAll_two hA
  obtain ⟨rfl, rfl⟩ := trodVars_none hV
  obtain ⟨s0, m0, L0, hv0, bs0, bm0⟩ := dg_w (hval 0 24 v0 rfl rfl) h0 (fun n hn => by have := List.all_eq_true.1 hwt _ (DataW.weights_mem_each (j := 0) rfl rfl n hn); simpa using this)
  obtain ⟨s1, m1, L1, hv1, bs1, bm1⟩ := dg_w (hval 1 24 v1 rfl rfl) h1 (fun n hn => by have := List.all_eq_true.1 hwt _ (DataW.weights_mem_each (j := 1) rfl rfl n hn); simpa using this)
  have hg := good_of_laid hL
  refine ((fn_BracketLoop s0 m0 L0 s1 m1 L1 bs0 bs1).2 W (fun _ => False) [v0, v1] ⟨hg, fun _ h => h.elim⟩ rfl fun i u x hu hx => ?_).mono ?_
  · match i, hu, hx with
    | 0, hu, hx => simp at hu hx; subst hu hx; exact hv0
    | 1, hu, hx => simp at hu hx; subst hu hx; exact hv1
  · rintro e W' ⟨v, rfl, hb, hv⟩
    obtain rfl := hv.bool_inv
    exact ⟨_, rfl, post_law hW' rfl (by rw [Tryd.params3]; decide) (by kernel_rfl) rfl hb⟩
theorem bracketLoop_row : Rows.BracketLoopSaid :=
  OpenClaim.holds_of_wide 3 Tryd.f3 rfl rfl rfl rfl rfl rfl rfl ⟨rfl, rfl, rfl, rfl, rfl⟩ rfl rfl rfl rfl rfl (by kernel_rfl) Tryd.func3 (by kernel_rfl)
    (of_decide_eq_true (by kernel_rfl)) (by unfold Func.isWrapper; first | (rw [if_pos (by decide +kernel)]; kernel_rfl) | (rw [if_neg (by decide +kernel)]; exact ⟨rfl, rfl⟩))
    (fun os started H enc _ => bracketLoop_lifted os started H enc)
theorem bracketLoop_holds : Rows.BracketLoopCardSaid :=
  Claim7.holds_tied_plain_at .later [] [.data, .data, .data] true (true, Rows.bracketLoopCard.stood.harness.2) false
    bracketLoop_row (fun _ h => by cases h) (by kernel_rfl) (fun _ h => by cases h) bracketLoop_row_tie rfl ⟨rfl, rfl⟩ (by kernel_rfl) rfl
    (fun f fn hf hfn => by
      obtain rfl : f = 3 := Option.some.inj ((show Tryd.prog.funcNamed Rows.bracketLoopRow.func = some 3 by kernel_rfl).symm.trans hf) |>.symm
      obtain rfl : fn = Tryd.f3 := (Option.some.inj (Tryd.func3.symm.trans hfn)).symm
      exact ⟨by kernel_rfl, fun j t ht => by
        rw [Tryd.params3] at ht
        have hm := Array.mem_of_getElem? ht
        simp at hm
        subst hm
        exact (show Tryd.prog.wantsStandIn 24 = false by kernel_rfl)⟩)
    (by kernel_rfl)
end Go.Proofs.YtmfdclbiljpmgaaDoor
