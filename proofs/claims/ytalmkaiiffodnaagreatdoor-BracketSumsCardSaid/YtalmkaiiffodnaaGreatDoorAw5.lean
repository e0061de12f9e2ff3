/- Layer 15: the examples of the chapter. -/
import Derived.Test.YtalmkaiiffodnaaGreatDoorBr9
import Derived.Test.YtalmkaiiffodnaaGreatDoorTx4
set_option linter.unusedSimpArgs false
set_option linter.unusedVariables false
namespace Go.Proofs.YtalmkaiiffodnaaGreatDoor
open Go Go.RowKit
set_option maxRecDepth 100000
set_option maxHeartbeats 8000000
theorem fn_trefoil15 : Fn Tryz.prog 22 [] (dgA [1, 1, 1] [9, 4, 7, 10, 1, 8, 11, 2, 5, 0, 3, 6] 0) := by
  refine Fn.introL [.cell 0 24] Tryz.func22 rfl rfl (by decide) (by simp [Tryz.ntmps22]) ?_; rw [Tryz.ntmps22]
  repeat' (first | omega | ((first | refine awC_sound _ _ _ _ ?_ | skip); simp only [go_sem, sevalprocAttr, ↓reduceIte, reduceCtorEq]) | (refine gspDI ?_ ?_ <;> (intro _hh; (try simp only [_hh]); revert _hh)) | refine gspLI ?_ ?_ | refine condLI ?_ ?_ | refine gspI ?_ ?_ | refine And.intro ?_ ?_ | with_reducible intro _hh | trivial | (simp only [cl1, cl2, cl3, List.length_cons, List.length_nil, List.length_append]; omega))
  all_goals exact LeA.refl _
theorem fn_T1 : Fn Tryz.prog 11 [plA false [(3, -1)], .str ⟨#[65]⟩] (.str ⟨#[45, 65, 94, 51]⟩) := by
  have h := fn_Text [(3, -1)] ⟨#[65]⟩ (fun k hk => by
    match k, hk with
    | 0, _ => decide) (by decide) (by decide)
  rw [show (⟨#[65]⟩ : ByteArray).data.toList = [65] from rfl, show txtB [65] [(3, -1)] = [45, 65, 94, 51] by decide +kernel] at h
  exact h
theorem fn_T3 : Fn Tryz.prog 11 [plA false [(-7, 1), (-3, -1), (5, -1)], .str ⟨#[65]⟩] (.str ⟨#[65, 94, 45, 55, 45, 65, 94, 45, 51, 45, 65, 94, 53]⟩) := by
  have h := fn_Text [(-7, 1), (-3, -1), (5, -1)] ⟨#[65]⟩ (fun k hk => by
    match k, hk with
    | 0, _ => decide
    | 1, _ => decide
    | 2, _ => decide) (by decide) (by decide)
  rw [show (⟨#[65]⟩ : ByteArray).data.toList = [65] from rfl, show txtB [65] [(-7, 1), (-3, -1), (5, -1)] = [65, 94, 45, 55, 45, 65, 94, 45, 51, 45, 65, 94, 53] by decide +kernel] at h
  exact h
theorem fn_awake15 : Fn Tryz.prog 5 [] (.bool true) := by
  have h1 := ex1_br
  have h3 := ex3_br
  refine Fn.introL [.tmp 0] Tryz.func5 rfl rfl (by decide) (by simp [Tryz.ntmps5]) ?_; rw [Tryz.ntmps5]
  repeat' (first | omega | ((first | refine awC_sound _ _ _ _ ?_ | skip); simp only [go_sem, sevalprocAttr, ↓reduceIte, reduceCtorEq]) | (refine gspDI ?_ ?_ <;> (intro _hh; (try simp only [_hh]); revert _hh)) | refine gspLI ?_ ?_ | refine condLI ?_ ?_ | refine gspI ?_ ?_ | refine And.intro ?_ ?_ | with_reducible intro _hh | trivial | (simp only [cl1, cl2, cl3, List.length_cons, List.length_nil, List.length_append]; omega))
  refine ⟨CallB.frz [0, 1] rfl (by simp only [go_sem, sevalprocAttr, ↓reduceIte, reduceCtorEq]) (by simp only [go_sem, sevalprocAttr, ↓reduceIte, reduceCtorEq]) (by simp only [go_sem, sevalprocAttr, ↓reduceIte, reduceCtorEq]) (by simp only [go_sem, sevalprocAttr, ↓reduceIte, reduceCtorEq]) rfl rfl rfl (CallB.fn rfl h1 ?_)⟩
  repeat' (first | omega | ((first | refine awC_sound _ _ _ _ ?_ | skip); simp only [go_sem, sevalprocAttr, ↓reduceIte, reduceCtorEq]) | (refine gspDI ?_ ?_ <;> (intro _hh; (try simp only [_hh]); revert _hh)) | refine gspLI ?_ ?_ | refine condLI ?_ ?_ | refine gspI ?_ ?_ | refine And.intro ?_ ?_ | with_reducible intro _hh | trivial | (simp only [cl1, cl2, cl3, List.length_cons, List.length_nil, List.length_append]; omega))
  refine ⟨CallB.fn rfl fn_trefoil15 ?_⟩
  repeat' (first | omega | ((first | refine awC_sound _ _ _ _ ?_ | skip); simp only [go_sem, sevalprocAttr, ↓reduceIte, reduceCtorEq]) | (refine gspDI ?_ ?_ <;> (intro _hh; (try simp only [_hh]); revert _hh)) | refine gspLI ?_ ?_ | refine condLI ?_ ?_ | refine gspI ?_ ?_ | refine And.intro ?_ ?_ | with_reducible intro _hh | trivial | (simp only [cl1, cl2, cl3, List.length_cons, List.length_nil, List.length_append]; omega))
  refine ⟨CallB.fn rfl h3 ?_⟩
  repeat' (first | omega | ((first | refine awC_sound _ _ _ _ ?_ | skip); simp only [go_sem, sevalprocAttr, ↓reduceIte, reduceCtorEq]) | (refine gspDI ?_ ?_ <;> (intro _hh; (try simp only [_hh]); revert _hh)) | refine gspLI ?_ ?_ | refine condLI ?_ ?_ | refine gspI ?_ ?_ | refine And.intro ?_ ?_ | with_reducible intro _hh | trivial | (simp only [cl1, cl2, cl3, List.length_cons, List.length_nil, List.length_append]; omega))
  refine ⟨CallB.fn rfl fn_T1 ?_⟩
  repeat' (first | omega | ((first | refine awC_sound _ _ _ _ ?_ | skip); simp only [go_sem, sevalprocAttr, ↓reduceIte, reduceCtorEq]) | (refine gspDI ?_ ?_ <;> (intro _hh; (try simp only [_hh]); revert _hh)) | refine gspLI ?_ ?_ | refine condLI ?_ ?_ | refine gspI ?_ ?_ | refine And.intro ?_ ?_ | with_reducible intro _hh | trivial | (simp only [cl1, cl2, cl3, List.length_cons, List.length_nil, List.length_append]; omega))
  refine ⟨CallB.fn rfl fn_T3 ?_⟩
  repeat' (first | omega | ((first | refine awC_sound _ _ _ _ ?_ | skip); simp only [go_sem, sevalprocAttr, ↓reduceIte, reduceCtorEq]) | (refine gspDI ?_ ?_ <;> (intro _hh; (try simp only [_hh]); revert _hh)) | refine gspLI ?_ ?_ | refine condLI ?_ ?_ | refine gspI ?_ ?_ | refine And.intro ?_ ?_ | with_reducible intro _hh | trivial | (simp only [cl1, cl2, cl3, List.length_cons, List.length_nil, List.length_append]; omega))
  all_goals exact LeA.refl _
end Go.Proofs.YtalmkaiiffodnaaGreatDoor
