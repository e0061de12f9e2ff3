/- Layer 17: the example of the chapter. -/
import Derived.Test.YtebdkebfkpbmpaaDoorTb1
import Derived.Test.YtebdkebfkpbmpaaDoorXn
import Derived.Test.YtebdkebfkpbmpaaDoorTx4
import Derived.Test.YtebdkebfkpbmpaaDoorXl
namespace Go.Proofs.YtebdkebfkpbmpaaDoor
open Go Go.RowKit
set_option maxRecDepth 100000
set_option maxHeartbeats 8000000
set_option linter.unusedVariables false
set_option linter.unusedSimpArgs false
theorem fn_Trefoil1 : Fn Tryd.prog 23 [] (dgA [1, 1, 1] [9, 4, 7, 10, 1, 8, 11, 2, 5, 0, 3, 6] 0) := by
  refine Fn.introL [.cell 0 24] Tryd.func23 rfl rfl (by decide) (by simp [Tryd.ntmps23]) ?_; rw [Tryd.ntmps23]
  repeat' (first | omega | ((try refine awC_sound _ _ _ _ ?_); simp only [go_sem, sevalprocAttr, ↓reduceIte, reduceCtorEq]) | (apply gspDI <;> (intro h_; (try simp only [h_]); revert h_)) | apply gspLI | apply condLI | apply gspI | apply And.intro | with_reducible intro h_ | trivial | (simp only [go_sem, List.length_append]; omega))
  all_goals exact LeA.refl _
theorem tr_valid : validB [1, 1, 1] [9, 4, 7, 10, 1, 8, 11, 2, 5, 0, 3, 6] 0 = true := by decide +kernel
theorem tr_ord : Fn Tryd.prog 7 [dgA [1, 1, 1] [9, 4, 7, 10, 1, 8, 11, 2, 5, 0, 3, 6] 0] (.ro 1 3 (.ints [0, 1, 2])) := by
  have h := fn_Order [1, 1, 1] [9, 4, 7, 10, 1, 8, 11, 2, 5, 0, 3, 6] 0 (by decide)
  rw [if_pos tr_valid, show orN [9, 4, 7, 10, 1, 8, 11, 2, 5, 0, 3, 6] ([1, 1, 1] : List Int).length ([1, 1, 1] : List Int).length = [0, 1, 2] by decide +kernel] at h
  exact h
theorem tr_wid : Fn Tryd.prog 8 [dgA [1, 1, 1] [9, 4, 7, 10, 1, 8, 11, 2, 5, 0, 3, 6] 0, .ro 1 3 (.ints [0, 1, 2])] (.tup [I 4, I 0]) := by
  have h := fn_Width [1, 1, 1] [9, 4, 7, 10, 1, 8, 11, 2, 5, 0, 3, 6] 0 [0, 1, 2] (by decide) (by decide)
  unfold widA at h
  rw [if_pos tr_valid, if_pos (by decide +kernel), show wdN [9, 4, 7, 10, 1, 8, 11, 2, 5, 0, 3, 6] [0, 1, 2] ([0, 1, 2] : List Int).length = 4 by decide +kernel] at h
  exact h
theorem tr_br : Fn Tryd.prog 14 [dgA [1, 1, 1] [9, 4, 7, 10, 1, 8, 11, 2, 5, 0, 3, 6] 0, .ro 1 3 (.ints [0, 1, 2])] (.tup [plA false [(-7, 1), (-3, -1), (5, -1)], I 0]) := by
  have h := fn_TrBracket [1, 1, 1] [9, 4, 7, 10, 1, 8, 11, 2, 5, 0, 3, 6] 0 [0, 1, 2] (by decide) (by decide) tr_valid (by decide +kernel) (by decide)
  rw [brP_of (s := [1, 1, 1]) (m := [9, 4, 7, 10, 1, 8, 11, 2, 5, 0, 3, 6]) (L := 0) tr_valid (by decide) (by decide) (p := [(-7, 1), (-3, -1), (5, -1)]) ⟨by decide, by decide⟩ 14 (by decide) (by decide) (by decide +kernel)] at h
  exact h
theorem tr_tx : Fn Tryd.prog 24 [plA false [(-7, 1), (-3, -1), (5, -1)], .str ⟨#[97]⟩] (.str ⟨#[97, 94, 45, 55, 45, 97, 94, 45, 51, 45, 97, 94, 53]⟩) := by
  have h := fn_Text [(-7, 1), (-3, -1), (5, -1)] ⟨#[97]⟩ (fun k hk => by
    match k, hk with
    | 0, _ => decide
    | 1, _ => decide
    | 2, _ => decide) (by decide) (by decide)
  rw [show (⟨#[97]⟩ : ByteArray).data.toList = [97] from rfl, show txtB [97] [(-7, 1), (-3, -1), (5, -1)] = [97, 94, 45, 55, 45, 97, 94, 45, 51, 45, 97, 94, 53] by decide +kernel] at h
  exact h
theorem fn_awake17 : Fn Tryd.prog 6 [] (.bool true) := by
  have hT := fn_Trefoil1
  have hO := tr_ord
  have hW := tr_wid
  have hB := tr_br
  have hX := tr_tx
  have hI := fn_rInts [0, 1, 2] [0, 1, 2] (by decide)
  rw [show decide (([0, 1, 2] : List Int) = [0, 1, 2]) = true from rfl] at hI
  refine Fn.introL [.tmp 0] Tryd.func6 rfl rfl (by decide) (by simp [Tryd.ntmps6]) ?_; rw [Tryd.ntmps6]
  repeat' (first | omega | ((try refine awC_sound _ _ _ _ ?_); simp only [go_sem, sevalprocAttr, ↓reduceIte, reduceCtorEq]) | (apply gspDI <;> (intro h_; (try simp only [h_]); revert h_)) | apply gspLI | apply condLI | apply gspI | apply And.intro | with_reducible intro h_ | trivial | (simp only [go_sem, List.length_append]; omega))
  refine ⟨CallB.fn rfl hT ?_⟩
  repeat' (first | omega | ((try refine awC_sound _ _ _ _ ?_); simp only [go_sem, sevalprocAttr, ↓reduceIte, reduceCtorEq]) | (apply gspDI <;> (intro h_; (try simp only [h_]); revert h_)) | apply gspLI | apply condLI | apply gspI | apply And.intro | with_reducible intro h_ | trivial | (simp only [go_sem, List.length_append]; omega))
  refine ⟨CallB.fn rfl hO ?_⟩
  repeat' (first | omega | ((try refine awC_sound _ _ _ _ ?_); simp only [go_sem, sevalprocAttr, ↓reduceIte, reduceCtorEq]) | (apply gspDI <;> (intro h_; (try simp only [h_]); revert h_)) | apply gspLI | apply condLI | apply gspI | apply And.intro | with_reducible intro h_ | trivial | (simp only [go_sem, List.length_append]; omega))
  refine ⟨CallB.fn rfl hT ?_⟩
  repeat' (first | omega | ((try refine awC_sound _ _ _ _ ?_); simp only [go_sem, sevalprocAttr, ↓reduceIte, reduceCtorEq]) | (apply gspDI <;> (intro h_; (try simp only [h_]); revert h_)) | apply gspLI | apply condLI | apply gspI | apply And.intro | with_reducible intro h_ | trivial | (simp only [go_sem, List.length_append]; omega))
  refine ⟨CallB.fn rfl hW ?_⟩
  repeat' (first | omega | ((try refine awC_sound _ _ _ _ ?_); simp only [go_sem, sevalprocAttr, ↓reduceIte, reduceCtorEq]) | (apply gspDI <;> (intro h_; (try simp only [h_]); revert h_)) | apply gspLI | apply condLI | apply gspI | apply And.intro | with_reducible intro h_ | trivial | (simp only [go_sem, List.length_append]; omega))
  refine ⟨CallB.fn rfl hT ?_⟩
  repeat' (first | omega | ((try refine awC_sound _ _ _ _ ?_); simp only [go_sem, sevalprocAttr, ↓reduceIte, reduceCtorEq]) | (apply gspDI <;> (intro h_; (try simp only [h_]); revert h_)) | apply gspLI | apply condLI | apply gspI | apply And.intro | with_reducible intro h_ | trivial | (simp only [go_sem, List.length_append]; omega))
  refine ⟨CallB.fn rfl hB ?_⟩
  repeat' (first | omega | ((try refine awC_sound _ _ _ _ ?_); simp only [go_sem, sevalprocAttr, ↓reduceIte, reduceCtorEq]) | (apply gspDI <;> (intro h_; (try simp only [h_]); revert h_)) | apply gspLI | apply condLI | apply gspI | apply And.intro | with_reducible intro h_ | trivial | (simp only [go_sem, List.length_append]; omega))
  refine ⟨CallB.frz [1] rfl (by simp only [go_sem, sevalprocAttr, ↓reduceIte, reduceCtorEq, Nat.le_refl]) (by simp only [go_sem, sevalprocAttr, ↓reduceIte, reduceCtorEq, Nat.le_refl]) (by simp only [go_sem, sevalprocAttr, ↓reduceIte, reduceCtorEq, Nat.le_refl]) (by simp only [go_sem, sevalprocAttr, ↓reduceIte, reduceCtorEq, Nat.le_refl]) rfl rfl rfl (CallB.fn rfl hI ?_)⟩
  repeat' (first | omega | ((try refine awC_sound _ _ _ _ ?_); simp only [go_sem, sevalprocAttr, ↓reduceIte, reduceCtorEq]) | (apply gspDI <;> (intro h_; (try simp only [h_]); revert h_)) | apply gspLI | apply condLI | apply gspI | apply And.intro | with_reducible intro h_ | trivial | (simp only [go_sem, List.length_append]; omega))
  refine ⟨CallB.fn rfl hX ?_⟩
  repeat' (first | omega | ((try refine awC_sound _ _ _ _ ?_); simp only [go_sem, sevalprocAttr, ↓reduceIte, reduceCtorEq]) | (apply gspDI <;> (intro h_; (try simp only [h_]); revert h_)) | apply gspLI | apply condLI | apply gspI | apply And.intro | with_reducible intro h_ | trivial | (simp only [go_sem, List.length_append]; omega))
  all_goals exact LeA.refl _
end Go.Proofs.YtebdkebfkpbmpaaDoor
