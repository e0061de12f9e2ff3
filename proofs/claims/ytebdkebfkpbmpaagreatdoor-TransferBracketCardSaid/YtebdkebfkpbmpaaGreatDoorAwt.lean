/- Layer 17: the example of the chapter. -/
import Derived.Test.YtebdkebfkpbmpaaGreatDoorTb1
import Derived.Test.YtebdkebfkpbmpaaGreatDoorXn
import Derived.Test.YtebdkebfkpbmpaaGreatDoorTx4
import Derived.Test.YtebdkebfkpbmpaaGreatDoorXl
namespace Go.Proofs.YtebdkebfkpbmpaaGreatDoor
open Go Go.RowKit
set_option maxRecDepth 100000
set_option maxHeartbeats 8000000
set_option linter.unusedVariables false
set_option linter.unusedSimpArgs false
theorem ys4 : Fn Tryz.prog 41 [] (dgA [1, 1, 1] [9, 4, 7, 10, 1, 8, 11, 2, 5, 0, 3, 6] 0) := by
 refine Fn.introL [.cell 0 24] Tryz.func41 rfl rfl (by decide) (by simp [Tryz.ntmps41]) ?_; rw [Tryz.ntmps41]
 repeat' (first | omega | ((try apply yaa); simp only [go_sem, sevalprocAttr]) | (apply yad <;> (intro h_; (try simp only [h_]); revert h_)) | apply yac | apply yab | apply gspI | apply And.intro | with_reducible intro h_ | trivial | (simp only [go_sem, la2]; omega))
 all_goals exact LeA.refl _
theorem yid : ya3 [1, 1, 1] [9, 4, 7, 10, 1, 8, 11, 2, 5, 0, 3, 6] 0 = true := by decide +kernel
theorem y9a : Fn Tryz.prog 40 [dgA [1, 1, 1] [9, 4, 7, 10, 1, 8, 11, 2, 5, 0, 3, 6] 0] (.ro 1 3 (.ints [0, 1, 2])) := by
 have h := y20 [1, 1, 1] [9, 4, 7, 10, 1, 8, 11, 2, 5, 0, 3, 6] 0 (by decide)
 rw [if_pos yid, show orN [9, 4, 7, 10, 1, 8, 11, 2, 5, 0, 3, 6] ([1, 1, 1] : List Int).length ([1, 1, 1] : List Int).length = [0, 1, 2] by decide +kernel] at h
 exact h
theorem y9b : Fn Tryz.prog 42 [dgA [1, 1, 1] [9, 4, 7, 10, 1, 8, 11, 2, 5, 0, 3, 6] 0, .ro 1 3 (.ints [0, 1, 2])] (.tup [I 4, I 0]) := by
 have h := yf7 [1, 1, 1] [9, 4, 7, 10, 1, 8, 11, 2, 5, 0, 3, 6] 0 [0, 1, 2] (by decide) (by decide)
 unfold widA at h
 rw [if_pos yid, if_pos (by decide +kernel), show wdN [9, 4, 7, 10, 1, 8, 11, 2, 5, 0, 3, 6] [0, 1, 2] ([0, 1, 2] : List Int).length = 4 by decide +kernel] at h
 exact h
theorem tr_br : Fn Tryz.prog 9 [dgA [1, 1, 1] [9, 4, 7, 10, 1, 8, 11, 2, 5, 0, 3, 6] 0, .ro 1 3 (.ints [0, 1, 2])] (.tup [plA false [(-7, 1), (-3, -1), (5, -1)], I 0]) := by
 have h := yi8 [1, 1, 1] [9, 4, 7, 10, 1, 8, 11, 2, 5, 0, 3, 6] 0 [0, 1, 2] (by decide) (by decide) yid (by decide +kernel) (by decide)
 rw [y87 (s := [1, 1, 1]) (m := [9, 4, 7, 10, 1, 8, 11, 2, 5, 0, 3, 6]) (L := 0) yid (by decide) (by decide) (p := [(-7, 1), (-3, -1), (5, -1)]) ⟨by decide, by decide⟩ 14 (by decide) (by decide) (by decide +kernel)] at h
 exact h
theorem tr_tx : Fn Tryz.prog 13 [plA false [(-7, 1), (-3, -1), (5, -1)], .str ⟨#[97]⟩] (.str ⟨#[97, 94, 45, 55, 45, 97, 94, 45, 51, 45, 97, 94, 53]⟩) := by
 have h := yux [(-7, 1), (-3, -1), (5, -1)] ⟨#[97]⟩ (fun k hk => by
  match k, hk with
  | 0, _ => decide
  | 1, _ => decide
  | 2, _ => decide) (by decide) (by decide)
 rw [show (⟨#[97]⟩ : ByteArray).data.toList = [97] from rfl, show txtB [97] [(-7, 1), (-3, -1), (5, -1)] = [97, 94, 45, 55, 45, 97, 94, 45, 51, 45, 97, 94, 53] by decide +kernel] at h
 exact h
theorem ywd : Fn Tryz.prog 8 [] (.bool true) := by
 have hT := ys4
 have hO := y9a
 have hW := y9b
 have hB := tr_br
 have hX := tr_tx
 have hI := y27 [0, 1, 2] [0, 1, 2] (by decide)
 rw [show decide (([0, 1, 2] : List Int) = [0, 1, 2]) = true from rfl] at hI
 refine Fn.introL [.tmp 0] Tryz.func8 rfl rfl (by decide) (by simp [Tryz.ntmps8]) ?_; rw [Tryz.ntmps8]
 repeat' (first | omega | ((try apply yaa); simp only [go_sem, sevalprocAttr, hT]) | (refine ⟨yaf.fn (r := ?_) rfl ?_ ?_⟩; rotate_left; assumption) | (apply yad <;> (intro h_; (try simp only [h_]); revert h_)) | apply yac | apply yab | apply gspI | apply And.intro | with_reducible intro h_ | trivial | (simp only [go_sem, la2]; omega))
 refine ⟨yaf.frz [1] rfl (by simp only [go_sem, sevalprocAttr, Nat.le_refl]) (by simp only [go_sem, sevalprocAttr, Nat.le_refl]) (by simp only [go_sem, sevalprocAttr, Nat.le_refl]) (by simp only [go_sem, sevalprocAttr, Nat.le_refl]) rfl rfl rfl (yaf.fn rfl hI ?_)⟩
 repeat' (first | omega | ((try apply yaa); simp only [go_sem, sevalprocAttr, hT]) | (refine ⟨yaf.fn (r := ?_) rfl ?_ ?_⟩; rotate_left; assumption) | (apply yad <;> (intro h_; (try simp only [h_]); revert h_)) | apply yac | apply yab | apply gspI | apply And.intro | with_reducible intro h_ | trivial | (simp only [go_sem, la2]; omega))
 all_goals exact LeA.refl _
end Go.Proofs.YtebdkebfkpbmpaaGreatDoor
