/- Layer 17: the bracket's refusals. -/
import Derived.Test.YtebdkebfkpbmpaaGreatDoorTb1
namespace Go.Proofs.YtebdkebfkpbmpaaGreatDoor
open Go Go.RowKit
set_option maxRecDepth 100000
set_option maxHeartbeats 8000000
set_option linter.unusedVariables false
set_option linter.unusedSimpArgs false
theorem ywe (k : Int) : LeA (.tup [.agg [.bool false, .nils], I k]) (.tup [plA false [], I k]) := LeA.tupL (.cons (LeA.aggL (.cons (LeA.refl _) (.cons (LeA.nils (es := 2) (by decide) rfl) .nil))) (.cons (LeA.refl _) .nil))
theorem y7e (s m : List Int) (L : Int) (o : List Int) (hs : s.length <= 1000) (ho : o.length <= 1000) (hv : ya3 s m L = false) : Fn Tryz.prog 9 [dgA s m L, roI o] (.tup [plA false [], I 1]) := by
 have hW := yf7 s m L o hs (by omega)
 unfold widA at hW
 rw [if_neg (by simp [hv])] at hW
 refine Fn.introL [.cell 4 28, .tmp 5] Tryz.func9 rfl rfl (by decide) (by simp [Tryz.ntmps9]) ?_; rw [Tryz.ntmps9]
 repeat' (first | omega | ((try apply yaa); simp only [go_sem, sevalprocAttr, hv]) | (refine ⟨yaf.fn (r := ?_) rfl ?_ ?_⟩; rotate_left; assumption) | (apply yad <;> (intro h_; (try simp only [h_]); revert h_)) | apply yac | apply yab | apply gspI | apply And.intro | with_reducible intro h_ | trivial | (simp only [go_sem, la2]; omega))
 all_goals exact ywe 1
theorem y7f (s m : List Int) (L : Int) (o : List Int) (hs : s.length <= 1000) (ho : o.length <= 1000) (hv : ya3 s m L = true) (hp : ybp o s.length = false) : Fn Tryz.prog 9 [dgA s m L, roI o] (.tup [plA false [], I 2]) := by
 have hW := yf7 s m L o hs (by omega)
 unfold widA at hW
 rw [if_pos hv, if_neg (by simp [hp])] at hW
 refine Fn.introL [.cell 4 28, .tmp 5] Tryz.func9 rfl rfl (by decide) (by simp [Tryz.ntmps9]) ?_; rw [Tryz.ntmps9]
 repeat' (first | omega | ((try apply yaa); simp only [go_sem, sevalprocAttr, hv]) | (refine ⟨yaf.fn (r := ?_) rfl ?_ ?_⟩; rotate_left; assumption) | (apply yad <;> (intro h_; (try simp only [h_]); revert h_)) | apply yac | apply yab | apply gspI | apply And.intro | with_reducible intro h_ | trivial | (simp only [go_sem, la2]; omega))
 all_goals exact ywe 2
theorem y7g (m : List Int) (o : List Int) (ho : o.length <= 1000) (hv : ya3 [] m 0 = true) (hp : ybp o 0 = true) : Fn Tryz.prog 9 [dgA [] m 0, roI o] (.tup [plA false [], I 8]) := by
 have hW := yf7 [] m 0 o (by simp) (by omega)
 unfold widA at hW
 rw [if_pos hv, if_pos (show ybp o ([] : List Int).length = true from hp)] at hW
 refine Fn.introL [.cell 4 28, .tmp 5] Tryz.func9 rfl rfl (by decide) (by simp [Tryz.ntmps9]) ?_; rw [Tryz.ntmps9]
 repeat' (first | omega | ((try apply yaa); simp only [go_sem, sevalprocAttr, hv]) | (refine ⟨yaf.fn (r := ?_) rfl ?_ ?_⟩; rotate_left; assumption) | (apply yad <;> (intro h_; (try simp only [h_]); revert h_)) | apply yac | apply yab | apply gspI | apply And.intro | with_reducible intro h_ | trivial | (simp only [go_sem, la2]; omega))
 all_goals exact ywe 8
theorem y29 : Fn Tryz.prog 12 [plA false []] (.bool true) := by
 refine Fn.intro [.tmp 2] Tryz.func12 rfl rfl (by decide) (by simp [Tryz.ntmps12]) ?_; rw [Tryz.ntmps12]
 repeat' (first | omega | ((try apply yaa); simp only [go_sem, sevalprocAttr]) | (apply yad <;> (intro h_; (try simp only [h_]); revert h_)) | apply yac | apply yab | apply gspI | apply And.intro | with_reducible intro h_ | trivial | (simp only [go_sem, la2]; omega))
end Go.Proofs.YtebdkebfkpbmpaaGreatDoor
