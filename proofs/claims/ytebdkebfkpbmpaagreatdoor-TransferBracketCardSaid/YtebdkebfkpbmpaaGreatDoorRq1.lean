/- The reference of layer 15: the powers of -A^2 - A^-2. -/
import Derived.Test.YtebdkebfkpbmpaaGreatDoorYb
import Derived.Test.YtebdkebfkpbmpaaGreatDoorYc
import Derived.Test.YtebdkebfkpbmpaaGreatDoorKq3
set_option linter.unusedSimpArgs false
set_option linter.unusedVariables false
namespace Go.Proofs.YtebdkebfkpbmpaaGreatDoor
open Go Go.RowKit
set_option maxRecDepth 100000
set_option maxHeartbeats 8000000
theorem yhg : yan [(0, 1)] (dpw 0) := ⟨⟨by decide, by decide⟩, fun x => by
 simp only [cfL, dpw, Int.add_zero]
 by_cases h : x = 0
 ·rw [if_pos h, if_pos h.symm]
 ·rw [if_neg h, if_neg fun g => h g.symm]⟩
theorem y3k (j : Nat) (hj : j <= 28) : Fn Tryz.prog 62 [I j] (rpA (ybo (dpw j))) := by
 have hD : Fn Tryz.prog 57 [I (-2), .ro 1 5 (.ints [-1, 0, 0, 0, -1])] (rpA [(-2, -1), (2, -1)]) := yoc (-2) (by decide) [-1, 0, 0, 0, -1] (by decide) (by decide)
 have h1 : Fn Tryz.prog 57 [I 0, .ro 1 1 (.ints [1])] (rpA [(0, 1)]) := yoc 0 (by decide) [1] (by decide) (by decide)
 have hs : ∀ i, i <= 28 -> ∀ e, dpw i e ≠ 0 -> -1000 <= e /\ e <= 1000 := fun i hi e he => by have := ybz i e he; omega
 have hd : yan [(-2, -1), (2, -1)] (cfL [(-2, -1), (2, -1)]) := ⟨dAsc, fun _ => rfl⟩
 refine Fn.introL [.cell 2 38] Tryz.func62 rfl rfl (by decide) (by simp [Tryz.ntmps62]) ?_; rw [Tryz.ntmps62]
 repeat' (first | omega | ((try apply yaa); simp only [go_sem, sevalprocAttr]) | (apply yad <;> (intro h_; (try simp only [h_]); revert h_)) | apply yac | apply yab | apply gspI | apply And.intro | with_reducible intro h_ | trivial | (simp only [go_sem, la2]; omega))
 refine ⟨yaf.frz [1] rfl (by simp only [go_sem, sevalprocAttr]) (by simp only [go_sem, sevalprocAttr]) (by simp only [go_sem, sevalprocAttr]) (by simp only [go_sem, sevalprocAttr]) rfl rfl rfl (yaf.fn rfl hD ?_)⟩
 repeat' (first | omega | ((try apply yaa); simp only [go_sem, sevalprocAttr]) | (apply yad <;> (intro h_; (try simp only [h_]); revert h_)) | apply yac | apply yab | apply gspI | apply And.intro | with_reducible intro h_ | trivial | (simp only [go_sem, la2]; omega))
 refine ⟨yaf.frz [3] rfl (by simp only [go_sem, sevalprocAttr]) (by simp only [go_sem, sevalprocAttr]) (by simp only [go_sem, sevalprocAttr]) (by simp only [go_sem, sevalprocAttr]) rfl rfl rfl (yaf.fn rfl h1 ?_)⟩
 repeat' (first | omega | ((try apply yaa); simp only [go_sem, sevalprocAttr]) | (apply yad <;> (intro h_; (try simp only [h_]); revert h_)) | apply yac | apply yab | apply gspI | apply And.intro | with_reducible intro h_ | trivial | (simp only [go_sem, la2]; omega))
 refine yah.intro (fun n fr H => ∃ (i : Nat) (r : List (Int × Int)), i <= j /\ yan r (dpw i) /\ n = j - i /\ fr = [(5, I i), (4, .ptr 4 0), (3, .ptr 2 0), (2, .ptr 0 0), (0, I j)] /\ H = [(4, .cells 38 (.lst [tmA r, .bool false])), (2, .cells 38 (.lst [tmA [(-2, -1), (2, -1)], .bool false])), (0, .cells 38 (.lst [.nils, .bool false]))]) ?_ ?_
 ·refine ⟨_, _, _, ?_, 0, _, by omega, yhg, rfl, rfl, rfl⟩
  refine Wk.sub ?_ ?_ <;> (simp only [go_sem, sevalprocAttr, yaj])
 rintro n fr H ⟨i, r, hi, hr, rfl, rfl, rfl⟩
 by_cases hij : i < j
 ·have bi : decide ((i : Int) < j) = true := by simp; omega
  have hb := fun e => ypp (j := i) (by omega) e
  have hb2 := fun e => ypp (j := i + 1) (by omega) e
  obtain ⟨r', hr', hM⟩ := yu4 hr hd (hs i (by omega)) (fun e he => by
   obtain ⟨t, ht, rfl⟩ := yq3 he
   simp only [List.mem_cons, List.not_mem_nil, or_false] at ht
   rcases ht with rfl | rfl <;> decide) (fun e => by have := hb e; omega) (fun e => by
   simp only [cfL]
   split <;> split <;> omega) (h := dpw (i + 1)) (fun e => by rw [y3y, show cfL r = dpw i from funext hr.cf]; rfl) (fun e => by have := hb2 e; omega) (by
    have := hr.len (hs i (by omega))
    simp only [List.length_cons, List.length_nil]; omega)
  repeat' (first | omega | ((try apply yaa); simp only [go_sem, sevalprocAttr, bi]) | (apply yad <;> (intro h_; (try simp only [h_]); revert h_)) | apply yac | apply yab | apply gspI | apply And.intro | with_reducible intro h_ | trivial | (simp only [go_sem, la2]; omega))
  refine ⟨yaf.fn rfl hM ?_⟩
  repeat' (first | omega | ((try apply yaa); simp only [go_sem, sevalprocAttr, bi]) | (apply yad <;> (intro h_; (try simp only [h_]); revert h_)) | apply yac | apply yab | apply gspI | apply And.intro | with_reducible intro h_ | trivial | (simp only [go_sem, la2]; omega))
  refine ⟨_, _, _, ?_, ?_, i + 1, r', by omega, hr', rfl, rfl, rfl⟩
  ·omega
  ·refine Wk.sub ?_ ?_ <;> (simp only [go_sem, sevalprocAttr, yaj])
 ·obtain rfl : i = j := by omega
  have bi : decide ((i : Int) < i) = false := by simp
  rw [← hr.eq (hs i hj)]
  repeat' (first | omega | ((try apply yaa); simp only [go_sem, sevalprocAttr, bi]) | (apply yad <;> (intro h_; (try simp only [h_]); revert h_)) | apply yac | apply yab | apply gspI | apply And.intro | with_reducible intro h_ | trivial | (simp only [go_sem, la2]; omega))
  all_goals exact LeA.refl _
end Go.Proofs.YtebdkebfkpbmpaaGreatDoor
