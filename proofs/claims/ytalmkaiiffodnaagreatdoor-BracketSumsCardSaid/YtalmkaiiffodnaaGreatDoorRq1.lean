/- The reference of layer 15: the powers of -A^2 - A^-2. -/
import Derived.Test.YtalmkaiiffodnaaGreatDoorXj
import Derived.Test.YtalmkaiiffodnaaGreatDoorXk
import Derived.Test.YtalmkaiiffodnaaGreatDoorXb
set_option linter.unusedSimpArgs false
set_option linter.unusedVariables false
namespace Go.Proofs.YtalmkaiiffodnaaGreatDoor
open Go Go.RowKit
set_option maxRecDepth 100000
set_option maxHeartbeats 8000000
theorem one_ok : PolyB [(0, 1)] (dpw 0) := ⟨⟨by decide, by decide⟩, fun x => by
  simp only [cfL, dpw, Int.add_zero]
  by_cases h : x = 0
  · rw [if_pos h, if_pos h.symm]
  · rw [if_neg h, if_neg fun g => h g.symm]⟩
theorem fn_Power (j : Nat) (hj : j ≤ 28) : Fn Tryz.prog 43 [I j] (rpA (listOf (dpw j))) := by
  have hD : Fn Tryz.prog 38 [I (-2), .ro 1 5 (.ints [-1, 0, 0, 0, -1])] (rpA [(-2, -1), (2, -1)]) := fn_rOfG (-2) (by decide) [-1, 0, 0, 0, -1] (by decide) (by decide)
  have h1 : Fn Tryz.prog 38 [I 0, .ro 1 1 (.ints [1])] (rpA [(0, 1)]) := fn_rOfG 0 (by decide) [1] (by decide) (by decide)
  have hs : ∀ i, i ≤ 28 → ∀ e, dpw i e ≠ 0 → -1000 ≤ e ∧ e ≤ 1000 := fun i hi e he => by have := dpw_supp i e he; omega
  have hd : PolyB [(-2, -1), (2, -1)] (cfL [(-2, -1), (2, -1)]) := ⟨dAsc, fun _ => rfl⟩
  refine Fn.introL [.cell 2 39] Tryz.func43 rfl rfl (by decide) (by simp [Tryz.ntmps43]) ?_; rw [Tryz.ntmps43]
  repeat' (first | omega | ((first | refine awC_sound _ _ _ _ ?_ | skip); simp only [go_sem, sevalprocAttr, ↓reduceIte, reduceCtorEq]) | (refine gspDI ?_ ?_ <;> (intro _hh; (try simp only [_hh]); revert _hh)) | refine gspLI ?_ ?_ | refine condLI ?_ ?_ | refine gspI ?_ ?_ | refine And.intro ?_ ?_ | with_reducible intro _hh | trivial | (simp only [cl1, cl2, cl3, List.length_cons, List.length_nil, List.length_append]; omega))
  refine ⟨CallB.frz [1] rfl (by simp only [go_sem, sevalprocAttr, ↓reduceIte, reduceCtorEq]) (by simp only [go_sem, sevalprocAttr, ↓reduceIte, reduceCtorEq]) (by simp only [go_sem, sevalprocAttr, ↓reduceIte, reduceCtorEq]) (by simp only [go_sem, sevalprocAttr, ↓reduceIte, reduceCtorEq]) rfl rfl rfl (CallB.fn rfl hD ?_)⟩
  repeat' (first | omega | ((first | refine awC_sound _ _ _ _ ?_ | skip); simp only [go_sem, sevalprocAttr, ↓reduceIte, reduceCtorEq]) | (refine gspDI ?_ ?_ <;> (intro _hh; (try simp only [_hh]); revert _hh)) | refine gspLI ?_ ?_ | refine condLI ?_ ?_ | refine gspI ?_ ?_ | refine And.intro ?_ ?_ | with_reducible intro _hh | trivial | (simp only [cl1, cl2, cl3, List.length_cons, List.length_nil, List.length_append]; omega))
  refine ⟨CallB.frz [3] rfl (by simp only [go_sem, sevalprocAttr, ↓reduceIte, reduceCtorEq]) (by simp only [go_sem, sevalprocAttr, ↓reduceIte, reduceCtorEq]) (by simp only [go_sem, sevalprocAttr, ↓reduceIte, reduceCtorEq]) (by simp only [go_sem, sevalprocAttr, ↓reduceIte, reduceCtorEq]) rfl rfl rfl (CallB.fn rfl h1 ?_)⟩
  repeat' (first | omega | ((first | refine awC_sound _ _ _ _ ?_ | skip); simp only [go_sem, sevalprocAttr, ↓reduceIte, reduceCtorEq]) | (refine gspDI ?_ ?_ <;> (intro _hh; (try simp only [_hh]); revert _hh)) | refine gspLI ?_ ?_ | refine condLI ?_ ?_ | refine gspI ?_ ?_ | refine And.intro ?_ ?_ | with_reducible intro _hh | trivial | (simp only [cl1, cl2, cl3, List.length_cons, List.length_nil, List.length_append]; omega))
  refine LoopA.intro (fun n fr H => ∃ (i : Nat) (r : List (Int × Int)), i ≤ j ∧ PolyB r (dpw i) ∧ n = j - i ∧ fr = [(5, I i), (4, .ptr 4 0), (3, .ptr 2 0), (2, .ptr 0 0), (0, I j)] ∧ H = [(4, .cells 39 (.lst [tmA r, .bool false])), (2, .cells 39 (.lst [tmA [(-2, -1), (2, -1)], .bool false])), (0, .cells 39 (.lst [.nils, .bool false]))]) ?_ ?_
  · refine ⟨_, _, _, ?_, 0, _, by omega, one_ok, rfl, rfl, rfl⟩
    refine Wk.sub ?_ ?_ <;> (simp only [go_sem, sevalprocAttr, ↓reduceIte, reduceCtorEq, tmC_s3])
  rintro n fr H ⟨i, r, hi, hr, rfl, rfl, rfl⟩
  by_cases hij : i < j
  · have bi : decide ((i : Int) < j) = true := by simp; omega
    have hb := fun e => dpw_b (j := i) (by omega) e
    have hb2 := fun e => dpw_b (j := i + 1) (by omega) e
    obtain ⟨r', hr', hM⟩ := rMul_ok hr hd (hs i (by omega)) (fun e he => by
      obtain ⟨t, ht, rfl⟩ := cfL_ne he
      simp only [List.mem_cons, List.not_mem_nil, or_false] at ht
      rcases ht with rfl | rfl <;> decide) (fun e => by have := hb e; omega) (fun e => by
      simp only [cfL]
      split <;> split <;> omega) (h := dpw (i + 1)) (fun e => by rw [cvL_d, show cfL r = dpw i from funext hr.cf]; rfl) (fun e => by have := hb2 e; omega) (by
        have := hr.len (hs i (by omega))
        simp only [List.length_cons, List.length_nil]; omega)
    repeat' (first | omega | ((first | refine awC_sound _ _ _ _ ?_ | skip); simp only [go_sem, sevalprocAttr, ↓reduceIte, reduceCtorEq, bi]) | (refine gspDI ?_ ?_ <;> (intro _hh; (try simp only [_hh]); revert _hh)) | refine gspLI ?_ ?_ | refine condLI ?_ ?_ | refine gspI ?_ ?_ | refine And.intro ?_ ?_ | with_reducible intro _hh | trivial | (simp only [cl1, cl2, cl3, List.length_cons, List.length_nil, List.length_append]; omega))
    refine ⟨CallB.fn rfl hM ?_⟩
    repeat' (first | omega | ((first | refine awC_sound _ _ _ _ ?_ | skip); simp only [go_sem, sevalprocAttr, ↓reduceIte, reduceCtorEq, bi]) | (refine gspDI ?_ ?_ <;> (intro _hh; (try simp only [_hh]); revert _hh)) | refine gspLI ?_ ?_ | refine condLI ?_ ?_ | refine gspI ?_ ?_ | refine And.intro ?_ ?_ | with_reducible intro _hh | trivial | (simp only [cl1, cl2, cl3, List.length_cons, List.length_nil, List.length_append]; omega))
    refine ⟨_, _, _, ?_, ?_, i + 1, r', by omega, hr', rfl, rfl, rfl⟩
    · omega
    · refine Wk.sub ?_ ?_ <;> (simp only [go_sem, sevalprocAttr, ↓reduceIte, reduceCtorEq, tmC_s3])
  · obtain rfl : i = j := by omega
    have bi : decide ((i : Int) < i) = false := by simp
    rw [← hr.eq (hs i hj)]
    repeat' (first | omega | ((first | refine awC_sound _ _ _ _ ?_ | skip); simp only [go_sem, sevalprocAttr, ↓reduceIte, reduceCtorEq, bi]) | (refine gspDI ?_ ?_ <;> (intro _hh; (try simp only [_hh]); revert _hh)) | refine gspLI ?_ ?_ | refine condLI ?_ ?_ | refine gspI ?_ ?_ | refine And.intro ?_ ?_ | with_reducible intro _hh | trivial | (simp only [cl1, cl2, cl3, List.length_cons, List.length_nil, List.length_append]; omega))
    all_goals exact LeA.refl _
end Go.Proofs.YtalmkaiiffodnaaGreatDoor
