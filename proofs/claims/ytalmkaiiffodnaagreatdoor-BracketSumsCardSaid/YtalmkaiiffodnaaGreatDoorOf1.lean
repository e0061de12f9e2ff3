/- Layer 12: Of and Term; the product with 0. -/
import Derived.Test.YtalmkaiiffodnaaGreatDoorMu3
set_option linter.unusedSimpArgs false
set_option linter.unusedVariables false
namespace Go.Proofs.YtalmkaiiffodnaaGreatDoor
open Go Go.RowKit
set_option maxHeartbeats 8000000
set_option maxRecDepth 100000
theorem fit_true {v l : Int} (h0 : -l ≤ v) (h1 : v ≤ l) : fitB v l = true := by unfold fitB; simp; omega
theorem fn_Of (low : Int) (cs : List Int) (hl : -1000000 ≤ low ∧ low + cs.length ≤ 1000000) (hn : cs.length ≤ 1000) (hc : ∀ c ∈ cs, -1125899906842624 ≤ c ∧ c ≤ 1125899906842624) :
    Fn Tryz.prog 26 [I low, roI cs] (plA false (tmI low cs)) := by
  refine Fn.introL [.cell 4 29] Tryz.func26 rfl rfl (by decide) (by simp [Tryz.ntmps26]) ?_; rw [Tryz.ntmps26]
  repeat' (first | omega | ((first | refine awC_sound _ _ _ _ ?_ | skip); simp only [go_sem, sevalprocAttr, ↓reduceIte, reduceCtorEq]) | (refine gspDI ?_ ?_ <;> (intro _hh; (try simp only [_hh]); revert _hh)) | refine gspLI ?_ ?_ | refine condLI ?_ ?_ | refine gspI ?_ ?_ | refine And.intro ?_ ?_ | with_reducible intro _hh | trivial | (simp only [cl1, cl2, cl3, List.length_cons, List.length_nil, List.length_append]; omega))
  refine LoopA.intro (fun n fr H => ∃ k : Nat, k ≤ cs.length ∧ n = cs.length - k ∧ fr = [(10, I k), (9, I cs.length), (8, roI cs), (5, .ptr 1 0), (4, .ptr 0 0), (0, I low)] ∧
    ((tmI low (cs.take k) = [] ∧ H = [(1, .cells 29 (.lst [.bool false, .nils])), (0, .cells 29 (.lst [.bool false, .nils]))]) ∨
     H = [(3, .cells 65 (.lst (tmC (tmI low (cs.take k))))), (1, .cells 29 (.lst [.bool false, .sl 2 3 0 (tmI low (cs.take k)).length])), (0, .cells 29 (.lst [.bool false, .nils]))])) ?_ ?_
  · refine ⟨_, _, _, ?_, 0, by omega, rfl, rfl, .inl ⟨by simp [tmI], rfl⟩⟩
    refine Wk.sub ?_ ?_ <;> simp only [go_sem, sevalprocAttr, ↓reduceIte, reduceCtorEq]
    all_goals simp_all
  rintro n fr H ⟨k, hk, rfl, rfl, hcs⟩
  have htl := tmI_len low (cs.take k)
  rw [List.length_take] at htl
  by_cases hkl : k < cs.length
  · have hzk := hc (cs.getD k 0) (by simp [List.getD_eq_getElem?_getD, List.getElem?_eq_getElem hkl])
    have eT := tmI_snoc low (cs.take k) (cs.getD k 0)
    rw [← take_snoc hkl, List.length_take, show min k cs.length = k by omega] at eT
    have hw1 := fn_within (cs.getD k 0) 1125899906842624 (by omega) (by omega)
    have hw2 := fn_within (low + k) 1048576 (by omega) (by omega)
    rw [fit_true (by omega) (by omega)] at hw1 hw2
    have bl : decide (1048576 < low) = false := by simp; omega
    have hlen := tmC_len (tmI low (cs.take k))
    by_cases hz0 : cs.getD k 0 = 0
    · have bz : (cs.getD k 0 == 0) = true := by simpa using hz0
      rw [if_pos hz0, List.append_nil] at eT
      rcases hcs with ⟨hn, rfl⟩ | rfl
      · repeat' (first | omega | ((first | refine awC_sound _ _ _ _ ?_ | skip); simp only [go_sem, sevalprocAttr, ↓reduceIte, reduceCtorEq, bz]) | (refine gspDI ?_ ?_ <;> (intro _hh; (try simp only [_hh]); revert _hh)) | refine gspLI ?_ ?_ | refine condLI ?_ ?_ | refine gspI ?_ ?_ | refine And.intro ?_ ?_ | with_reducible intro _hh | trivial | (simp only [cl1, cl2, cl3, List.length_cons, List.length_nil, List.length_append]; omega))
        refine ⟨_, _, _, ?_, ?_, ⟨k + 1, by omega, rfl, rfl, .inl ⟨by rw [eT]; exact hn, rfl⟩⟩⟩
        · omega
        · refine Wk.sub ?_ ?_ <;> (simp only [go_sem, sevalprocAttr, ↓reduceIte, reduceCtorEq, tmC_s3])
          all_goals simp_all
      · repeat' (first | omega | ((first | refine awC_sound _ _ _ _ ?_ | skip); simp only [go_sem, sevalprocAttr, ↓reduceIte, reduceCtorEq, bz]) | (refine gspDI ?_ ?_ <;> (intro _hh; (try simp only [_hh]); revert _hh)) | refine gspLI ?_ ?_ | refine condLI ?_ ?_ | refine gspI ?_ ?_ | refine And.intro ?_ ?_ | with_reducible intro _hh | trivial | (simp only [cl1, cl2, cl3, List.length_cons, List.length_nil, List.length_append]; omega))
        refine ⟨_, _, _, ?_, ?_, ⟨k + 1, by omega, rfl, rfl, .inr rfl⟩⟩
        · omega
        · rw [eT]
          refine Wk.sub ?_ ?_ <;> (simp only [go_sem, sevalprocAttr, ↓reduceIte, reduceCtorEq, tmC_s3])
          all_goals simp_all
    · have bz : (cs.getD k 0 == 0) = false := by rw [beq_eq_false_iff_ne]; exact hz0
      rw [if_neg hz0] at eT
      rcases hcs with ⟨hn, rfl⟩ | rfl
      · rw [hn, List.nil_append] at eT
        repeat' (first | omega | ((first | refine awC_sound _ _ _ _ ?_ | skip); simp only [go_sem, sevalprocAttr, ↓reduceIte, reduceCtorEq, bz]) | (refine gspDI ?_ ?_ <;> (intro _hh; (try simp only [_hh]); revert _hh)) | refine gspLI ?_ ?_ | refine condLI ?_ ?_ | refine gspI ?_ ?_ | refine And.intro ?_ ?_ | with_reducible intro _hh | trivial | (simp only [cl1, cl2, cl3, List.length_cons, List.length_nil, List.length_append]; omega))
        refine ⟨CallB.fn rfl hw1 ?_⟩
        repeat' (first | omega | ((first | refine awC_sound _ _ _ _ ?_ | skip); simp only [go_sem, sevalprocAttr, ↓reduceIte, reduceCtorEq, bl]) | (refine gspDI ?_ ?_ <;> (intro _hh; (try simp only [_hh]); revert _hh)) | refine gspLI ?_ ?_ | refine condLI ?_ ?_ | refine gspI ?_ ?_ | refine And.intro ?_ ?_ | with_reducible intro _hh | trivial | (simp only [cl1, cl2, cl3, List.length_cons, List.length_nil, List.length_append]; omega))
        refine ⟨CallB.fn rfl hw2 ?_⟩
        repeat' (first | omega | ((first | refine awC_sound _ _ _ _ ?_ | skip); simp only [go_sem, sevalprocAttr, ↓reduceIte, reduceCtorEq]) | (refine gspDI ?_ ?_ <;> (intro _hh; (try simp only [_hh]); revert _hh)) | refine gspLI ?_ ?_ | refine condLI ?_ ?_ | refine gspI ?_ ?_ | refine And.intro ?_ ?_ | with_reducible intro _hh | trivial | (simp only [cl1, cl2, cl3, List.length_cons, List.length_nil, List.length_append]; omega))
        refine ⟨_, _, _, ?_, ?_, ⟨k + 1, by omega, rfl, rfl, .inr rfl⟩⟩
        · omega
        · rw [eT]
          refine Wk.sub ?_ ?_ <;> (simp only [go_sem, sevalprocAttr, ↓reduceIte, reduceCtorEq, tmC_s3])
          all_goals first | rfl | simp_all
      · repeat' (first | omega | ((first | refine awC_sound _ _ _ _ ?_ | skip); simp only [go_sem, sevalprocAttr, ↓reduceIte, reduceCtorEq, bz]) | (refine gspDI ?_ ?_ <;> (intro _hh; (try simp only [_hh]); revert _hh)) | refine gspLI ?_ ?_ | refine condLI ?_ ?_ | refine gspI ?_ ?_ | refine And.intro ?_ ?_ | with_reducible intro _hh | trivial | (simp only [cl1, cl2, cl3, List.length_cons, List.length_nil, List.length_append]; omega))
        refine ⟨CallB.fn rfl hw1 ?_⟩
        repeat' (first | omega | ((first | refine awC_sound _ _ _ _ ?_ | skip); simp only [go_sem, sevalprocAttr, ↓reduceIte, reduceCtorEq, bl]) | (refine gspDI ?_ ?_ <;> (intro _hh; (try simp only [_hh]); revert _hh)) | refine gspLI ?_ ?_ | refine condLI ?_ ?_ | refine gspI ?_ ?_ | refine And.intro ?_ ?_ | with_reducible intro _hh | trivial | (simp only [cl1, cl2, cl3, List.length_cons, List.length_nil, List.length_append]; omega))
        refine ⟨CallB.fn rfl hw2 ?_⟩
        repeat' (first | omega | ((first | refine awC_sound _ _ _ _ ?_ | skip); simp only [go_sem, sevalprocAttr, ↓reduceIte, reduceCtorEq, hlen]) | (refine gspDI ?_ ?_ <;> (intro _hh; (try simp only [_hh]); revert _hh)) | refine gspLI ?_ ?_ | refine condLI ?_ ?_ | refine gspI ?_ ?_ | refine And.intro ?_ ?_ | with_reducible intro _hh | trivial | (simp only [cl1, cl2, cl3, List.length_cons, List.length_nil, List.length_append]; omega))
        rw [tmC_snoc]
        refine ⟨_, _, _, ?_, ?_, ⟨k + 1, by omega, rfl, rfl, .inr rfl⟩⟩
        · omega
        · rw [eT]
          refine Wk.sub ?_ ?_ <;> (simp only [go_sem, sevalprocAttr, ↓reduceIte, reduceCtorEq, tmC_s3, List.length_append])
          all_goals simp_all
  · obtain rfl : k = cs.length := by omega
    rw [List.take_of_length_le (Nat.le_refl _)] at hcs htl
    rcases hcs with ⟨hn, rfl⟩ | rfl
    · repeat' (first | omega | ((first | refine awC_sound _ _ _ _ ?_ | skip); simp only [go_sem, sevalprocAttr, ↓reduceIte, reduceCtorEq]) | (refine gspDI ?_ ?_ <;> (intro _hh; (try simp only [_hh]); revert _hh)) | refine gspLI ?_ ?_ | refine condLI ?_ ?_ | refine gspI ?_ ?_ | refine And.intro ?_ ?_ | with_reducible intro _hh | trivial | (simp only [cl1, cl2, cl3, List.length_cons, List.length_nil, List.length_append]; omega))
      all_goals rw [hn]
      all_goals exact LeA.aggL (.cons (LeA.refl _) (.cons (LeA.nils (by omega) rfl) .nil))
    · have hlen := tmC_len (tmI low cs)
      repeat' (first | omega | ((first | refine awC_sound _ _ _ _ ?_ | skip); simp only [go_sem, sevalprocAttr, ↓reduceIte, reduceCtorEq, tmC_snapP]) | (refine gspDI ?_ ?_ <;> (intro _hh; (try simp only [_hh]); revert _hh)) | refine gspLI ?_ ?_ | refine condLI ?_ ?_ | refine gspI ?_ ?_ | refine And.intro ?_ ?_ | with_reducible intro _hh | trivial | (simp only [cl1, cl2, cl3, List.length_cons, List.length_nil, List.length_append]; omega))
      all_goals exact LeA.of (by rw [List.take_of_length_le (by omega)])
def trm (c e : Int) : List (Int × Int) := if c = 0 then [] else [(e, c)]
theorem fn_Term (c e : Int) (h0 : -1125899906842624 ≤ c ∧ c ≤ 1125899906842624) (h1 : -1048576 ≤ e ∧ e ≤ 1048576) : Fn Tryz.prog 29 [I c, I e] (plA false (trm c e)) := by
  have hw1 := fn_within c 1125899906842624 (by omega) (by omega)
  have hw2 := fn_within e 1048576 (by omega) (by omega)
  rw [fit_true (by omega) (by omega)] at hw1 hw2
  unfold trm
  by_cases h : c = 0
  · have bz : (c == 0) = true := by simpa using h
    rw [if_pos h]
    refine Fn.introL [.cell 4 29] Tryz.func29 rfl rfl (by decide) (by simp [Tryz.ntmps29]) ?_; rw [Tryz.ntmps29]
    repeat' (first | omega | ((first | refine awC_sound _ _ _ _ ?_ | skip); simp only [go_sem, sevalprocAttr, ↓reduceIte, reduceCtorEq, bz]) | (refine gspDI ?_ ?_ <;> (intro _hh; (try simp only [_hh]); revert _hh)) | refine gspLI ?_ ?_ | refine condLI ?_ ?_ | refine gspI ?_ ?_ | refine And.intro ?_ ?_ | with_reducible intro _hh | trivial | (simp only [cl1, cl2, cl3, List.length_cons, List.length_nil, List.length_append]; omega))
    all_goals exact LeA.aggL (.cons (LeA.refl _) (.cons (LeA.nils (by omega) rfl) .nil))
  · have bz : (c == 0) = false := by rw [beq_eq_false_iff_ne]; exact h
    rw [if_neg h]
    refine Fn.introL [.cell 4 29] Tryz.func29 rfl rfl (by decide) (by simp [Tryz.ntmps29]) ?_; rw [Tryz.ntmps29]
    repeat' (first | omega | ((first | refine awC_sound _ _ _ _ ?_ | skip); simp only [go_sem, sevalprocAttr, ↓reduceIte, reduceCtorEq, bz]) | (refine gspDI ?_ ?_ <;> (intro _hh; (try simp only [_hh]); revert _hh)) | refine gspLI ?_ ?_ | refine condLI ?_ ?_ | refine gspI ?_ ?_ | refine And.intro ?_ ?_ | with_reducible intro _hh | trivial | (simp only [cl1, cl2, cl3, List.length_cons, List.length_nil, List.length_append]; omega))
    refine ⟨CallB.fn rfl hw1 ?_⟩
    repeat' (first | omega | ((first | refine awC_sound _ _ _ _ ?_ | skip); simp only [go_sem, sevalprocAttr, ↓reduceIte, reduceCtorEq]) | (refine gspDI ?_ ?_ <;> (intro _hh; (try simp only [_hh]); revert _hh)) | refine gspLI ?_ ?_ | refine condLI ?_ ?_ | refine gspI ?_ ?_ | refine And.intro ?_ ?_ | with_reducible intro _hh | trivial | (simp only [cl1, cl2, cl3, List.length_cons, List.length_nil, List.length_append]; omega))
    refine ⟨CallB.fn rfl hw2 ?_⟩
    repeat' (first | omega | ((first | refine awC_sound _ _ _ _ ?_ | skip); simp only [go_sem, sevalprocAttr, ↓reduceIte, reduceCtorEq]) | (refine gspDI ?_ ?_ <;> (intro _hh; (try simp only [_hh]); revert _hh)) | refine gspLI ?_ ?_ | refine condLI ?_ ?_ | refine gspI ?_ ?_ | refine And.intro ?_ ?_ | with_reducible intro _hh | trivial | (simp only [cl1, cl2, cl3, List.length_cons, List.length_nil, List.length_append]; omega))
    all_goals exact LeA.of rfl
theorem fn_Mul0 (q : List (Int × Int)) : Fn Tryz.prog 27 [plA false [], plA false q] (plA false []) := by
  refine Fn.introL [.cell 4 29] Tryz.func27 rfl rfl (by decide) (by simp [Tryz.ntmps27]) ?_; rw [Tryz.ntmps27]
  repeat' (first | omega | ((first | refine awC_sound _ _ _ _ ?_ | skip); simp only [go_sem, sevalprocAttr, ↓reduceIte, reduceCtorEq]) | (refine gspDI ?_ ?_ <;> (intro _hh; (try simp only [_hh]); revert _hh)) | refine gspLI ?_ ?_ | refine condLI ?_ ?_ | refine gspI ?_ ?_ | refine And.intro ?_ ?_ | with_reducible intro _hh | trivial | (simp only [cl1, cl2, cl3, List.length_cons, List.length_nil, List.length_append]; omega))
  all_goals exact LeA.aggL (.cons (LeA.refl _) (.cons (LeA.nils (by omega) rfl) .nil))
end Go.Proofs.YtalmkaiiffodnaaGreatDoor
