/- Layer 15: Bracket where it is refused; the limits of the laws. -/
import Derived.Test.YtalmkaiiffodnaaGreatDoorBr2
import Derived.Test.YtalmkaiiffodnaaGreatDoorLa3
set_option linter.unusedSimpArgs false
set_option linter.unusedVariables false
namespace Go.Proofs.YtalmkaiiffodnaaGreatDoor
open Go Go.RowKit
set_option maxRecDepth 100000
set_option maxHeartbeats 8000000
theorem le_zeroP : LeA (.agg [.bool false, .nils]) (plA false []) := LeA.aggL (.cons (LeA.refl _) (.cons (LeA.nils (by omega) rfl) .nil))
theorem fn_BracketI (s m : List Int) (L : Int) (hv : validB s m L = false) : Fn Tryz.prog 7 [dgA s m L] (.tup [plA false [], I 1]) := by
  have hV := fn_Valid s m L
  rw [hv] at hV
  refine Fn.introL [.cell 2 29, .tmp 3] Tryz.func7 rfl rfl (by decide) (by simp [Tryz.ntmps7]) ?_; rw [Tryz.ntmps7]
  repeat' (first | omega | ((first | refine awC_sound _ _ _ _ ?_ | skip); simp only [go_sem, sevalprocAttr, ↓reduceIte, reduceCtorEq]) | (refine gspDI ?_ ?_ <;> (intro _hh; (try simp only [_hh]); revert _hh)) | refine gspLI ?_ ?_ | refine condLI ?_ ?_ | refine gspI ?_ ?_ | refine And.intro ?_ ?_ | with_reducible intro _hh | trivial | (simp only [cl1, cl2, cl3, List.length_cons, List.length_nil, List.length_append]; omega))
  all_goals refine ⟨CallB.fn rfl hV ?_⟩
  all_goals (repeat' (first | omega | ((first | refine awC_sound _ _ _ _ ?_ | skip); simp only [go_sem, sevalprocAttr, ↓reduceIte, reduceCtorEq]) | (refine gspDI ?_ ?_ <;> (intro _hh; (try simp only [_hh]); revert _hh)) | refine gspLI ?_ ?_ | refine condLI ?_ ?_ | refine gspI ?_ ?_ | refine And.intro ?_ ?_ | with_reducible intro _hh | trivial | (simp only [cl1, cl2, cl3, List.length_cons, List.length_nil, List.length_append]; omega)))
  all_goals exact LeA.tupL (.cons le_zeroP (.cons (LeA.refl _) .nil))
theorem fn_BracketE (m : List Int) (hv : validB [] m 0 = true) : Fn Tryz.prog 7 [dgA [] m 0] (.tup [plA false [], I 8]) := by
  have hV := fn_Valid [] m 0
  rw [hv] at hV
  refine Fn.introL [.cell 2 29, .tmp 3] Tryz.func7 rfl rfl (by decide) (by simp [Tryz.ntmps7]) ?_; rw [Tryz.ntmps7]
  repeat' (first | omega | ((first | refine awC_sound _ _ _ _ ?_ | skip); simp only [go_sem, sevalprocAttr, ↓reduceIte, reduceCtorEq]) | (refine gspDI ?_ ?_ <;> (intro _hh; (try simp only [_hh]); revert _hh)) | refine gspLI ?_ ?_ | refine condLI ?_ ?_ | refine gspI ?_ ?_ | refine And.intro ?_ ?_ | with_reducible intro _hh | trivial | (simp only [cl1, cl2, cl3, List.length_cons, List.length_nil, List.length_append]; omega))
  all_goals refine ⟨CallB.fn rfl hV ?_⟩
  all_goals (repeat' (first | omega | ((first | refine awC_sound _ _ _ _ ?_ | skip); simp only [go_sem, sevalprocAttr, ↓reduceIte, reduceCtorEq]) | (refine gspDI ?_ ?_ <;> (intro _hh; (try simp only [_hh]); revert _hh)) | refine gspLI ?_ ?_ | refine condLI ?_ ?_ | refine gspI ?_ ?_ | refine And.intro ?_ ?_ | with_reducible intro _hh | trivial | (simp only [cl1, cl2, cl3, List.length_cons, List.length_nil, List.length_append]; omega)))
  all_goals exact LeA.tupL (.cons le_zeroP (.cons (LeA.refl _) .nil))
theorem fn_BracketF (s m : List Int) (L : Int) (hv : validB s m L = true) (h0 : ¬ (s.length = 0 ∧ L = 0)) (h : 14 < s.length ∨ 20 < L) : Fn Tryz.prog 7 [dgA s m L] (.tup [plA false [], I 5]) := by
  have hV := fn_Valid s m L
  rw [hv] at hV
  by_cases hs : s.length = 0
  · have b0 : ((s.length : Int) == 0) = true := by simp [hs]
    have b1 : (L == 0) = false := by rw [beq_eq_false_iff_ne]; omega
    have b2 : decide ((14 : Int) < s.length) = false := by simp; omega
    have b3 : decide ((20 : Int) < L) = true := by simp; omega
    refine Fn.introL [.cell 2 29, .tmp 3] Tryz.func7 rfl rfl (by decide) (by simp [Tryz.ntmps7]) ?_; rw [Tryz.ntmps7]
    repeat' (first | omega | ((first | refine awC_sound _ _ _ _ ?_ | skip); simp only [go_sem, sevalprocAttr, ↓reduceIte, reduceCtorEq]) | (refine gspDI ?_ ?_ <;> (intro _hh; (try simp only [_hh]); revert _hh)) | refine gspLI ?_ ?_ | refine condLI ?_ ?_ | refine gspI ?_ ?_ | refine And.intro ?_ ?_ | with_reducible intro _hh | trivial | (simp only [cl1, cl2, cl3, List.length_cons, List.length_nil, List.length_append]; omega))
    all_goals refine ⟨CallB.fn rfl hV ?_⟩
    all_goals (repeat' (first | omega | ((first | refine awC_sound _ _ _ _ ?_ | skip); simp only [go_sem, sevalprocAttr, ↓reduceIte, reduceCtorEq, b0, b1, b2, b3]) | (refine gspDI ?_ ?_ <;> (intro _hh; (try simp only [_hh]); revert _hh)) | refine gspLI ?_ ?_ | refine condLI ?_ ?_ | refine gspI ?_ ?_ | refine And.intro ?_ ?_ | with_reducible intro _hh | trivial | (simp only [cl1, cl2, cl3, List.length_cons, List.length_nil, List.length_append]; omega)))
    all_goals exact LeA.tupL (.cons le_zeroP (.cons (LeA.refl _) .nil))
  · have b0 : ((s.length : Int) == 0) = false := by rw [beq_eq_false_iff_ne]; omega
    by_cases h14 : 14 < s.length
    · have b2 : decide ((14 : Int) < s.length) = true := by simp; omega
      refine Fn.introL [.cell 2 29, .tmp 3] Tryz.func7 rfl rfl (by decide) (by simp [Tryz.ntmps7]) ?_; rw [Tryz.ntmps7]
      repeat' (first | omega | ((first | refine awC_sound _ _ _ _ ?_ | skip); simp only [go_sem, sevalprocAttr, ↓reduceIte, reduceCtorEq]) | (refine gspDI ?_ ?_ <;> (intro _hh; (try simp only [_hh]); revert _hh)) | refine gspLI ?_ ?_ | refine condLI ?_ ?_ | refine gspI ?_ ?_ | refine And.intro ?_ ?_ | with_reducible intro _hh | trivial | (simp only [cl1, cl2, cl3, List.length_cons, List.length_nil, List.length_append]; omega))
      all_goals refine ⟨CallB.fn rfl hV ?_⟩
      all_goals (repeat' (first | omega | ((first | refine awC_sound _ _ _ _ ?_ | skip); simp only [go_sem, sevalprocAttr, ↓reduceIte, reduceCtorEq, b0, b2]) | (refine gspDI ?_ ?_ <;> (intro _hh; (try simp only [_hh]); revert _hh)) | refine gspLI ?_ ?_ | refine condLI ?_ ?_ | refine gspI ?_ ?_ | refine And.intro ?_ ?_ | with_reducible intro _hh | trivial | (simp only [cl1, cl2, cl3, List.length_cons, List.length_nil, List.length_append]; omega)))
      all_goals exact LeA.tupL (.cons le_zeroP (.cons (LeA.refl _) .nil))
    · have b2 : decide ((14 : Int) < s.length) = false := by simp; omega
      have b3 : decide ((20 : Int) < L) = true := by simp; omega
      refine Fn.introL [.cell 2 29, .tmp 3] Tryz.func7 rfl rfl (by decide) (by simp [Tryz.ntmps7]) ?_; rw [Tryz.ntmps7]
      repeat' (first | omega | ((first | refine awC_sound _ _ _ _ ?_ | skip); simp only [go_sem, sevalprocAttr, ↓reduceIte, reduceCtorEq]) | (refine gspDI ?_ ?_ <;> (intro _hh; (try simp only [_hh]); revert _hh)) | refine gspLI ?_ ?_ | refine condLI ?_ ?_ | refine gspI ?_ ?_ | refine And.intro ?_ ?_ | with_reducible intro _hh | trivial | (simp only [cl1, cl2, cl3, List.length_cons, List.length_nil, List.length_append]; omega))
      all_goals refine ⟨CallB.fn rfl hV ?_⟩
      all_goals (repeat' (first | omega | ((first | refine awC_sound _ _ _ _ ?_ | skip); simp only [go_sem, sevalprocAttr, ↓reduceIte, reduceCtorEq, b0, b2, b3]) | (refine gspDI ?_ ?_ <;> (intro _hh; (try simp only [_hh]); revert _hh)) | refine gspLI ?_ ?_ | refine condLI ?_ ?_ | refine gspI ?_ ?_ | refine And.intro ?_ ?_ | with_reducible intro _hh | trivial | (simp only [cl1, cl2, cl3, List.length_cons, List.length_nil, List.length_append]; omega)))
      all_goals exact LeA.tupL (.cons le_zeroP (.cons (LeA.refl _) .nil))
def grB15 (s m : List Int) (L : Int) : Bool := (decide (9 < s.length) && decide (s.length ≤ 14)) || (decide (60 < m.length) || (decide (10 < L) && decide (L ≤ 20)))
theorem fn_great15 (s m : List Int) (L : Int) : Fn Tryz.prog 6 [dgA s m L] (.bool (grB15 s m L)) := by
  have e1 : decide ((9 : Int) < s.length) = decide (9 < s.length) := decide_eq_decide.2 (by omega)
  have e2 : decide ((s.length : Int) ≤ 14) = decide (s.length ≤ 14) := decide_eq_decide.2 (by omega)
  have e3 : decide ((60 : Int) < m.length) = decide (60 < m.length) := decide_eq_decide.2 (by omega)
  unfold grB15
  generalize decide (9 < s.length) = x1 at *
  generalize decide (s.length ≤ 14) = x2 at *
  generalize decide (60 < m.length) = x3 at *
  obtain ⟨x4, e4⟩ : ∃ x, decide (10 < L) = x := ⟨_, rfl⟩
  obtain ⟨x5, e5⟩ : ∃ x, decide (L ≤ 20) = x := ⟨_, rfl⟩
  rw [e4, e5]
  refine Fn.intro [.tmp 2] Tryz.func6 rfl rfl (by decide) (by simp [Tryz.ntmps6]) ?_; rw [Tryz.ntmps6]
  cases x1 <;> cases x2 <;> cases x3 <;> cases x4 <;> cases x5
  all_goals (repeat' (first | omega | ((first | refine awC_sound _ _ _ _ ?_ | skip); simp only [go_sem, sevalprocAttr, ↓reduceIte, reduceCtorEq, e1, e2, e3, e4, e5]) | (refine gspDI ?_ ?_ <;> (intro _hh; (try simp only [_hh]); revert _hh)) | refine gspLI ?_ ?_ | refine condLI ?_ ?_ | refine gspI ?_ ?_ | refine And.intro ?_ ?_ | with_reducible intro _hh | trivial | (simp only [cl1, cl2, cl3, List.length_cons, List.length_nil, List.length_append]; omega)))
end Go.Proofs.YtalmkaiiffodnaaGreatDoor
