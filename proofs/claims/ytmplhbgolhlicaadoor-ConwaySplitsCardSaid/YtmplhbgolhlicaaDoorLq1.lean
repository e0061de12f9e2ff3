/- Layer 19: the limits of the laws; Poly where it is refused, and of loops alone. -/
import Derived.Test.YtmplhbgolhlicaaDoorAw
set_option linter.unusedSimpArgs false
set_option linter.unusedVariables false
namespace Go.Proofs.YtmplhbgolhlicaaDoor
open Go Go.RowKit
set_option maxRecDepth 100000
set_option maxHeartbeats 8000000
theorem fn_Zero (p : List (Int × Int)) : Fn Tryd.prog 21 [plA false p] (.bool ((p.length : Int) == 0)) := by
  refine Fn.intro [.tmp 2] Tryd.func21 rfl rfl (by decide) (by simp [Tryd.ntmps21]) ?_; rw [Tryd.ntmps21]
  repeat' (first | omega | ((first | refine awC_sound _ _ _ _ ?_ | skip); simp only [go_sem, Nat.reduceLT, Nat.reduceLeDiff, Nat.reduceEqDiff, Nat.reduceBEq, Nat.reduceBNe, Nat.reduceAdd, Nat.reduceMul, Nat.reduceSub, Nat.reduceDiv, Nat.reduceMod, Int.reduceToNat, Int.reduceAdd, Int.reduceLT, Int.reduceLE, Int.reduceEq, Int.reduceSub, Int.reduceMul, Int.reduceNeg, ↓reduceIte, reduceCtorEq]) | (refine gspDI ?_ ?_ <;> (intro _hh; (try simp only [_hh]); revert _hh)) | refine gspLI ?_ ?_ | refine condLI ?_ ?_ | refine gspI ?_ ?_ | refine And.intro ?_ ?_ | with_reducible intro _hh | trivial | (simp only [cl1, cl2, cl3, List.length_cons, List.length_nil, List.length_append]; omega))
def grB (s m : List Int) (L : Int) : Bool := (decide (7 < s.length) && decide (s.length ≤ 14)) || (decide (60 < m.length) || (decide (10 < L) && decide (L ≤ 64)))
theorem fn_great19 (s m : List Int) (L : Int) : Fn Tryd.prog 19 [dgA s m L] (.bool (grB s m L)) := by
  have e1 : decide ((7 : Int) < s.length) = decide (7 < s.length) := decide_eq_decide.2 (by omega)
  have e2 : decide ((s.length : Int) ≤ 14) = decide (s.length ≤ 14) := decide_eq_decide.2 (by omega)
  have e3 : decide ((60 : Int) < m.length) = decide (60 < m.length) := decide_eq_decide.2 (by omega)
  unfold grB
  generalize decide (7 < s.length) = x1 at *
  generalize decide (s.length ≤ 14) = x2 at *
  generalize decide (60 < m.length) = x3 at *
  obtain ⟨x4, e4⟩ : ∃ x, decide (10 < L) = x := ⟨_, rfl⟩
  obtain ⟨x5, e5⟩ : ∃ x, decide (L ≤ 64) = x := ⟨_, rfl⟩
  rw [e4, e5]
  refine Fn.intro [.tmp 2] Tryd.func19 rfl rfl (by decide) (by simp [Tryd.ntmps19]) ?_; rw [Tryd.ntmps19]
  cases x1 <;> cases x2 <;> cases x3 <;> cases x4 <;> cases x5
  all_goals (repeat' (first | omega | ((first | refine awC_sound _ _ _ _ ?_ | skip); simp only [go_sem, Nat.reduceLT, Nat.reduceLeDiff, Nat.reduceEqDiff, Nat.reduceBEq, Nat.reduceBNe, Nat.reduceAdd, Nat.reduceMul, Nat.reduceSub, Nat.reduceDiv, Nat.reduceMod, Int.reduceToNat, Int.reduceAdd, Int.reduceLT, Int.reduceLE, Int.reduceEq, Int.reduceSub, Int.reduceMul, Int.reduceNeg, ↓reduceIte, reduceCtorEq, e1, e2, e3, e4, e5]) | (refine gspDI ?_ ?_ <;> (intro _hh; (try simp only [_hh]); revert _hh)) | refine gspLI ?_ ?_ | refine condLI ?_ ?_ | refine gspI ?_ ?_ | refine And.intro ?_ ?_ | with_reducible intro _hh | trivial | (simp only [cl1, cl2, cl3, List.length_cons, List.length_nil, List.length_append]; omega)))
theorem fn_PolyI (s m : List Int) (L : Int) (hv : validB s m L = false) : Fn Tryd.prog 20 [dgA s m L] (.tup [plA false [], I 1]) := by
  have hV := fn_Valid s m L
  rw [hv] at hV
  refine Fn.introL [.cell 2 37, .tmp 3] Tryd.func20 rfl rfl (by decide) (by simp [Tryd.ntmps20]) ?_; rw [Tryd.ntmps20]
  repeat' (first | omega | ((first | refine awC_sound _ _ _ _ ?_ | skip); simp only [go_sem, Nat.reduceLT, Nat.reduceLeDiff, Nat.reduceEqDiff, Nat.reduceBEq, Nat.reduceBNe, Nat.reduceAdd, Nat.reduceMul, Nat.reduceSub, Nat.reduceDiv, Nat.reduceMod, Int.reduceToNat, Int.reduceAdd, Int.reduceLT, Int.reduceLE, Int.reduceEq, Int.reduceSub, Int.reduceMul, Int.reduceNeg, ↓reduceIte, reduceCtorEq]) | (refine gspDI ?_ ?_ <;> (intro _hh; (try simp only [_hh]); revert _hh)) | refine gspLI ?_ ?_ | refine condLI ?_ ?_ | refine gspI ?_ ?_ | refine And.intro ?_ ?_ | with_reducible intro _hh | trivial | (simp only [cl1, cl2, cl3, List.length_cons, List.length_nil, List.length_append]; omega))
  all_goals refine ⟨CallB.fn rfl hV ?_⟩
  all_goals (repeat' (first | omega | ((first | refine awC_sound _ _ _ _ ?_ | skip); simp only [go_sem, Nat.reduceLT, Nat.reduceLeDiff, Nat.reduceEqDiff, Nat.reduceBEq, Nat.reduceBNe, Nat.reduceAdd, Nat.reduceMul, Nat.reduceSub, Nat.reduceDiv, Nat.reduceMod, Int.reduceToNat, Int.reduceAdd, Int.reduceLT, Int.reduceLE, Int.reduceEq, Int.reduceSub, Int.reduceMul, Int.reduceNeg, ↓reduceIte, reduceCtorEq]) | (refine gspDI ?_ ?_ <;> (intro _hh; (try simp only [_hh]); revert _hh)) | refine gspLI ?_ ?_ | refine condLI ?_ ?_ | refine gspI ?_ ?_ | refine And.intro ?_ ?_ | with_reducible intro _hh | trivial | (simp only [cl1, cl2, cl3, List.length_cons, List.length_nil, List.length_append]; omega)))
  all_goals exact LeA.tupL (.cons le_zero (.cons (LeA.refl _) .nil))
theorem fn_PolyE (m : List Int) (hv : validB [] m 0 = true) : Fn Tryd.prog 20 [dgA [] m 0] (.tup [plA false [], I 8]) := by
  have hV := fn_Valid [] m 0
  rw [hv] at hV
  refine Fn.introL [.cell 2 37, .tmp 3] Tryd.func20 rfl rfl (by decide) (by simp [Tryd.ntmps20]) ?_; rw [Tryd.ntmps20]
  repeat' (first | omega | ((first | refine awC_sound _ _ _ _ ?_ | skip); simp only [go_sem, Nat.reduceLT, Nat.reduceLeDiff, Nat.reduceEqDiff, Nat.reduceBEq, Nat.reduceBNe, Nat.reduceAdd, Nat.reduceMul, Nat.reduceSub, Nat.reduceDiv, Nat.reduceMod, Int.reduceToNat, Int.reduceAdd, Int.reduceLT, Int.reduceLE, Int.reduceEq, Int.reduceSub, Int.reduceMul, Int.reduceNeg, ↓reduceIte, reduceCtorEq]) | (refine gspDI ?_ ?_ <;> (intro _hh; (try simp only [_hh]); revert _hh)) | refine gspLI ?_ ?_ | refine condLI ?_ ?_ | refine gspI ?_ ?_ | refine And.intro ?_ ?_ | with_reducible intro _hh | trivial | (simp only [cl1, cl2, cl3, List.length_cons, List.length_nil, List.length_append]; omega))
  all_goals refine ⟨CallB.fn rfl hV ?_⟩
  all_goals (repeat' (first | omega | ((first | refine awC_sound _ _ _ _ ?_ | skip); simp only [go_sem, Nat.reduceLT, Nat.reduceLeDiff, Nat.reduceEqDiff, Nat.reduceBEq, Nat.reduceBNe, Nat.reduceAdd, Nat.reduceMul, Nat.reduceSub, Nat.reduceDiv, Nat.reduceMod, Int.reduceToNat, Int.reduceAdd, Int.reduceLT, Int.reduceLE, Int.reduceEq, Int.reduceSub, Int.reduceMul, Int.reduceNeg, ↓reduceIte, reduceCtorEq]) | (refine gspDI ?_ ?_ <;> (intro _hh; (try simp only [_hh]); revert _hh)) | refine gspLI ?_ ?_ | refine condLI ?_ ?_ | refine gspI ?_ ?_ | refine And.intro ?_ ?_ | with_reducible intro _hh | trivial | (simp only [cl1, cl2, cl3, List.length_cons, List.length_nil, List.length_append]; omega)))
  all_goals exact LeA.tupL (.cons le_zero (.cons (LeA.refl _) .nil))
theorem fn_PolyF (s m : List Int) (L : Int) (hv : validB s m L = true) (h : 14 < s.length) : Fn Tryd.prog 20 [dgA s m L] (.tup [plA false [], I 5]) := by
  have hV := fn_Valid s m L
  rw [hv] at hV
  have b0 : ((s.length : Int) == 0) = false := by rw [beq_eq_false_iff_ne]; omega
  have b1 : decide ((14 : Int) < s.length) = true := by rw [decide_eq_true_iff]; omega
  refine Fn.introL [.cell 2 37, .tmp 3] Tryd.func20 rfl rfl (by decide) (by simp [Tryd.ntmps20]) ?_; rw [Tryd.ntmps20]
  repeat' (first | omega | ((first | refine awC_sound _ _ _ _ ?_ | skip); simp only [go_sem, Nat.reduceLT, Nat.reduceLeDiff, Nat.reduceEqDiff, Nat.reduceBEq, Nat.reduceBNe, Nat.reduceAdd, Nat.reduceMul, Nat.reduceSub, Nat.reduceDiv, Nat.reduceMod, Int.reduceToNat, Int.reduceAdd, Int.reduceLT, Int.reduceLE, Int.reduceEq, Int.reduceSub, Int.reduceMul, Int.reduceNeg, ↓reduceIte, reduceCtorEq, b0, b1]) | (refine gspDI ?_ ?_ <;> (intro _hh; (try simp only [_hh]); revert _hh)) | refine gspLI ?_ ?_ | refine condLI ?_ ?_ | refine gspI ?_ ?_ | refine And.intro ?_ ?_ | with_reducible intro _hh | trivial | (simp only [cl1, cl2, cl3, List.length_cons, List.length_nil, List.length_append]; omega))
  all_goals refine ⟨CallB.fn rfl hV ?_⟩
  all_goals (repeat' (first | omega | ((first | refine awC_sound _ _ _ _ ?_ | skip); simp only [go_sem, Nat.reduceLT, Nat.reduceLeDiff, Nat.reduceEqDiff, Nat.reduceBEq, Nat.reduceBNe, Nat.reduceAdd, Nat.reduceMul, Nat.reduceSub, Nat.reduceDiv, Nat.reduceMod, Int.reduceToNat, Int.reduceAdd, Int.reduceLT, Int.reduceLE, Int.reduceEq, Int.reduceSub, Int.reduceMul, Int.reduceNeg, ↓reduceIte, reduceCtorEq, b0, b1]) | (refine gspDI ?_ ?_ <;> (intro _hh; (try simp only [_hh]); revert _hh)) | refine gspLI ?_ ?_ | refine condLI ?_ ?_ | refine gspI ?_ ?_ | refine And.intro ?_ ?_ | with_reducible intro _hh | trivial | (simp only [cl1, cl2, cl3, List.length_cons, List.length_nil, List.length_append]; omega)))
  all_goals exact LeA.tupL (.cons le_zero (.cons (LeA.refl _) .nil))
theorem fn_PolyL (m : List Int) (L : Int) (p : List (Int × Int)) (n : Nat) (hv : validB [] m L = true) (h0 : 0 < L) (hr : rsM n [] m L = some p) : Fn Tryd.prog 20 [dgA [] m L] (.tup [plA false p, I 0]) := by
  have hV := fn_Valid [] m L
  rw [hv] at hV
  have hR := fn_resolved n [] m L p hr
  have b0 : (L == 0) = false := by rw [beq_eq_false_iff_ne]; omega
  refine Fn.introL [.cell 2 37, .tmp 3] Tryd.func20 rfl rfl (by decide) (by simp [Tryd.ntmps20]) ?_; rw [Tryd.ntmps20]
  repeat' (first | omega | ((first | refine awC_sound _ _ _ _ ?_ | skip); simp only [go_sem, Nat.reduceLT, Nat.reduceLeDiff, Nat.reduceEqDiff, Nat.reduceBEq, Nat.reduceBNe, Nat.reduceAdd, Nat.reduceMul, Nat.reduceSub, Nat.reduceDiv, Nat.reduceMod, Int.reduceToNat, Int.reduceAdd, Int.reduceLT, Int.reduceLE, Int.reduceEq, Int.reduceSub, Int.reduceMul, Int.reduceNeg, ↓reduceIte, reduceCtorEq, b0]) | (refine gspDI ?_ ?_ <;> (intro _hh; (try simp only [_hh]); revert _hh)) | refine gspLI ?_ ?_ | refine condLI ?_ ?_ | refine gspI ?_ ?_ | refine And.intro ?_ ?_ | with_reducible intro _hh | trivial | (simp only [cl1, cl2, cl3, List.length_cons, List.length_nil, List.length_append]; omega))
  all_goals refine ⟨CallB.fn rfl hV ?_⟩
  all_goals (repeat' (first | omega | ((first | refine awC_sound _ _ _ _ ?_ | skip); simp only [go_sem, Nat.reduceLT, Nat.reduceLeDiff, Nat.reduceEqDiff, Nat.reduceBEq, Nat.reduceBNe, Nat.reduceAdd, Nat.reduceMul, Nat.reduceSub, Nat.reduceDiv, Nat.reduceMod, Int.reduceToNat, Int.reduceAdd, Int.reduceLT, Int.reduceLE, Int.reduceEq, Int.reduceSub, Int.reduceMul, Int.reduceNeg, ↓reduceIte, reduceCtorEq, b0]) | (refine gspDI ?_ ?_ <;> (intro _hh; (try simp only [_hh]); revert _hh)) | refine gspLI ?_ ?_ | refine condLI ?_ ?_ | refine gspI ?_ ?_ | refine And.intro ?_ ?_ | with_reducible intro _hh | trivial | (simp only [cl1, cl2, cl3, List.length_cons, List.length_nil, List.length_append]; omega)))
  all_goals refine ⟨CallB.fn rfl hR ?_⟩
  all_goals (repeat' (first | omega | ((first | refine awC_sound _ _ _ _ ?_ | skip); simp only [go_sem, Nat.reduceLT, Nat.reduceLeDiff, Nat.reduceEqDiff, Nat.reduceBEq, Nat.reduceBNe, Nat.reduceAdd, Nat.reduceMul, Nat.reduceSub, Nat.reduceDiv, Nat.reduceMod, Int.reduceToNat, Int.reduceAdd, Int.reduceLT, Int.reduceLE, Int.reduceEq, Int.reduceSub, Int.reduceMul, Int.reduceNeg, ↓reduceIte, reduceCtorEq, b0]) | (refine gspDI ?_ ?_ <;> (intro _hh; (try simp only [_hh]); revert _hh)) | refine gspLI ?_ ?_ | refine condLI ?_ ?_ | refine gspI ?_ ?_ | refine And.intro ?_ ?_ | with_reducible intro _hh | trivial | (simp only [cl1, cl2, cl3, List.length_cons, List.length_nil, List.length_append]; omega)))
  all_goals exact LeA.refl _
end Go.Proofs.YtmplhbgolhlicaaDoor
