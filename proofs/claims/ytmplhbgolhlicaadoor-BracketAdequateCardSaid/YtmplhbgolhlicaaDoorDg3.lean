/- Layer 1: valid diagrams. -/
import Derived.Test.YtmplhbgolhlicaaDoorDg2
set_option linter.unusedSimpArgs false
set_option linter.unusedVariables false
namespace Go.Proofs.YtmplhbgolhlicaaDoor
open Go Go.RowKit
set_option maxRecDepth 100000
set_option maxHeartbeats 4000000
theorem fn_Valid (s m : List Int) (L : Int) : Fn Tryd.prog 26 [dgA s m L] (.bool (validB s m L)) := by
  refine Fn.intro [.tmp 2] Tryd.func26 rfl rfl (by decide) (by simp [Tryd.ntmps26]) ?_; rw [Tryd.ntmps26]
  repeat' (first | omega | ((first | refine awC_sound _ _ _ _ ?_ | skip); simp only [go_sem, Nat.reduceLT, Nat.reduceLeDiff, Nat.reduceEqDiff, Nat.reduceBEq, Nat.reduceBNe, Nat.reduceAdd, Nat.reduceMul, Nat.reduceSub, Nat.reduceDiv, Nat.reduceMod, Int.reduceToNat, Int.reduceAdd, Int.reduceLT, Int.reduceLE, Int.reduceEq, Int.reduceSub, Int.reduceMul, Int.reduceNeg, ↓reduceIte, reduceCtorEq]) | (refine gspDI ?_ ?_ <;> (intro _hh; (try simp only [_hh]); revert _hh)) | refine gspLI ?_ ?_ | refine condLI ?_ ?_ | refine gspI ?_ ?_ | refine And.intro ?_ ?_ | with_reducible intro _hh | trivial | (simp only [cl1, cl2, cl3, List.length_cons, List.length_nil, List.length_append]; omega))
  · exact vbF (by omega)
  rotate_left
  · exact vbF (by omega)
  · exact vbF (by omega)
  · exact vbF (by omega)
  refine LoopA.intro (fun n fr H => ∃ k : Nat, k ≤ s.length ∧ n = s.length - k ∧ signsOk s k ∧ fr = [(34, I k), (33, I s.length), (32, roI s), (3, I s.length), (1, .ptr 0 0)] ∧ H = [(0, .cells 24 (.lst [roI s, roI m, I L]))]) ?_ ?_
  · refine ⟨_, _, _, ?_, 0, by omega, rfl, (fun i hi => by omega), rfl, rfl⟩
    refine Wk.sub ?_ ?_ <;> simp only [go_sem, Nat.reduceLT, Nat.reduceLeDiff, Nat.reduceEqDiff, Nat.reduceBEq, Nat.reduceBNe, Nat.reduceAdd, Nat.reduceMul, Nat.reduceSub, Nat.reduceDiv, Nat.reduceMod, Int.reduceToNat, Int.reduceAdd, Int.reduceLT, Int.reduceLE, Int.reduceEq, Int.reduceSub, Int.reduceMul, Int.reduceNeg, ↓reduceIte, reduceCtorEq]
  rintro n fr H ⟨k, hk, rfl, hso, rfl, rfl⟩
  repeat' (first | omega | ((first | refine awC_sound _ _ _ _ ?_ | skip); simp only [go_sem, Nat.reduceLT, Nat.reduceLeDiff, Nat.reduceEqDiff, Nat.reduceBEq, Nat.reduceBNe, Nat.reduceAdd, Nat.reduceMul, Nat.reduceSub, Nat.reduceDiv, Nat.reduceMod, Int.reduceToNat, Int.reduceAdd, Int.reduceLT, Int.reduceLE, Int.reduceEq, Int.reduceSub, Int.reduceMul, Int.reduceNeg, ↓reduceIte, reduceCtorEq]) | (refine gspDI ?_ ?_ <;> (intro _hh; (try simp only [_hh]); revert _hh)) | refine gspLI ?_ ?_ | refine condLI ?_ ?_ | refine gspI ?_ ?_ | refine And.intro ?_ ?_ | with_reducible intro _hh | trivial | (simp only [cl1, cl2, cl3, List.length_cons, List.length_nil, List.length_append]; omega))
  · exact vbF fun hv => by have := hv.2.2.2.2.1 k (by omega); omega
  · refine ⟨_, _, _, ?_, ?_, ⟨k + 1, by omega, rfl, signsOk_succ hso (by omega), rfl, rfl⟩⟩
    · omega
    · refine Wk.sub ?_ ?_ <;> simp only [go_sem, Nat.reduceLT, Nat.reduceLeDiff, Nat.reduceEqDiff, Nat.reduceBEq, Nat.reduceBNe, Nat.reduceAdd, Nat.reduceMul, Nat.reduceSub, Nat.reduceDiv, Nat.reduceMod, Int.reduceToNat, Int.reduceAdd, Int.reduceLT, Int.reduceLE, Int.reduceEq, Int.reduceSub, Int.reduceMul, Int.reduceNeg, ↓reduceIte, reduceCtorEq]
  · refine ⟨_, _, _, ?_, ?_, ⟨k + 1, by omega, rfl, signsOk_succ hso (by omega), rfl, rfl⟩⟩
    · omega
    · refine Wk.sub ?_ ?_ <;> simp only [go_sem, Nat.reduceLT, Nat.reduceLeDiff, Nat.reduceEqDiff, Nat.reduceBEq, Nat.reduceBNe, Nat.reduceAdd, Nat.reduceMul, Nat.reduceSub, Nat.reduceDiv, Nat.reduceMod, Int.reduceToNat, Int.reduceAdd, Int.reduceLT, Int.reduceLE, Int.reduceEq, Int.reduceSub, Int.reduceMul, Int.reduceNeg, ↓reduceIte, reduceCtorEq]
  obtain rfl : k = s.length := by omega
  refine LoopA.intro (fun n fr H => ∃ k : Nat, k ≤ m.length ∧ n = m.length - k ∧ matesOk s m k ∧ fr = [(48, I k), (47, I m.length), (46, roI m), (3, I s.length), (1, .ptr 0 0)] ∧ H = [(0, .cells 24 (.lst [roI s, roI m, I L]))]) ?_ ?_
  · refine ⟨_, _, _, ?_, 0, by omega, rfl, (fun i hi => by omega), rfl, rfl⟩
    refine Wk.sub ?_ ?_ <;> simp only [go_sem, Nat.reduceLT, Nat.reduceLeDiff, Nat.reduceEqDiff, Nat.reduceBEq, Nat.reduceBNe, Nat.reduceAdd, Nat.reduceMul, Nat.reduceSub, Nat.reduceDiv, Nat.reduceMod, Int.reduceToNat, Int.reduceAdd, Int.reduceLT, Int.reduceLE, Int.reduceEq, Int.reduceSub, Int.reduceMul, Int.reduceNeg, ↓reduceIte, reduceCtorEq]
  rintro n fr H ⟨h, hh, rfl, hmo, rfl, rfl⟩
  repeat' (first | omega | ((first | refine awC_sound _ _ _ _ ?_ | (refine DrawA.intro (id := 15) [[76,78,79],[75,78,79],[78,79],[75,76,77,79],[75,76,77,78],[],[]] [[],[0],[],[0,1,2],[0,1,2,3],[],[]] (by decide +kernel) mixed ?_) | skip); simp only [go_sem, Nat.reduceLT, Nat.reduceLeDiff, Nat.reduceEqDiff, Nat.reduceBEq, Nat.reduceBNe, Nat.reduceAdd, Nat.reduceMul, Nat.reduceSub, Nat.reduceDiv, Nat.reduceMod, Int.reduceToNat, Int.reduceAdd, Int.reduceLT, Int.reduceLE, Int.reduceEq, Int.reduceSub, Int.reduceMul, Int.reduceNeg, ↓reduceIte, reduceCtorEq]) | (refine gspDI ?_ ?_ <;> (intro _hh; (try simp only [_hh]); revert _hh)) | refine gspLI ?_ ?_ | refine condLI ?_ ?_ | refine gspI ?_ ?_ | refine And.intro ?_ ?_ | with_reducible intro _hh | trivial | (simp only [cl1, cl2, cl3, List.length_cons, List.length_nil, List.length_append]; omega))
  · exact vbF fun hv => by have := hv.2.2.2.2.2 h (by omega); omega
  · have h4 : m.getD h 0 < 4 * s.length := by assumption
    refine ⟨CallA.fn rfl (fn_outgoing s m L h (by omega) (by omega) (by omega)) ?_⟩
    repeat' (first | omega | ((first | refine awC_sound _ _ _ _ ?_ | skip); simp only [go_sem, Nat.reduceLT, Nat.reduceLeDiff, Nat.reduceEqDiff, Nat.reduceBEq, Nat.reduceBNe, Nat.reduceAdd, Nat.reduceMul, Nat.reduceSub, Nat.reduceDiv, Nat.reduceMod, Int.reduceToNat, Int.reduceAdd, Int.reduceLT, Int.reduceLE, Int.reduceEq, Int.reduceSub, Int.reduceMul, Int.reduceNeg, ↓reduceIte, reduceCtorEq]) | (refine gspDI ?_ ?_ <;> (intro _hh; (try simp only [_hh]); revert _hh)) | refine gspLI ?_ ?_ | refine condLI ?_ ?_ | refine gspI ?_ ?_ | refine And.intro ?_ ?_ | with_reducible intro _hh | trivial | (simp only [cl1, cl2, cl3, List.length_cons, List.length_nil, List.length_append]; omega))
    refine ⟨CallA.fn rfl (fn_outgoing s m L (m.getD h 0) (by assumption) h4 (by omega)) ?_⟩
    repeat' (first | omega | ((first | refine awC_sound _ _ _ _ ?_ | skip); simp only [go_sem, Nat.reduceLT, Nat.reduceLeDiff, Nat.reduceEqDiff, Nat.reduceBEq, Nat.reduceBNe, Nat.reduceAdd, Nat.reduceMul, Nat.reduceSub, Nat.reduceDiv, Nat.reduceMod, Int.reduceToNat, Int.reduceAdd, Int.reduceLT, Int.reduceLE, Int.reduceEq, Int.reduceSub, Int.reduceMul, Int.reduceNeg, ↓reduceIte, reduceCtorEq]) | (refine gspDI ?_ ?_ <;> (intro _hh; (try simp only [_hh]); revert _hh)) | refine gspLI ?_ ?_ | refine condLI ?_ ?_ | refine gspI ?_ ?_ | refine And.intro ?_ ?_ | with_reducible intro _hh | trivial | (simp only [cl1, cl2, cl3, List.length_cons, List.length_nil, List.length_append]; omega))
    · exact vbF fun hv => by have := hv.2.2.2.2.2 h (by omega); simp_all
    · refine ⟨_, _, _, ?_, ?_, ⟨h + 1, by omega, rfl, matesOk_succ hmo ⟨by assumption, h4, by assumption, by assumption, by assumption⟩, rfl, rfl⟩⟩
      · omega
      · refine Wk.sub ?_ ?_ <;> simp only [go_sem, Nat.reduceLT, Nat.reduceLeDiff, Nat.reduceEqDiff, Nat.reduceBEq, Nat.reduceBNe, Nat.reduceAdd, Nat.reduceMul, Nat.reduceSub, Nat.reduceDiv, Nat.reduceMod, Int.reduceToNat, Int.reduceAdd, Int.reduceLT, Int.reduceLE, Int.reduceEq, Int.reduceSub, Int.reduceMul, Int.reduceNeg, ↓reduceIte, reduceCtorEq]
  · exact vbF fun hv => by have := hv.2.2.2.2.2 h (by omega); omega
  · exact vbF fun hv => by have := hv.2.2.2.2.2 h (by omega); omega
  · exact vbF fun hv => by have := hv.2.2.2.2.2 h (by omega); omega
  · have hm : m.length = 4 * s.length := by omega
    obtain rfl : h = 4 * s.length := by omega
    refine ⟨CallB.fn rfl (fn_spherical s m L (by omega) ⟨hm, fun i hi => ⟨(hmo i hi).1, (hmo i hi).2.1⟩⟩) ?_⟩
    repeat' (first | omega | ((first | refine awC_sound _ _ _ _ ?_ | skip); simp only [go_sem, Nat.reduceLT, Nat.reduceLeDiff, Nat.reduceEqDiff, Nat.reduceBEq, Nat.reduceBNe, Nat.reduceAdd, Nat.reduceMul, Nat.reduceSub, Nat.reduceDiv, Nat.reduceMod, Int.reduceToNat, Int.reduceAdd, Int.reduceLT, Int.reduceLE, Int.reduceEq, Int.reduceSub, Int.reduceMul, Int.reduceNeg, ↓reduceIte, reduceCtorEq]) | (refine gspDI ?_ ?_ <;> (intro _hh; (try simp only [_hh]); revert _hh)) | refine gspLI ?_ ?_ | refine condLI ?_ ?_ | refine gspI ?_ ?_ | refine And.intro ?_ ?_ | with_reducible intro _hh | trivial | (simp only [cl1, cl2, cl3, List.length_cons, List.length_nil, List.length_append]; omega))
    exact vbT ⟨by omega, hm, by assumption, by assumption, hso, hmo⟩
end Go.Proofs.YtmplhbgolhlicaaDoor
