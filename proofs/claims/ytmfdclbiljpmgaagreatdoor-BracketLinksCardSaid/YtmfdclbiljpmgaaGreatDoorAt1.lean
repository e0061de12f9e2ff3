/- Layer 12: the value of a polynomial at 1. -/
import Derived.Test.YtmfdclbiljpmgaaGreatDoorMu1
import Derived.Test.YtmfdclbiljpmgaaGreatDoorKb4
set_option linter.unusedSimpArgs false
set_option linter.unusedVariables false
namespace Go.Proofs.YtmfdclbiljpmgaaGreatDoor
open Go Go.RowKit
set_option maxHeartbeats 8000000
set_option maxRecDepth 100000
theorem fn_widen (x : Int) (h0 : -4611686018427387904 ≤ x) (h1 : x ≤ 4611686018427387904) : Fn Tryz.prog 76 [I x] (wdA x) := by
  refine Fn.introL [.cell 2 99] Tryz.func76 rfl rfl (by decide) (by simp [Tryz.ntmps76]) ?_; rw [Tryz.ntmps76]
  have e1 : IntKind.u64.wrap (x / 2 ^ 63) = x / 18446744073709551616 % 18446744073709551616 := by rw [IntKind.wrap_u64]; omega
  have e2 : IntKind.u64.wrap x = x % 18446744073709551616 := by rw [IntKind.wrap_u64]
  repeat' (first | omega | ((first | refine awC_sound _ _ _ _ ?_ | skip); simp only [go_sem, Nat.reduceLT, Nat.reduceLeDiff, Nat.reduceEqDiff, Nat.reduceBEq, Nat.reduceBNe, Nat.reduceAdd, Nat.reduceMul, Nat.reduceSub, Nat.reduceDiv, Nat.reduceMod, Int.reduceToNat, Int.reduceAdd, Int.reduceLT, Int.reduceLE, Int.reduceEq, Int.reduceSub, Int.reduceMul, Int.reduceNeg, ↓reduceIte, reduceCtorEq, e1, e2]) | (refine gspDI ?_ ?_ <;> (intro _hh; (try simp only [_hh]); revert _hh)) | refine gspLI ?_ ?_ | refine condLI ?_ ?_ | refine gspI ?_ ?_ | refine And.intro ?_ ?_ | with_reducible intro _hh | trivial | (simp only [cl1, cl2, cl3, List.length_cons, List.length_nil, List.length_append]; omega))
  all_goals exact LeA.refl _
theorem evL_app (p q : List (Int × Int)) : evL (p ++ q) = evL p + evL q := by
  induction p with
  | nil => simp [evL]
  | cons t p ih => simp only [List.cons_append, evL, ih]; omega
theorem fn_At1 (p : List (Int × Int)) (hl : p.length ≤ 100000) (hc : ∀ t ∈ p, -1125899906842624 ≤ t.2 ∧ t.2 ≤ 1125899906842624) (h0 : -1125899906842624 ≤ evL p) (h1 : evL p ≤ 1125899906842624) :
    Fn Tryz.prog 27 [plA false p, I 1] (.tup [I (evL p), I 1, I 0]) := by
  refine Fn.introL [.tmp 4, .tmp 5, .tmp 6] Tryz.func27 rfl rfl (by decide) (by simp [Tryz.ntmps27]) ?_; rw [Tryz.ntmps27]
  repeat' (first | omega | ((first | refine awC_sound _ _ _ _ ?_ | skip); simp only [go_sem, Nat.reduceLT, Nat.reduceLeDiff, Nat.reduceEqDiff, Nat.reduceBEq, Nat.reduceBNe, Nat.reduceAdd, Nat.reduceMul, Nat.reduceSub, Nat.reduceDiv, Nat.reduceMod, Int.reduceToNat, Int.reduceAdd, Int.reduceLT, Int.reduceLE, Int.reduceEq, Int.reduceSub, Int.reduceMul, Int.reduceNeg, ↓reduceIte, reduceCtorEq]) | (refine gspDI ?_ ?_ <;> (intro _hh; (try simp only [_hh]); revert _hh)) | refine gspLI ?_ ?_ | refine condLI ?_ ?_ | refine gspI ?_ ?_ | refine And.intro ?_ ?_ | with_reducible intro _hh | trivial | (simp only [cl1, cl2, cl3, List.length_cons, List.length_nil, List.length_append]; omega))
  refine LoopA.intro (fun n fr H => ∃ k : Nat, k ≤ p.length ∧ n = p.length - k ∧ fr = [(39, I k), (38, I p.length), (37, .ro 2 p.length (.lst (tmC p))), (7, .ptr 1 0), (1, I 1)] ∧
    H = [(1, .cells 99 (.lst [.int .u64 (evL (p.take k) / 18446744073709551616 % 18446744073709551616), .int .u64 (evL (p.take k) % 18446744073709551616)]))]) ?_ ?_
  · refine ⟨_, _, _, ?_, 0, by omega, rfl, rfl, rfl⟩
    refine Wk.sub ?_ ?_ <;> (simp only [go_sem, Nat.reduceLT, Nat.reduceLeDiff, Nat.reduceEqDiff, Nat.reduceBEq, Nat.reduceBNe, Nat.reduceAdd, Nat.reduceMul, Nat.reduceSub, Nat.reduceDiv, Nat.reduceMod, Int.reduceToNat, Int.reduceAdd, Int.reduceLT, Int.reduceLE, Int.reduceEq, Int.reduceSub, Int.reduceMul, Int.reduceNeg, ↓reduceIte, reduceCtorEq, tmC_s3, List.take_zero, evL])
    all_goals decide
  rintro n fr H ⟨k, hk, rfl, rfl, rfl⟩
  by_cases hkl : k < p.length
  · have g0 := tmC_get0 p k hkl
    have g1 := tmC_get1 p k hkl
    have hlen := tmC_len p
    have hck := hc (p.getD k (0, 0)) (getD_in hkl)
    have hW := fn_widen (p.getD k (0, 0)).2 (by omega) (by omega)
    have hA := fn_wadd (evL (p.take k)) (p.getD k (0, 0)).2
    have e1 : evL (p.take k) + (p.getD k (0, 0)).2 = evL (p.take (k + 1)) := by
      rw [take_snoc2 (0, 0) hkl, evL_app]; simp [evL]
    rw [e1] at hA
    repeat' (first | omega | ((first | refine awC_sound _ _ _ _ ?_ | (refine DrawA.intro (id := 15) [[56,57],[55],[55],[],[]] [[],[0],[0],[],[]] (by decide +kernel) mixed ?_) | (refine DrawA.introT (id := 15) (.node [(0, .node [(1, .node [(2, .node [(3, .node [(4, .done)])])])]), (1, .node [(0, .node [(2, .node [(3, .node [(4, .done)])])]), (2, .node [(0, .node [(3, .node [(4, .done)])])])])]) (by decide +kernel) mixed ?_) | skip); simp only [go_sem, Nat.reduceLT, Nat.reduceLeDiff, Nat.reduceEqDiff, Nat.reduceBEq, Nat.reduceBNe, Nat.reduceAdd, Nat.reduceMul, Nat.reduceSub, Nat.reduceDiv, Nat.reduceMod, Int.reduceToNat, Int.reduceAdd, Int.reduceLT, Int.reduceLE, Int.reduceEq, Int.reduceSub, Int.reduceMul, Int.reduceNeg, ↓reduceIte, reduceCtorEq, g0, g1, hlen]) | (refine gspDI ?_ ?_ <;> (intro _hh; (try simp only [_hh]); revert _hh)) | refine gspLI ?_ ?_ | refine condLI ?_ ?_ | refine gspI ?_ ?_ | refine And.intro ?_ ?_ | with_reducible intro _hh | trivial | (simp only [cl1, cl2, cl3, List.length_cons, List.length_nil, List.length_append]; omega))
    refine ⟨CallA.fn rfl hW ?_⟩
    simp only [go_sem, Nat.reduceLT, Nat.reduceLeDiff, Nat.reduceEqDiff, Nat.reduceBEq, Nat.reduceBNe, Nat.reduceAdd, Nat.reduceMul, Nat.reduceSub, Nat.reduceDiv, Nat.reduceMod, Int.reduceToNat, Int.reduceAdd, Int.reduceLT, Int.reduceLE, Int.reduceEq, Int.reduceSub, Int.reduceMul, Int.reduceNeg, ↓reduceIte, reduceCtorEq]
    refine ⟨CallA.fn rfl hA ?_⟩
    simp only [go_sem, Nat.reduceLT, Nat.reduceLeDiff, Nat.reduceEqDiff, Nat.reduceBEq, Nat.reduceBNe, Nat.reduceAdd, Nat.reduceMul, Nat.reduceSub, Nat.reduceDiv, Nat.reduceMod, Int.reduceToNat, Int.reduceAdd, Int.reduceLT, Int.reduceLE, Int.reduceEq, Int.reduceSub, Int.reduceMul, Int.reduceNeg, ↓reduceIte, reduceCtorEq]
    repeat' (first | omega | ((first | refine awC_sound _ _ _ _ ?_ | skip); simp only [go_sem, Nat.reduceLT, Nat.reduceLeDiff, Nat.reduceEqDiff, Nat.reduceBEq, Nat.reduceBNe, Nat.reduceAdd, Nat.reduceMul, Nat.reduceSub, Nat.reduceDiv, Nat.reduceMod, Int.reduceToNat, Int.reduceAdd, Int.reduceLT, Int.reduceLE, Int.reduceEq, Int.reduceSub, Int.reduceMul, Int.reduceNeg, ↓reduceIte, reduceCtorEq]) | (refine gspDI ?_ ?_ <;> (intro _hh; (try simp only [_hh]); revert _hh)) | refine gspLI ?_ ?_ | refine condLI ?_ ?_ | refine gspI ?_ ?_ | refine And.intro ?_ ?_ | with_reducible intro _hh | trivial | (simp only [cl1, cl2, cl3, List.length_cons, List.length_nil, List.length_append]; omega))
    refine ⟨_, _, _, ?_, ?_, ⟨k + 1, by omega, rfl, rfl, rfl⟩⟩
    · omega
    · refine Wk.sub ?_ ?_ <;> (simp only [go_sem, Nat.reduceLT, Nat.reduceLeDiff, Nat.reduceEqDiff, Nat.reduceBEq, Nat.reduceBNe, Nat.reduceAdd, Nat.reduceMul, Nat.reduceSub, Nat.reduceDiv, Nat.reduceMod, Int.reduceToNat, Int.reduceAdd, Int.reduceLT, Int.reduceLE, Int.reduceEq, Int.reduceSub, Int.reduceMul, Int.reduceNeg, ↓reduceIte, reduceCtorEq, tmC_s3])
  · obtain rfl : k = p.length := by omega
    rw [List.take_of_length_le (Nat.le_refl _)]
    have hS := fn_small (evL p) h0 h1
    repeat' (first | omega | ((first | refine awC_sound _ _ _ _ ?_ | skip); simp only [go_sem, Nat.reduceLT, Nat.reduceLeDiff, Nat.reduceEqDiff, Nat.reduceBEq, Nat.reduceBNe, Nat.reduceAdd, Nat.reduceMul, Nat.reduceSub, Nat.reduceDiv, Nat.reduceMod, Int.reduceToNat, Int.reduceAdd, Int.reduceLT, Int.reduceLE, Int.reduceEq, Int.reduceSub, Int.reduceMul, Int.reduceNeg, ↓reduceIte, reduceCtorEq]) | (refine gspDI ?_ ?_ <;> (intro _hh; (try simp only [_hh]); revert _hh)) | refine gspLI ?_ ?_ | refine condLI ?_ ?_ | refine gspI ?_ ?_ | refine And.intro ?_ ?_ | with_reducible intro _hh | trivial | (simp only [cl1, cl2, cl3, List.length_cons, List.length_nil, List.length_append]; omega))
    refine ⟨CallB.fn rfl hS ?_⟩
    repeat' (first | omega | ((first | refine awC_sound _ _ _ _ ?_ | skip); simp only [go_sem, Nat.reduceLT, Nat.reduceLeDiff, Nat.reduceEqDiff, Nat.reduceBEq, Nat.reduceBNe, Nat.reduceAdd, Nat.reduceMul, Nat.reduceSub, Nat.reduceDiv, Nat.reduceMod, Int.reduceToNat, Int.reduceAdd, Int.reduceLT, Int.reduceLE, Int.reduceEq, Int.reduceSub, Int.reduceMul, Int.reduceNeg, ↓reduceIte, reduceCtorEq]) | (refine gspDI ?_ ?_ <;> (intro _hh; (try simp only [_hh]); revert _hh)) | refine gspLI ?_ ?_ | refine condLI ?_ ?_ | refine gspI ?_ ?_ | refine And.intro ?_ ?_ | with_reducible intro _hh | trivial | (simp only [cl1, cl2, cl3, List.length_cons, List.length_nil, List.length_append]; omega))
    all_goals exact LeA.refl _
end Go.Proofs.YtmfdclbiljpmgaaGreatDoor
