/- Layer 19: the first bad crossing. -/
import Derived.Test.YtmplhbgolhlicaaDoorDg5
set_option linter.unusedSimpArgs false
set_option linter.unusedVariables false
namespace Go.Proofs.YtmplhbgolhlicaaDoor
open Go Go.RowKit
set_option maxRecDepth 100000
set_option maxHeartbeats 4000000
def descM (s m : List Int) (L : Int) : Int × Bool := if validB s m L then (match badO s m with | some c => (c, false) | none => (-1, true)) else (-1, false)
theorem drop_cons {α : Type} (l : List α) (k : Nat) (d : α) (h : k < l.length) : l.drop k = l.getD k d :: l.drop (k + 1) := by
  rw [List.drop_eq_getElem_cons h]; simp [h]
theorem fn_Descending (s m : List Int) (L : Int) : Fn Tryd.prog 12 [dgA s m L] (.tup [I (descM s m L).1, .bool (descM s m L).2]) := by
  refine Fn.intro [.tmp 2, .tmp 3] Tryd.func12 rfl rfl (by decide) (by simp [Tryd.ntmps12]) ?_; rw [Tryd.ntmps12]
  repeat' (first | omega | ((first | refine awC_sound _ _ _ _ ?_ | skip); simp only [go_sem, Nat.reduceLT, Nat.reduceLeDiff, Nat.reduceEqDiff, Nat.reduceBEq, Nat.reduceBNe, Nat.reduceAdd, Nat.reduceMul, Nat.reduceSub, Nat.reduceDiv, Nat.reduceMod, Int.reduceToNat, Int.reduceAdd, Int.reduceLT, Int.reduceLE, Int.reduceEq, Int.reduceSub, Int.reduceMul, Int.reduceNeg, ↓reduceIte, reduceCtorEq]) | (refine gspDI ?_ ?_ <;> (intro _hh; (try simp only [_hh]); revert _hh)) | refine gspLI ?_ ?_ | refine condLI ?_ ?_ | refine gspI ?_ ?_ | refine And.intro ?_ ?_ | with_reducible intro _hh | trivial | (simp only [cl1, cl2, cl3, List.length_cons, List.length_nil, List.length_append]; omega))
  refine ⟨CallB.fn rfl (fn_Valid s m L) ?_⟩
  have hS := fn_Strands s m L
  unfold strandsV at hS
  have hsl := strandsM_len s m
  unfold descM
  cases hv : validB s m L with
  | false =>
    repeat' (first | omega | ((first | refine awC_sound _ _ _ _ ?_ | skip); simp only [go_sem, Nat.reduceLT, Nat.reduceLeDiff, Nat.reduceEqDiff, Nat.reduceBEq, Nat.reduceBNe, Nat.reduceAdd, Nat.reduceMul, Nat.reduceSub, Nat.reduceDiv, Nat.reduceMod, Int.reduceToNat, Int.reduceAdd, Int.reduceLT, Int.reduceLE, Int.reduceEq, Int.reduceSub, Int.reduceMul, Int.reduceNeg, ↓reduceIte, reduceCtorEq]) | (refine gspDI ?_ ?_ <;> (intro _hh; (try simp only [_hh]); revert _hh)) | refine gspLI ?_ ?_ | refine condLI ?_ ?_ | refine gspI ?_ ?_ | refine And.intro ?_ ?_ | with_reducible intro _hh | trivial | (simp only [cl1, cl2, cl3, List.length_cons, List.length_nil, List.length_append]; omega))
  | true =>
    rw [hv, if_pos rfl] at hS
    have v1 := valid1 hv
    have h64 := v1.s64
    have hl := v1.len
    have hmem := fun l (hl : l ∈ strandsM s m) => strandsM_mem v1.prd hl
    unfold badO
    repeat' (first | omega | ((first | refine awC_sound _ _ _ _ ?_ | skip); simp only [go_sem, Nat.reduceLT, Nat.reduceLeDiff, Nat.reduceEqDiff, Nat.reduceBEq, Nat.reduceBNe, Nat.reduceAdd, Nat.reduceMul, Nat.reduceSub, Nat.reduceDiv, Nat.reduceMod, Int.reduceToNat, Int.reduceAdd, Int.reduceLT, Int.reduceLE, Int.reduceEq, Int.reduceSub, Int.reduceMul, Int.reduceNeg, ↓reduceIte, reduceCtorEq]) | (refine gspDI ?_ ?_ <;> (intro _hh; (try simp only [_hh]); revert _hh)) | refine gspLI ?_ ?_ | refine condLI ?_ ?_ | refine gspI ?_ ?_ | refine And.intro ?_ ?_ | with_reducible intro _hh | trivial | (simp only [cl1, cl2, cl3, List.length_cons, List.length_nil, List.length_append]; omega))
    refine ⟨CallB.fn rfl hS ?_⟩
    repeat' (first | omega | ((first | refine awC_sound _ _ _ _ ?_ | skip); simp only [go_sem, Nat.reduceLT, Nat.reduceLeDiff, Nat.reduceEqDiff, Nat.reduceBEq, Nat.reduceBNe, Nat.reduceAdd, Nat.reduceMul, Nat.reduceSub, Nat.reduceDiv, Nat.reduceMod, Int.reduceToNat, Int.reduceAdd, Int.reduceLT, Int.reduceLE, Int.reduceEq, Int.reduceSub, Int.reduceMul, Int.reduceNeg, ↓reduceIte, reduceCtorEq]) | (refine gspDI ?_ ?_ <;> (intro _hh; (try simp only [_hh]); revert _hh)) | refine gspLI ?_ ?_ | refine condLI ?_ ?_ | refine gspI ?_ ?_ | refine And.intro ?_ ?_ | with_reducible intro _hh | trivial | (simp only [cl1, cl2, cl3, List.length_cons, List.length_nil, List.length_append]; omega))
    generalize strandsM s m = ls at *
    refine LoopA.intro (fun n fr H => ∃ (i : Nat) (v : List Bool), i ≤ ls.length ∧ n = ls.length - i ∧ v.length = s.length ∧ badLL v (ls.drop i) = badLL (List.replicate s.length false) ls ∧ fr = [(19, I i), (18, I ls.length), (17, roLL ls), (4, .sl 1 1 0 s.length)] ∧ H = [(1, .cells 4 (.bools v))]) ?_ ?_
    · refine ⟨_, _, _, ?_, 0, List.replicate s.length false, by omega, rfl, by simp, rfl, rfl, rfl⟩
      refine Wk.sub ?_ ?_ <;> simp only [go_sem, Nat.reduceLT, Nat.reduceLeDiff, Nat.reduceEqDiff, Nat.reduceBEq, Nat.reduceBNe, Nat.reduceAdd, Nat.reduceMul, Nat.reduceSub, Nat.reduceDiv, Nat.reduceMod, Int.reduceToNat, Int.reduceAdd, Int.reduceLT, Int.reduceLE, Int.reduceEq, Int.reduceSub, Int.reduceMul, Int.reduceNeg, ↓reduceIte, reduceCtorEq]
    rintro n fr H ⟨i, v, hi, rfl, hvl, hbad, rfl, rfl⟩
    by_cases hil : i < ls.length
    · have hg := getD_roF ls i hil
      have hme := hmem (ls.getD i []) (by simp [hil])
      rw [drop_cons ls i [] hil] at hbad
      generalize ls.getD i [] = l at *
      repeat' (first | omega | ((first | refine awC_sound _ _ _ _ ?_ | skip); simp only [go_sem, Nat.reduceLT, Nat.reduceLeDiff, Nat.reduceEqDiff, Nat.reduceBEq, Nat.reduceBNe, Nat.reduceAdd, Nat.reduceMul, Nat.reduceSub, Nat.reduceDiv, Nat.reduceMod, Int.reduceToNat, Int.reduceAdd, Int.reduceLT, Int.reduceLE, Int.reduceEq, Int.reduceSub, Int.reduceMul, Int.reduceNeg, ↓reduceIte, reduceCtorEq, hg]) | (refine gspDI ?_ ?_ <;> (intro _hh; (try simp only [_hh]); revert _hh)) | refine gspLI ?_ ?_ | refine condLI ?_ ?_ | refine gspI ?_ ?_ | refine And.intro ?_ ?_ | with_reducible intro _hh | trivial | (simp only [cl1, cl2, cl3, List.length_cons, List.length_nil, List.length_append]; omega))
      refine LoopA.intro (fun n fr H => ∃ (k : Nat) (v' : List Bool), k ≤ l.length ∧ n = l.length - k ∧ v'.length = s.length ∧ badS v' (l.drop k) = badS v l ∧ fr = [(25, I k), (24, I l.length), (23, roI l), (19, I i), (18, I ls.length), (17, roLL ls), (4, .sl 1 1 0 s.length)] ∧ H = [(1, .cells 4 (.bools v'))]) ?_ ?_
      · refine ⟨_, _, _, ?_, 0, v, by omega, rfl, hvl, rfl, rfl, rfl⟩
        refine Wk.sub ?_ ?_ <;> simp only [go_sem, Nat.reduceLT, Nat.reduceLeDiff, Nat.reduceEqDiff, Nat.reduceBEq, Nat.reduceBNe, Nat.reduceAdd, Nat.reduceMul, Nat.reduceSub, Nat.reduceDiv, Nat.reduceMod, Int.reduceToNat, Int.reduceAdd, Int.reduceLT, Int.reduceLE, Int.reduceEq, Int.reduceSub, Int.reduceMul, Int.reduceNeg, ↓reduceIte, reduceCtorEq]
      rintro n fr H ⟨k, v', hk, rfl, hvl', hbs, rfl, rfl⟩
      by_cases hkl : k < l.length
      · have hx := hme.2 (l.getD k 0) (by simp [hkl])
        rw [drop_cons l k 0 hkl] at hbs
        have e1 : (l.getD k 0).tdiv 4 = l.getD k 0 / 4 := tdiv_nn hx.1
        have e2 : (l.getD k 0).tmod 2 = l.getD k 0 % 2 := tmod_nn hx.1
        have hstep : ¬ (v'.getD (l.getD k 0 / 4).toNat false = false ∧ l.getD k 0 % 2 = 0) → badS (v'.set (l.getD k 0 / 4).toNat true) (l.drop (k + 1)) = badS v l := fun hn => by
          rw [← hbs]; simp only [badS]; rw [if_neg hn]
        have hhit : (v'.getD (l.getD k 0 / 4).toNat false = false ∧ l.getD k 0 % 2 = 0) → badLL (List.replicate s.length false) ls = some (l.getD k 0 / 4) := fun hn => by
          rw [← hbad]
          simp only [badS] at hbs
          rw [if_pos hn] at hbs
          simp only [badLL, ← hbs]
        repeat' (first | omega | ((first | refine awC_sound _ _ _ _ ?_ | skip); simp only [go_sem, Nat.reduceLT, Nat.reduceLeDiff, Nat.reduceEqDiff, Nat.reduceBEq, Nat.reduceBNe, Nat.reduceAdd, Nat.reduceMul, Nat.reduceSub, Nat.reduceDiv, Nat.reduceMod, Int.reduceToNat, Int.reduceAdd, Int.reduceLT, Int.reduceLE, Int.reduceEq, Int.reduceSub, Int.reduceMul, Int.reduceNeg, ↓reduceIte, reduceCtorEq, e1, e2]) | (refine gspDI ?_ ?_ <;> (intro _hh; (try simp only [_hh]); revert _hh)) | refine gspLI ?_ ?_ | refine condLI ?_ ?_ | refine gspI ?_ ?_ | refine And.intro ?_ ?_ | with_reducible intro _hh | trivial | (simp only [cl1, cl2, cl3, List.length_cons, List.length_nil, List.length_append]; omega))
        · rw [hhit ⟨by assumption, by assumption⟩]
        · rw [hhit ⟨by assumption, by assumption⟩]
        all_goals refine ⟨_, _, _, ?_, ?_, ⟨k + 1, v'.set (l.getD k 0 / 4).toNat true, by omega, rfl, by simp [hvl'], hstep (by simp_all), rfl, rfl⟩⟩
        all_goals first | omega | refine Wk.sub ?_ ?_ <;> simp only [go_sem, Nat.reduceLT, Nat.reduceLeDiff, Nat.reduceEqDiff, Nat.reduceBEq, Nat.reduceBNe, Nat.reduceAdd, Nat.reduceMul, Nat.reduceSub, Nat.reduceDiv, Nat.reduceMod, Int.reduceToNat, Int.reduceAdd, Int.reduceLT, Int.reduceLE, Int.reduceEq, Int.reduceSub, Int.reduceMul, Int.reduceNeg, ↓reduceIte, reduceCtorEq]
      · obtain rfl : k = l.length := by omega
        rw [List.drop_length] at hbs
        repeat' (first | omega | ((first | refine awC_sound _ _ _ _ ?_ | skip); simp only [go_sem, Nat.reduceLT, Nat.reduceLeDiff, Nat.reduceEqDiff, Nat.reduceBEq, Nat.reduceBNe, Nat.reduceAdd, Nat.reduceMul, Nat.reduceSub, Nat.reduceDiv, Nat.reduceMod, Int.reduceToNat, Int.reduceAdd, Int.reduceLT, Int.reduceLE, Int.reduceEq, Int.reduceSub, Int.reduceMul, Int.reduceNeg, ↓reduceIte, reduceCtorEq]) | (refine gspDI ?_ ?_ <;> (intro _hh; (try simp only [_hh]); revert _hh)) | refine gspLI ?_ ?_ | refine condLI ?_ ?_ | refine gspI ?_ ?_ | refine And.intro ?_ ?_ | with_reducible intro _hh | trivial | (simp only [cl1, cl2, cl3, List.length_cons, List.length_nil, List.length_append]; omega))
        refine ⟨_, _, _, ?_, ?_, ⟨i + 1, v', by omega, rfl, hvl', ?_, rfl, rfl⟩⟩
        · omega
        · refine Wk.sub ?_ ?_ <;> simp only [go_sem, Nat.reduceLT, Nat.reduceLeDiff, Nat.reduceEqDiff, Nat.reduceBEq, Nat.reduceBNe, Nat.reduceAdd, Nat.reduceMul, Nat.reduceSub, Nat.reduceDiv, Nat.reduceMod, Int.reduceToNat, Int.reduceAdd, Int.reduceLT, Int.reduceLE, Int.reduceEq, Int.reduceSub, Int.reduceMul, Int.reduceNeg, ↓reduceIte, reduceCtorEq]
        · rw [← hbad]; simp only [badLL, ← hbs, badS]
    · obtain rfl : i = ls.length := by omega
      rw [List.drop_length] at hbad
      rw [← hbad]
      repeat' (first | omega | ((first | refine awC_sound _ _ _ _ ?_ | skip); simp only [go_sem, Nat.reduceLT, Nat.reduceLeDiff, Nat.reduceEqDiff, Nat.reduceBEq, Nat.reduceBNe, Nat.reduceAdd, Nat.reduceMul, Nat.reduceSub, Nat.reduceDiv, Nat.reduceMod, Int.reduceToNat, Int.reduceAdd, Int.reduceLT, Int.reduceLE, Int.reduceEq, Int.reduceSub, Int.reduceMul, Int.reduceNeg, ↓reduceIte, reduceCtorEq]) | (refine gspDI ?_ ?_ <;> (intro _hh; (try simp only [_hh]); revert _hh)) | refine gspLI ?_ ?_ | refine condLI ?_ ?_ | refine gspI ?_ ?_ | refine And.intro ?_ ?_ | with_reducible intro _hh | trivial | (simp only [cl1, cl2, cl3, List.length_cons, List.length_nil, List.length_append]; omega))
end Go.Proofs.YtmplhbgolhlicaaDoor
