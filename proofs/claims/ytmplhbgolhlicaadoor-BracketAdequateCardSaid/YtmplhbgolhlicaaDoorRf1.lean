/- The reference of layer 1: turns, faces. -/
import Derived.Test.YtmplhbgolhlicaaDoorDg5
set_option linter.unusedSimpArgs false
set_option linter.unusedVariables false
namespace Go.Proofs.YtmplhbgolhlicaaDoor
open Go Go.RowKit
set_option maxRecDepth 100000
set_option maxHeartbeats 8000000
theorem fn_rTurn (h b : Int) (h0 : 0 ≤ h) (h1 : h ≤ 100000) : Fn Tryd.prog 120 [I h, I b] (I (turnM h b)) := by
  have e1 : h.tmod 4 = h % 4 := Int.tmod_eq_emod_of_nonneg h0
  have e2 : -4 < b.tmod 4 ∧ b.tmod 4 < 4 := ⟨Int.lt_tmod_of_pos b (by decide), Int.tmod_lt_of_pos b (by decide)⟩
  have e4 : (h % 4 + b.tmod 4).tmod 4 = if 0 ≤ h % 4 + b.tmod 4 then (h % 4 + b.tmod 4) % 4 else h % 4 + b.tmod 4 := by
    split
    · exact Int.tmod_eq_emod_of_nonneg (by omega)
    · rename_i hn
      have : (h % 4 + b.tmod 4) = -(-(h % 4 + b.tmod 4)) := by omega
      rw [this, Int.neg_tmod, Int.tmod_eq_emod_of_nonneg (by omega)]
      omega
  have e3 : ((h % 4 + b.tmod 4).tmod 4 + 4).tmod 4 = (h % 4 + b.tmod 4 + 4) % 4 := by
    rw [e4, Int.tmod_eq_emod_of_nonneg (by split <;> omega)]
    split <;> omega
  unfold turnM
  refine Fn.intro [.tmp 4] Tryd.func120 rfl rfl (by decide) (by simp [Tryd.ntmps120]) ?_; rw [Tryd.ntmps120]
  repeat' (first | omega | ((first | refine awC_sound _ _ _ _ ?_ | skip); simp only [go_sem, Nat.reduceLT, Nat.reduceLeDiff, Nat.reduceEqDiff, Nat.reduceBEq, Nat.reduceBNe, Nat.reduceAdd, Nat.reduceMul, Nat.reduceSub, Nat.reduceDiv, Nat.reduceMod, Int.reduceToNat, Int.reduceAdd, Int.reduceLT, Int.reduceLE, Int.reduceEq, Int.reduceSub, Int.reduceMul, Int.reduceNeg, ↓reduceIte, reduceCtorEq]) | (refine gspDI ?_ ?_ <;> (intro _hh; (try simp only [_hh]); revert _hh)) | refine gspLI ?_ ?_ | refine condLI ?_ ?_ | refine gspI ?_ ?_ | refine And.intro ?_ ?_ | with_reducible intro _hh | trivial | (simp only [cl1, cl2, cl3, List.length_cons, List.length_nil, List.length_append]; omega))
  all_goals try simp only [e1, e3]
  all_goals try (rw [e4]; split <;> omega)
  all_goals try omega
theorem fn_rOut (s : List Int) (h : Int) (h0 : 0 ≤ h) (h1 : h < 4 * s.length) (hs : s.length ≤ 1000) : Fn Tryd.prog 55 [roI s, I h] (.bool (outB s h)) := by
  have e1 : h.tmod 4 = h % 4 := Int.tmod_eq_emod_of_nonneg h0
  have e2 : h.tdiv 4 = h / 4 := Int.tdiv_eq_ediv_of_nonneg h0
  refine Fn.intro [.tmp 4] Tryd.func55 rfl rfl (by decide) (by simp [Tryd.ntmps55]) ?_; rw [Tryd.ntmps55]
  repeat' (first | omega | ((first | refine awC_sound _ _ _ _ ?_ | skip); simp only [go_sem, Nat.reduceLT, Nat.reduceLeDiff, Nat.reduceEqDiff, Nat.reduceBEq, Nat.reduceBNe, Nat.reduceAdd, Nat.reduceMul, Nat.reduceSub, Nat.reduceDiv, Nat.reduceMod, Int.reduceToNat, Int.reduceAdd, Int.reduceLT, Int.reduceLE, Int.reduceEq, Int.reduceSub, Int.reduceMul, Int.reduceNeg, ↓reduceIte, reduceCtorEq]) | (refine gspDI ?_ ?_ <;> (intro _hh; (try simp only [_hh]); revert _hh)) | refine gspLI ?_ ?_ | refine condLI ?_ ?_ | refine gspI ?_ ?_ | refine And.intro ?_ ?_ | with_reducible intro _hh | trivial | (simp only [cl1, cl2, cl3, List.length_cons, List.length_nil, List.length_append]; omega))
  all_goals try simp only [e1, e2] at *
  all_goals try omega
  all_goals simp_all [outB]
theorem fn_rFace (m : List Int) (n h : Nat) (hn : n ≤ 1000) (hml : m.length = 4 * n) (hm : ∀ i, i < m.length → 0 ≤ m.getD i 0 ∧ m.getD i 0 < 4 * n) (hh : h < m.length) : Fn Tryd.prog 105 [roI m, I h] (roI (orbF (faceNx m) m.length h)) := by
  have hnx : ∀ g : Nat, g < m.length → Fn Tryd.prog 120 [I (m.getD g 0), I (-1)] (I (faceNx m g)) := fun g hg => by
    have := hm g hg
    exact fn_rTurn _ _ (by omega) (by omega)
  have hrg : ∀ g : Nat, g < m.length → 0 ≤ faceNx m g ∧ faceNx m g < 4 * n := fun g hg => turnM_range (hm g hg).1 (hm g hg).2
  have hbig : ∀ g : Nat, g < m.length → (g : Int) < m.length := fun g hg => by omega
  have hh' := hnx h hh
  refine Fn.intro [.tmp 4] Tryd.func105 rfl rfl (by decide) (by simp [Tryd.ntmps105]) ?_; rw [Tryd.ntmps105]
  repeat' (first | omega | ((first | refine awC_sound _ _ _ _ ?_ | skip); simp only [go_sem, Nat.reduceLT, Nat.reduceLeDiff, Nat.reduceEqDiff, Nat.reduceBEq, Nat.reduceBNe, Nat.reduceAdd, Nat.reduceMul, Nat.reduceSub, Nat.reduceDiv, Nat.reduceMod, Int.reduceToNat, Int.reduceAdd, Int.reduceLT, Int.reduceLE, Int.reduceEq, Int.reduceSub, Int.reduceMul, Int.reduceNeg, ↓reduceIte, reduceCtorEq]) | (refine gspDI ?_ ?_ <;> (intro _hh; (try simp only [_hh]); revert _hh)) | refine gspLI ?_ ?_ | refine condLI ?_ ?_ | refine gspI ?_ ?_ | refine And.intro ?_ ?_ | with_reducible intro _hh | trivial | (simp only [cl1, cl2, cl3, List.length_cons, List.length_nil, List.length_append]; omega))
  refine ⟨CallB.fn rfl hh' ?_⟩
  repeat' (first | omega | ((first | refine awC_sound _ _ _ _ ?_ | skip); simp only [go_sem, Nat.reduceLT, Nat.reduceLeDiff, Nat.reduceEqDiff, Nat.reduceBEq, Nat.reduceBNe, Nat.reduceAdd, Nat.reduceMul, Nat.reduceSub, Nat.reduceDiv, Nat.reduceMod, Int.reduceToNat, Int.reduceAdd, Int.reduceLT, Int.reduceLE, Int.reduceEq, Int.reduceSub, Int.reduceMul, Int.reduceNeg, ↓reduceIte, reduceCtorEq]) | (refine gspDI ?_ ?_ <;> (intro _hh; (try simp only [_hh]); revert _hh)) | refine gspLI ?_ ?_ | refine condLI ?_ ?_ | refine gspI ?_ ?_ | refine And.intro ?_ ?_ | with_reducible intro _hh | trivial | (simp only [cl1, cl2, cl3, List.length_cons, List.length_nil, List.length_append]; omega))
  refine LoopA.intro (fun k fr H => ∃ (acc : List Int) (g : Nat), g < m.length ∧ 0 < acc.length ∧ acc.length + k = m.length + 2 ∧ acc ++ orbG (faceNx m) h (m.length + 1 - acc.length) g = orbF (faceNx m) m.length h ∧ fr = [(6, I g), (5, .sl 1 0 0 acc.length), (1, I h), (0, roI m)] ∧ H = [(0, .cells 3 (.ints acc))]) ?_ ?_
  · have h2 := hrg h hh
    refine ⟨m.length + 1, _, _, ?_, [(h : Int)], (faceNx m h).toNat, by omega, by simp, by simp; omega, ?_, rfl, rfl⟩
    · refine Wk.sub ?_ ?_ <;> simp only [go_sem, Nat.reduceLT, Nat.reduceLeDiff, Nat.reduceEqDiff, Nat.reduceBEq, Nat.reduceBNe, Nat.reduceAdd, Nat.reduceMul, Nat.reduceSub, Nat.reduceDiv, Nat.reduceMod, Int.reduceToNat, Int.reduceAdd, Int.reduceLT, Int.reduceLE, Int.reduceEq, Int.reduceSub, Int.reduceMul, Int.reduceNeg, ↓reduceIte, reduceCtorEq]
      all_goals omega
    · rw [Int.toNat_of_nonneg h2.1]; simp [orbF]
  rintro k fr H ⟨acc, g, hg, ha, hk, hacc, rfl, rfl⟩
  have hg' := hnx g hg
  have hr := hrg g hg
  have key : ((g : Int) = h ∨ m.length < acc.length) → acc = orbF (faceNx m) m.length h := fun hc => by
    rw [← hacc]
    rcases hc with e | e
    · have : orbG (faceNx m) h (m.length + 1 - acc.length) g = [] := by
        cases m.length + 1 - acc.length with
        | zero => rfl
        | succ f => simp [orbG, e]
      rw [this, List.append_nil]
    · rw [show m.length + 1 - acc.length = 0 by omega]; simp [orbG]
  repeat' (first | omega | ((first | refine awC_sound _ _ _ _ ?_ | skip); simp only [go_sem, Nat.reduceLT, Nat.reduceLeDiff, Nat.reduceEqDiff, Nat.reduceBEq, Nat.reduceBNe, Nat.reduceAdd, Nat.reduceMul, Nat.reduceSub, Nat.reduceDiv, Nat.reduceMod, Int.reduceToNat, Int.reduceAdd, Int.reduceLT, Int.reduceLE, Int.reduceEq, Int.reduceSub, Int.reduceMul, Int.reduceNeg, ↓reduceIte, reduceCtorEq]) | (refine gspDI ?_ ?_ <;> (intro _hh; (try simp only [_hh]); revert _hh)) | refine gspLI ?_ ?_ | refine condLI ?_ ?_ | refine gspI ?_ ?_ | refine And.intro ?_ ?_ | with_reducible intro _hh | trivial | (simp only [cl1, cl2, cl3, List.length_cons, List.length_nil, List.length_append]; omega))
  · refine ⟨CallB.fn rfl hg' ?_⟩
    repeat' (first | omega | ((first | refine awC_sound _ _ _ _ ?_ | skip); simp only [go_sem, Nat.reduceLT, Nat.reduceLeDiff, Nat.reduceEqDiff, Nat.reduceBEq, Nat.reduceBNe, Nat.reduceAdd, Nat.reduceMul, Nat.reduceSub, Nat.reduceDiv, Nat.reduceMod, Int.reduceToNat, Int.reduceAdd, Int.reduceLT, Int.reduceLE, Int.reduceEq, Int.reduceSub, Int.reduceMul, Int.reduceNeg, ↓reduceIte, reduceCtorEq]) | (refine gspDI ?_ ?_ <;> (intro _hh; (try simp only [_hh]); revert _hh)) | refine gspLI ?_ ?_ | refine condLI ?_ ?_ | refine gspI ?_ ?_ | refine And.intro ?_ ?_ | with_reducible intro _hh | trivial | (simp only [cl1, cl2, cl3, List.length_cons, List.length_nil, List.length_append]; omega))
    refine ⟨k - 1, _, _, ?_, ?_, ⟨acc ++ [(g : Int)], (faceNx m g).toNat, by omega, by simp, by simp; omega, ?_, rfl, rfl⟩⟩
    · omega
    · refine Wk.sub ?_ ?_ <;> simp only [go_sem, Nat.reduceLT, Nat.reduceLeDiff, Nat.reduceEqDiff, Nat.reduceBEq, Nat.reduceBNe, Nat.reduceAdd, Nat.reduceMul, Nat.reduceSub, Nat.reduceDiv, Nat.reduceMod, Int.reduceToNat, Int.reduceAdd, Int.reduceLT, Int.reduceLE, Int.reduceEq, Int.reduceSub, Int.reduceMul, Int.reduceNeg, ↓reduceIte, reduceCtorEq]
      all_goals omega
    · rw [← hacc, Int.toNat_of_nonneg hr.1, show m.length + 1 - acc.length = (m.length + 1 - (acc ++ [(g : Int)]).length) + 1 by simp; omega]
      rw [orbG, if_neg (by omega)]; simp
  all_goals first
    | exact congrArg List.length (key (by omega))
    | (rw [List.take_length]; exact key (by omega))
end Go.Proofs.YtmplhbgolhlicaaDoor
