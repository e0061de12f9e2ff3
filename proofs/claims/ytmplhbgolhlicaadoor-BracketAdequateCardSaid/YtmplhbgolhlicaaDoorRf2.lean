/- The reference of layer 1: strands, equal lists. -/
import Derived.Test.YtmplhbgolhlicaaDoorRf1
set_option linter.unusedSimpArgs false
set_option linter.unusedVariables false
namespace Go.Proofs.YtmplhbgolhlicaaDoor
open Go Go.RowKit
set_option maxRecDepth 100000
set_option maxHeartbeats 8000000
theorem fn_rStrand (s m : List Int) (L : Int) (n h : Nat) (hn : n ≤ 1000) (hml : m.length = 4 * n) (hm : ∀ i, i < m.length → 0 ≤ m.getD i 0 ∧ m.getD i 0 < 4 * n) (hh : h < m.length) : Fn Tryd.prog 106 [dgA s m L, I h] (roI (orbF (strNx m) m.length h)) := by
  have hnx : ∀ g : Nat, g < m.length → Fn Tryd.prog 120 [I (m.getD g 0), I 2] (I (strNx m g)) := fun g hg => by
    have := hm g hg
    exact fn_rTurn _ _ (by omega) (by omega)
  have hrg : ∀ g : Nat, g < m.length → 0 ≤ strNx m g ∧ strNx m g < 4 * n := fun g hg => turnM_range (hm g hg).1 (hm g hg).2
  have hbig : ∀ g : Nat, g < m.length → (g : Int) < m.length := fun g hg => by omega
  have hh' := hnx h hh
  refine Fn.intro [.tmp 4] Tryd.func106 rfl rfl (by decide) (by simp [Tryd.ntmps106]) ?_; rw [Tryd.ntmps106]
  repeat' (first | omega | ((first | refine awC_sound _ _ _ _ ?_ | skip); simp only [go_sem, Nat.reduceLT, Nat.reduceLeDiff, Nat.reduceEqDiff, Nat.reduceBEq, Nat.reduceBNe, Nat.reduceAdd, Nat.reduceMul, Nat.reduceSub, Nat.reduceDiv, Nat.reduceMod, Int.reduceToNat, Int.reduceAdd, Int.reduceLT, Int.reduceLE, Int.reduceEq, Int.reduceSub, Int.reduceMul, Int.reduceNeg, ↓reduceIte, reduceCtorEq]) | (refine gspDI ?_ ?_ <;> (intro _hh; (try simp only [_hh]); revert _hh)) | refine gspLI ?_ ?_ | refine condLI ?_ ?_ | refine gspI ?_ ?_ | refine And.intro ?_ ?_ | with_reducible intro _hh | trivial | (simp only [cl1, cl2, cl3, List.length_cons, List.length_nil, List.length_append]; omega))
  refine ⟨CallB.fn rfl hh' ?_⟩
  repeat' (first | omega | ((first | refine awC_sound _ _ _ _ ?_ | skip); simp only [go_sem, Nat.reduceLT, Nat.reduceLeDiff, Nat.reduceEqDiff, Nat.reduceBEq, Nat.reduceBNe, Nat.reduceAdd, Nat.reduceMul, Nat.reduceSub, Nat.reduceDiv, Nat.reduceMod, Int.reduceToNat, Int.reduceAdd, Int.reduceLT, Int.reduceLE, Int.reduceEq, Int.reduceSub, Int.reduceMul, Int.reduceNeg, ↓reduceIte, reduceCtorEq]) | (refine gspDI ?_ ?_ <;> (intro _hh; (try simp only [_hh]); revert _hh)) | refine gspLI ?_ ?_ | refine condLI ?_ ?_ | refine gspI ?_ ?_ | refine And.intro ?_ ?_ | with_reducible intro _hh | trivial | (simp only [cl1, cl2, cl3, List.length_cons, List.length_nil, List.length_append]; omega))
  refine LoopA.intro (fun k fr H => ∃ (acc : List Int) (g : Nat), g < m.length ∧ 0 < acc.length ∧ acc.length + k = m.length + 2 ∧ acc ++ orbG (strNx m) h (m.length + 1 - acc.length) g = orbF (strNx m) m.length h ∧ fr = [(6, I g), (5, .sl 1 1 0 acc.length), (2, .ptr 0 0), (1, I h)] ∧ H = [(1, .cells 3 (.ints acc)), (0, .cells 24 (.lst [roI s, roI m, I L]))]) ?_ ?_
  · have h2 := hrg h hh
    refine ⟨m.length + 1, _, _, ?_, [(h : Int)], (strNx m h).toNat, by omega, by simp, by simp; omega, ?_, rfl, rfl⟩
    · refine Wk.sub ?_ ?_ <;> simp only [go_sem, Nat.reduceLT, Nat.reduceLeDiff, Nat.reduceEqDiff, Nat.reduceBEq, Nat.reduceBNe, Nat.reduceAdd, Nat.reduceMul, Nat.reduceSub, Nat.reduceDiv, Nat.reduceMod, Int.reduceToNat, Int.reduceAdd, Int.reduceLT, Int.reduceLE, Int.reduceEq, Int.reduceSub, Int.reduceMul, Int.reduceNeg, ↓reduceIte, reduceCtorEq]
      all_goals omega
    · rw [Int.toNat_of_nonneg h2.1]; simp [orbF]
  rintro k fr H ⟨acc, g, hg, ha, hk, hacc, rfl, rfl⟩
  have hg' := hnx g hg
  have hr := hrg g hg
  have key : ((g : Int) = h ∨ m.length < acc.length) → acc = orbF (strNx m) m.length h := fun hc => by
    rw [← hacc]
    rcases hc with e | e
    · have : orbG (strNx m) h (m.length + 1 - acc.length) g = [] := by
        cases m.length + 1 - acc.length with
        | zero => rfl
        | succ f => simp [orbG, e]
      rw [this, List.append_nil]
    · rw [show m.length + 1 - acc.length = 0 by omega]; simp [orbG]
  repeat' (first | omega | ((first | refine awC_sound _ _ _ _ ?_ | skip); simp only [go_sem, Nat.reduceLT, Nat.reduceLeDiff, Nat.reduceEqDiff, Nat.reduceBEq, Nat.reduceBNe, Nat.reduceAdd, Nat.reduceMul, Nat.reduceSub, Nat.reduceDiv, Nat.reduceMod, Int.reduceToNat, Int.reduceAdd, Int.reduceLT, Int.reduceLE, Int.reduceEq, Int.reduceSub, Int.reduceMul, Int.reduceNeg, ↓reduceIte, reduceCtorEq]) | (refine gspDI ?_ ?_ <;> (intro _hh; (try simp only [_hh]); revert _hh)) | refine gspLI ?_ ?_ | refine condLI ?_ ?_ | refine gspI ?_ ?_ | refine And.intro ?_ ?_ | with_reducible intro _hh | trivial | (simp only [cl1, cl2, cl3, List.length_cons, List.length_nil, List.length_append]; omega))
  · refine ⟨CallB.fn rfl hg' ?_⟩
    repeat' (first | omega | ((first | refine awC_sound _ _ _ _ ?_ | skip); simp only [go_sem, Nat.reduceLT, Nat.reduceLeDiff, Nat.reduceEqDiff, Nat.reduceBEq, Nat.reduceBNe, Nat.reduceAdd, Nat.reduceMul, Nat.reduceSub, Nat.reduceDiv, Nat.reduceMod, Int.reduceToNat, Int.reduceAdd, Int.reduceLT, Int.reduceLE, Int.reduceEq, Int.reduceSub, Int.reduceMul, Int.reduceNeg, ↓reduceIte, reduceCtorEq]) | (refine gspDI ?_ ?_ <;> (intro _hh; (try simp only [_hh]); revert _hh)) | refine gspLI ?_ ?_ | refine condLI ?_ ?_ | refine gspI ?_ ?_ | refine And.intro ?_ ?_ | with_reducible intro _hh | trivial | (simp only [cl1, cl2, cl3, List.length_cons, List.length_nil, List.length_append]; omega))
    refine ⟨k - 1, _, _, ?_, ?_, ⟨acc ++ [(g : Int)], (strNx m g).toNat, by omega, by simp, by simp; omega, ?_, rfl, rfl⟩⟩
    · omega
    · refine Wk.sub ?_ ?_ <;> simp only [go_sem, Nat.reduceLT, Nat.reduceLeDiff, Nat.reduceEqDiff, Nat.reduceBEq, Nat.reduceBNe, Nat.reduceAdd, Nat.reduceMul, Nat.reduceSub, Nat.reduceDiv, Nat.reduceMod, Int.reduceToNat, Int.reduceAdd, Int.reduceLT, Int.reduceLE, Int.reduceEq, Int.reduceSub, Int.reduceMul, Int.reduceNeg, ↓reduceIte, reduceCtorEq]
      all_goals omega
    · rw [← hacc, Int.toNat_of_nonneg hr.1, show m.length + 1 - acc.length = (m.length + 1 - (acc ++ [(g : Int)]).length) + 1 by simp; omega]
      rw [orbG, if_neg (by omega)]; simp
  all_goals first
    | exact congrArg List.length (key (by omega))
    | (rw [List.take_length]; exact key (by omega))
theorem fn_rInts (a b : List Int) (hl : a.length ≤ 1000000) : Fn Tryd.prog 47 [roI a, roI b] (.bool (decide (a = b))) := by
  refine Fn.intro [.tmp 4] Tryd.func47 rfl rfl (by decide) (by simp [Tryd.ntmps47]) ?_; rw [Tryd.ntmps47]
  by_cases hab : a.length = b.length
  case neg =>
    have b0 : ((a.length : Int) != b.length) = true := by simp; omega
    have e : decide (a = b) = false := decide_eq_false fun e => hab (by rw [e])
    rw [e]
    repeat' (first | omega | ((first | refine awC_sound _ _ _ _ ?_ | (refine DrawA.intro (id := 6) [[18,21,22,23,24],[17,21,22,23,24],[21,22,23,24],[21,22,23,24],[17,18,19,20,22],[17,18,19,20,21],[17,18,19,20],[17,18,19,20],[]] [[],[0],[],[],[0,1,2,3],[0,1,2,3,4],[0,1,2,3],[0,1,2,3],[]] (by decide +kernel) mixed ?_) | skip); simp only [go_sem, Nat.reduceLT, Nat.reduceLeDiff, Nat.reduceEqDiff, Nat.reduceBEq, Nat.reduceBNe, Nat.reduceAdd, Nat.reduceMul, Nat.reduceSub, Nat.reduceDiv, Nat.reduceMod, Int.reduceToNat, Int.reduceAdd, Int.reduceLT, Int.reduceLE, Int.reduceEq, Int.reduceSub, Int.reduceMul, Int.reduceNeg, ↓reduceIte, reduceCtorEq, b0]) | (refine gspDI ?_ ?_ <;> (intro _hh; (try simp only [_hh]); revert _hh)) | refine gspLI ?_ ?_ | refine condLI ?_ ?_ | refine gspI ?_ ?_ | refine And.intro ?_ ?_ | with_reducible intro _hh | trivial | (simp only [cl1, cl2, cl3, List.length_cons, List.length_nil, List.length_append]; omega))
  have b0 : ((a.length : Int) != b.length) = false := by simp; omega
  repeat' (first | omega | ((first | refine awC_sound _ _ _ _ ?_ | (refine DrawA.intro (id := 6) [[18,21,22,23,24],[17,21,22,23,24],[21,22,23,24],[21,22,23,24],[17,18,19,20,22],[17,18,19,20,21],[17,18,19,20],[17,18,19,20],[]] [[],[0],[],[],[0,1,2,3],[0,1,2,3,4],[0,1,2,3],[0,1,2,3],[]] (by decide +kernel) mixed ?_) | skip); simp only [go_sem, Nat.reduceLT, Nat.reduceLeDiff, Nat.reduceEqDiff, Nat.reduceBEq, Nat.reduceBNe, Nat.reduceAdd, Nat.reduceMul, Nat.reduceSub, Nat.reduceDiv, Nat.reduceMod, Int.reduceToNat, Int.reduceAdd, Int.reduceLT, Int.reduceLE, Int.reduceEq, Int.reduceSub, Int.reduceMul, Int.reduceNeg, ↓reduceIte, reduceCtorEq, b0]) | (refine gspDI ?_ ?_ <;> (intro _hh; (try simp only [_hh]); revert _hh)) | refine gspLI ?_ ?_ | refine condLI ?_ ?_ | refine gspI ?_ ?_ | refine And.intro ?_ ?_ | with_reducible intro _hh | trivial | (simp only [cl1, cl2, cl3, List.length_cons, List.length_nil, List.length_append]; omega))
  refine LoopA.intro (fun n fr H => ∃ i : Nat, i ≤ a.length ∧ n = a.length - i ∧ (∀ j, j < i → a.getD j 0 = b.getD j 0) ∧ fr = [(5, I i), (1, roI b), (0, roI a)] ∧ H = []) ?_ ?_
  · refine ⟨_, _, _, ?_, 0, by omega, rfl, fun j hj => by omega, rfl, rfl⟩
    refine Wk.sub ?_ ?_ <;> simp only [go_sem, Nat.reduceLT, Nat.reduceLeDiff, Nat.reduceEqDiff, Nat.reduceBEq, Nat.reduceBNe, Nat.reduceAdd, Nat.reduceMul, Nat.reduceSub, Nat.reduceDiv, Nat.reduceMod, Int.reduceToNat, Int.reduceAdd, Int.reduceLT, Int.reduceLE, Int.reduceEq, Int.reduceSub, Int.reduceMul, Int.reduceNeg, ↓reduceIte, reduceCtorEq]
  rintro n fr H ⟨i, hi, rfl, hj, rfl, rfl⟩
  repeat' (first | omega | ((first | refine awC_sound _ _ _ _ ?_ | (refine DrawA.intro (id := 6) [[18,21,22,23,24],[17,21,22,23,24],[21,22,23,24],[21,22,23,24],[17,18,19,20,22],[17,18,19,20,21],[17,18,19,20],[17,18,19,20],[]] [[],[0],[],[],[0,1,2,3],[0,1,2,3,4],[0,1,2,3],[0,1,2,3],[]] (by decide +kernel) mixed ?_) | skip); simp only [go_sem, Nat.reduceLT, Nat.reduceLeDiff, Nat.reduceEqDiff, Nat.reduceBEq, Nat.reduceBNe, Nat.reduceAdd, Nat.reduceMul, Nat.reduceSub, Nat.reduceDiv, Nat.reduceMod, Int.reduceToNat, Int.reduceAdd, Int.reduceLT, Int.reduceLE, Int.reduceEq, Int.reduceSub, Int.reduceMul, Int.reduceNeg, ↓reduceIte, reduceCtorEq]) | (refine gspDI ?_ ?_ <;> (intro _hh; (try simp only [_hh]); revert _hh)) | refine gspLI ?_ ?_ | refine condLI ?_ ?_ | refine gspI ?_ ?_ | refine And.intro ?_ ?_ | with_reducible intro _hh | trivial | (simp only [cl1, cl2, cl3, List.length_cons, List.length_nil, List.length_append]; omega))
  · exact (decide_eq_false fun e => _hh (by rw [e])).symm
  · have h2 := _hh
    refine ⟨_, _, _, ?_, ?_, ⟨i + 1, by omega, rfl, fun j hj' => ?_, rfl, rfl⟩⟩
    · omega
    · refine Wk.sub ?_ ?_ <;> simp only [go_sem, Nat.reduceLT, Nat.reduceLeDiff, Nat.reduceEqDiff, Nat.reduceBEq, Nat.reduceBNe, Nat.reduceAdd, Nat.reduceMul, Nat.reduceSub, Nat.reduceDiv, Nat.reduceMod, Int.reduceToNat, Int.reduceAdd, Int.reduceLT, Int.reduceLE, Int.reduceEq, Int.reduceSub, Int.reduceMul, Int.reduceNeg, ↓reduceIte, reduceCtorEq]
    · by_cases e : j = i
      · subst e; exact h2
      · exact hj j (by omega)
  · obtain rfl : i = a.length := by omega
    refine (decide_eq_true (List.ext_getElem hab fun j h1 h2 => ?_)).symm
    have := hj j h1
    simpa [h1, h2] using this
theorem rlH_len (m l : List Int) : ∀ h, (rlH m l h).length = l.length
  | 0 => rfl
  | h + 1 => by simp only [rlH, rl1, List.length_set]; exact rlH_len m l h
theorem rlP_len (m : List Int) (n : Nat) : ∀ k, (rlP m n k).length = n
  | 0 => by simp [rlP]
  | k + 1 => by simp only [rlP]; rw [rlH_len, rlP_len m n k]
theorem fn_rLabel (m : List Int) (n : Nat) (hn : n ≤ 1000) (hm : mateOk m n) : Fn Tryd.prog 56 [roI m] (roI (rlP m n n)) := by
  obtain ⟨hml, hmr⟩ := hm
  have e0 : (m.length : Int).tdiv 4 = n := by rw [tdiv_nn (by omega)]; omega
  refine Fn.intro [.tmp 2] Tryd.func56 rfl rfl (by decide) (by simp [Tryd.ntmps56]) ?_; rw [Tryd.ntmps56]
  repeat' (first | omega | ((first | refine awC_sound _ _ _ _ ?_ | (refine DrawA.intro (id := 13) [[38,39,40,41,42],[38,39,40,41,42],[36,37,39,8],[36,37,38,8],[36,37,8],[36,37,8],[36,37,8],[38,39,40,41,42],[]] [[],[],[0,1],[0,1,2],[0,1],[0,1],[0,1],[2,3,4,5,6],[]] (by decide +kernel) mixed ?_) | (refine DrawA.intro (id := 14) [[44,47,48,49,50],[43,47,48,49,50],[47,48,49,50],[47,48,49,50],[43,44,45,46,48],[43,44,45,46,47],[43,44,45,46],[43,44,45,46],[],[]] [[],[0],[],[],[0,1,2,3],[0,1,2,3,4],[0,1,2,3],[0,1,2,3],[],[]] (by decide +kernel) mixed ?_) | skip); simp only [go_sem, Nat.reduceLT, Nat.reduceLeDiff, Nat.reduceEqDiff, Nat.reduceBEq, Nat.reduceBNe, Nat.reduceAdd, Nat.reduceMul, Nat.reduceSub, Nat.reduceDiv, Nat.reduceMod, Int.reduceToNat, Int.reduceAdd, Int.reduceLT, Int.reduceLE, Int.reduceEq, Int.reduceSub, Int.reduceMul, Int.reduceNeg, ↓reduceIte, reduceCtorEq, e0]) | (refine gspDI ?_ ?_ <;> (intro _hh; (try simp only [_hh]); revert _hh)) | refine gspLI ?_ ?_ | refine condLI ?_ ?_ | refine gspI ?_ ?_ | refine And.intro ?_ ?_ | with_reducible intro _hh | trivial | (simp only [cl1, cl2, cl3, List.length_cons, List.length_nil, List.length_append]; omega))
  refine LoopA.intro (fun t fr H => ∃ k : Nat, k ≤ n ∧ t = n - k ∧ fr = [(5, I k), (4, .sl 1 0 0 n), (3, I n), (0, roI m)] ∧ H = [(0, .cells 3 (.ints ((List.range k).map (fun (i : Nat) => (i : Int)) ++ List.replicate (n - k) 0)))]) ?_ ?_
  · refine ⟨_, _, _, ?_, 0, by omega, rfl, rfl, rfl⟩
    refine Wk.sub ?_ ?_ <;> simp only [go_sem, Nat.reduceLT, Nat.reduceLeDiff, Nat.reduceEqDiff, Nat.reduceBEq, Nat.reduceBNe, Nat.reduceAdd, Nat.reduceMul, Nat.reduceSub, Nat.reduceDiv, Nat.reduceMod, Int.reduceToNat, Int.reduceAdd, Int.reduceLT, Int.reduceLE, Int.reduceEq, Int.reduceSub, Int.reduceMul, Int.reduceNeg, ↓reduceIte, reduceCtorEq]
    all_goals simp
  rintro t fr H ⟨k, hk, rfl, rfl, rfl⟩
  repeat' (first | omega | ((first | refine awC_sound _ _ _ _ ?_ | (refine DrawA.intro (id := 13) [[38,39,40,41,42],[38,39,40,41,42],[36,37,39,8],[36,37,38,8],[36,37,8],[36,37,8],[36,37,8],[38,39,40,41,42],[]] [[],[],[0,1],[0,1,2],[0,1],[0,1],[0,1],[2,3,4,5,6],[]] (by decide +kernel) mixed ?_) | (refine DrawA.intro (id := 14) [[44,47,48,49,50],[43,47,48,49,50],[47,48,49,50],[47,48,49,50],[43,44,45,46,48],[43,44,45,46,47],[43,44,45,46],[43,44,45,46],[],[]] [[],[0],[],[],[0,1,2,3],[0,1,2,3,4],[0,1,2,3],[0,1,2,3],[],[]] (by decide +kernel) mixed ?_) | skip); simp only [go_sem, Nat.reduceLT, Nat.reduceLeDiff, Nat.reduceEqDiff, Nat.reduceBEq, Nat.reduceBNe, Nat.reduceAdd, Nat.reduceMul, Nat.reduceSub, Nat.reduceDiv, Nat.reduceMod, Int.reduceToNat, Int.reduceAdd, Int.reduceLT, Int.reduceLE, Int.reduceEq, Int.reduceSub, Int.reduceMul, Int.reduceNeg, ↓reduceIte, reduceCtorEq, List.length_range]) | (refine gspDI ?_ ?_ <;> (intro _hh; (try simp only [_hh]); revert _hh)) | refine gspLI ?_ ?_ | refine condLI ?_ ?_ | refine gspI ?_ ?_ | refine And.intro ?_ ?_ | with_reducible intro _hh | trivial | (simp only [cl1, cl2, cl3, List.length_cons, List.length_nil, List.length_append]; omega))
  · refine ⟨_, _, _, ?_, ?_, ⟨k + 1, by omega, rfl, rfl, rfl⟩⟩
    · omega
    · have e : ((List.range k).map (fun (i : Nat) => (i : Int)) ++ List.replicate (n - k) 0).set k k = (List.range (k + 1)).map (fun (i : Nat) => (i : Int)) ++ List.replicate (n - (k + 1)) 0 := by
        rw [List.set_append, if_neg (by simp), show n - k = (n - (k + 1)) + 1 by omega, List.replicate_succ]
        simp [List.range_succ]
      rw [e]
      refine Wk.sub ?_ ?_ <;> simp only [go_sem, Nat.reduceLT, Nat.reduceLeDiff, Nat.reduceEqDiff, Nat.reduceBEq, Nat.reduceBNe, Nat.reduceAdd, Nat.reduceMul, Nat.reduceSub, Nat.reduceDiv, Nat.reduceMod, Int.reduceToNat, Int.reduceAdd, Int.reduceLT, Int.reduceLE, Int.reduceEq, Int.reduceSub, Int.reduceMul, Int.reduceNeg, ↓reduceIte, reduceCtorEq]
  obtain rfl : k = n := by omega
  refine LoopA.intro (fun t fr H => ∃ q : Nat, q ≤ k ∧ t = k - q ∧ fr = [(6, I q), (4, .sl 1 0 0 k), (3, I k), (0, roI m)] ∧ H = [(0, .cells 3 (.ints (rlP m k q)))]) ?_ ?_
  · refine ⟨_, _, _, ?_, 0, by omega, rfl, rfl, rfl⟩
    refine Wk.sub ?_ ?_ <;> simp only [go_sem, Nat.reduceLT, Nat.reduceLeDiff, Nat.reduceEqDiff, Nat.reduceBEq, Nat.reduceBNe, Nat.reduceAdd, Nat.reduceMul, Nat.reduceSub, Nat.reduceDiv, Nat.reduceMod, Int.reduceToNat, Int.reduceAdd, Int.reduceLT, Int.reduceLE, Int.reduceEq, Int.reduceSub, Int.reduceMul, Int.reduceNeg, ↓reduceIte, reduceCtorEq]
    all_goals simp [rlP]
  rintro t fr H ⟨q, hq, rfl, rfl, rfl⟩
  have hpl := rlP_len m k q
  by_cases hqk : q < k
  · have bq : decide ((q : Int) < k) = true := by simp; omega
    repeat' (first | omega | ((first | refine awC_sound _ _ _ _ ?_ | (refine DrawA.intro (id := 13) [[38,39,40,41,42],[38,39,40,41,42],[36,37,39,8],[36,37,38,8],[36,37,8],[36,37,8],[36,37,8],[38,39,40,41,42],[]] [[],[],[0,1],[0,1,2],[0,1],[0,1],[0,1],[2,3,4,5,6],[]] (by decide +kernel) mixed ?_) | (refine DrawA.intro (id := 14) [[44,47,48,49,50],[43,47,48,49,50],[47,48,49,50],[47,48,49,50],[43,44,45,46,48],[43,44,45,46,47],[43,44,45,46],[43,44,45,46],[],[]] [[],[0],[],[],[0,1,2,3],[0,1,2,3,4],[0,1,2,3],[0,1,2,3],[],[]] (by decide +kernel) mixed ?_) | skip); simp only [go_sem, Nat.reduceLT, Nat.reduceLeDiff, Nat.reduceEqDiff, Nat.reduceBEq, Nat.reduceBNe, Nat.reduceAdd, Nat.reduceMul, Nat.reduceSub, Nat.reduceDiv, Nat.reduceMod, Int.reduceToNat, Int.reduceAdd, Int.reduceLT, Int.reduceLE, Int.reduceEq, Int.reduceSub, Int.reduceMul, Int.reduceNeg, ↓reduceIte, reduceCtorEq, bq]) | (refine gspDI ?_ ?_ <;> (intro _hh; (try simp only [_hh]); revert _hh)) | refine gspLI ?_ ?_ | refine condLI ?_ ?_ | refine gspI ?_ ?_ | refine And.intro ?_ ?_ | with_reducible intro _hh | trivial | (simp only [cl1, cl2, cl3, List.length_cons, List.length_nil, List.length_append]; omega))
    refine LoopA.intro (fun t fr H => ∃ h : Nat, h ≤ 4 * k ∧ t = 4 * k - h ∧ fr = [(7, I h), (6, I q), (4, .sl 1 0 0 k), (3, I k), (0, roI m)] ∧ H = [(0, .cells 3 (.ints (rlH m (rlP m k q) h)))]) ?_ ?_
    · refine ⟨_, _, _, ?_, 0, by omega, rfl, rfl, rfl⟩
      refine Wk.sub ?_ ?_ <;> simp only [go_sem, Nat.reduceLT, Nat.reduceLeDiff, Nat.reduceEqDiff, Nat.reduceBEq, Nat.reduceBNe, Nat.reduceAdd, Nat.reduceMul, Nat.reduceSub, Nat.reduceDiv, Nat.reduceMod, Int.reduceToNat, Int.reduceAdd, Int.reduceLT, Int.reduceLE, Int.reduceEq, Int.reduceSub, Int.reduceMul, Int.reduceNeg, ↓reduceIte, reduceCtorEq]
      all_goals simp [rlH]
    rintro t fr H ⟨h, hh, rfl, rfl, rfl⟩
    have hhl : (rlH m (rlP m k q) h).length = k := by rw [rlH_len, hpl]
    by_cases hhk : h < 4 * k
    · have bh : decide ((h : Int) < m.length) = true := by simp; omega
      have hr := hmr h hhk
      have e1 : (h : Int).tdiv 4 = ((h / 4 : Nat) : Int) := by rw [tdiv_nn (by omega)]; omega
      have e2 : (m.getD h 0).tdiv 4 = ((m.getD h 0 / 4).toNat : Int) := by rw [tdiv_nn (by omega)]; omega
      have e3 : (m.getD h 0 / 4).toNat < k := by omega
      repeat' (first | omega | ((first | refine awC_sound _ _ _ _ ?_ | (refine DrawA.intro (id := 13) [[38,39,40,41,42],[38,39,40,41,42],[36,37,39,8],[36,37,38,8],[36,37,8],[36,37,8],[36,37,8],[38,39,40,41,42],[]] [[],[],[0,1],[0,1,2],[0,1],[0,1],[0,1],[2,3,4,5,6],[]] (by decide +kernel) mixed ?_) | (refine DrawA.intro (id := 14) [[44,47,48,49,50],[43,47,48,49,50],[47,48,49,50],[47,48,49,50],[43,44,45,46,48],[43,44,45,46,47],[43,44,45,46],[43,44,45,46],[],[]] [[],[0],[],[],[0,1,2,3],[0,1,2,3,4],[0,1,2,3],[0,1,2,3],[],[]] (by decide +kernel) mixed ?_) | skip); simp only [go_sem, Nat.reduceLT, Nat.reduceLeDiff, Nat.reduceEqDiff, Nat.reduceBEq, Nat.reduceBNe, Nat.reduceAdd, Nat.reduceMul, Nat.reduceSub, Nat.reduceDiv, Nat.reduceMod, Int.reduceToNat, Int.reduceAdd, Int.reduceLT, Int.reduceLE, Int.reduceEq, Int.reduceSub, Int.reduceMul, Int.reduceNeg, ↓reduceIte, reduceCtorEq, bh, e1, e2]) | (refine gspDI ?_ ?_ <;> (intro _hh; (try simp only [_hh]); revert _hh)) | refine gspLI ?_ ?_ | refine condLI ?_ ?_ | refine gspI ?_ ?_ | refine And.intro ?_ ?_ | with_reducible intro _hh | trivial | (simp only [cl1, cl2, cl3, List.length_cons, List.length_nil, List.length_append]; omega))
      refine ⟨_, _, _, ?_, ?_, ⟨h + 1, by omega, rfl, rfl, rfl⟩⟩
      · omega
      · have em : ∀ a b : Int, (if b < a then b else a) = min a b := fun a b => by split <;> omega
        have eh : rlH m (rlP m k q) (h + 1) = ((rlH m (rlP m k q) h).set (h / 4) (min ((rlH m (rlP m k q) h).getD (h / 4) 0) ((rlH m (rlP m k q) h).getD (m.getD h 0 / 4).toNat 0))).set (m.getD h 0 / 4).toNat (min ((rlH m (rlP m k q) h).getD (h / 4) 0) ((rlH m (rlP m k q) h).getD (m.getD h 0 / 4).toNat 0)) := rfl
        rw [eh]
        simp only [em]
        refine Wk.sub ?_ ?_ <;> simp only [go_sem, Nat.reduceLT, Nat.reduceLeDiff, Nat.reduceEqDiff, Nat.reduceBEq, Nat.reduceBNe, Nat.reduceAdd, Nat.reduceMul, Nat.reduceSub, Nat.reduceDiv, Nat.reduceMod, Int.reduceToNat, Int.reduceAdd, Int.reduceLT, Int.reduceLE, Int.reduceEq, Int.reduceSub, Int.reduceMul, Int.reduceNeg, ↓reduceIte, reduceCtorEq]
    · obtain rfl : h = 4 * k := by omega
      have bh : decide (((4 * k : Nat) : Int) < m.length) = false := by simp; omega
      repeat' (first | omega | ((first | refine awC_sound _ _ _ _ ?_ | (refine DrawA.intro (id := 13) [[38,39,40,41,42],[38,39,40,41,42],[36,37,39,8],[36,37,38,8],[36,37,8],[36,37,8],[36,37,8],[38,39,40,41,42],[]] [[],[],[0,1],[0,1,2],[0,1],[0,1],[0,1],[2,3,4,5,6],[]] (by decide +kernel) mixed ?_) | (refine DrawA.intro (id := 14) [[44,47,48,49,50],[43,47,48,49,50],[47,48,49,50],[47,48,49,50],[43,44,45,46,48],[43,44,45,46,47],[43,44,45,46],[43,44,45,46],[],[]] [[],[0],[],[],[0,1,2,3],[0,1,2,3,4],[0,1,2,3],[0,1,2,3],[],[]] (by decide +kernel) mixed ?_) | skip); simp only [go_sem, Nat.reduceLT, Nat.reduceLeDiff, Nat.reduceEqDiff, Nat.reduceBEq, Nat.reduceBNe, Nat.reduceAdd, Nat.reduceMul, Nat.reduceSub, Nat.reduceDiv, Nat.reduceMod, Int.reduceToNat, Int.reduceAdd, Int.reduceLT, Int.reduceLE, Int.reduceEq, Int.reduceSub, Int.reduceMul, Int.reduceNeg, ↓reduceIte, reduceCtorEq, bh]) | (refine gspDI ?_ ?_ <;> (intro _hh; (try simp only [_hh]); revert _hh)) | refine gspLI ?_ ?_ | refine condLI ?_ ?_ | refine gspI ?_ ?_ | refine And.intro ?_ ?_ | with_reducible intro _hh | trivial | (simp only [cl1, cl2, cl3, List.length_cons, List.length_nil, List.length_append]; omega))
      refine ⟨_, _, _, ?_, ?_, ⟨q + 1, by omega, rfl, rfl, rfl⟩⟩
      · omega
      · rw [show rlP m k (q + 1) = rlH m (rlP m k q) (4 * k) from rfl]
        refine Wk.sub ?_ ?_ <;> simp only [go_sem, Nat.reduceLT, Nat.reduceLeDiff, Nat.reduceEqDiff, Nat.reduceBEq, Nat.reduceBNe, Nat.reduceAdd, Nat.reduceMul, Nat.reduceSub, Nat.reduceDiv, Nat.reduceMod, Int.reduceToNat, Int.reduceAdd, Int.reduceLT, Int.reduceLE, Int.reduceEq, Int.reduceSub, Int.reduceMul, Int.reduceNeg, ↓reduceIte, reduceCtorEq]
  · obtain rfl : q = k := by omega
    have bq : decide ((q : Int) < q) = false := by simp
    repeat' (first | omega | ((first | refine awC_sound _ _ _ _ ?_ | (refine DrawA.intro (id := 13) [[38,39,40,41,42],[38,39,40,41,42],[36,37,39,8],[36,37,38,8],[36,37,8],[36,37,8],[36,37,8],[38,39,40,41,42],[]] [[],[],[0,1],[0,1,2],[0,1],[0,1],[0,1],[2,3,4,5,6],[]] (by decide +kernel) mixed ?_) | (refine DrawA.intro (id := 14) [[44,47,48,49,50],[43,47,48,49,50],[47,48,49,50],[47,48,49,50],[43,44,45,46,48],[43,44,45,46,47],[43,44,45,46],[43,44,45,46],[],[]] [[],[0],[],[],[0,1,2,3],[0,1,2,3,4],[0,1,2,3],[0,1,2,3],[],[]] (by decide +kernel) mixed ?_) | skip); simp only [go_sem, Nat.reduceLT, Nat.reduceLeDiff, Nat.reduceEqDiff, Nat.reduceBEq, Nat.reduceBNe, Nat.reduceAdd, Nat.reduceMul, Nat.reduceSub, Nat.reduceDiv, Nat.reduceMod, Int.reduceToNat, Int.reduceAdd, Int.reduceLT, Int.reduceLE, Int.reduceEq, Int.reduceSub, Int.reduceMul, Int.reduceNeg, ↓reduceIte, reduceCtorEq, bq]) | (refine gspDI ?_ ?_ <;> (intro _hh; (try simp only [_hh]); revert _hh)) | refine gspLI ?_ ?_ | refine condLI ?_ ?_ | refine gspI ?_ ?_ | refine And.intro ?_ ?_ | with_reducible intro _hh | trivial | (simp only [cl1, cl2, cl3, List.length_cons, List.length_nil, List.length_append]; omega))
    all_goals first
      | omega
      | exact List.take_of_length_le (by omega)
end Go.Proofs.YtmplhbgolhlicaaDoor
