/- The reference of layer 6: moved diagrams. -/
import Derived.Test.YtmplhbgolhlicaaDoorRf6
import Derived.Test.YtmplhbgolhlicaaDoorMi2
set_option linter.unusedSimpArgs false
set_option linter.unusedVariables false
namespace Go.Proofs.YtmplhbgolhlicaaDoor
open Go Go.RowKit
set_option maxRecDepth 100000
set_option maxHeartbeats 8000000
def toL (to : Nat → Int) (k : Nat) : List Int := (List.range k).map to
theorem toL_set (to : Nat → Int) (n k : Nat) (h : k < n) : (toL to k ++ List.replicate (n - k) 0).set k (to k) = toL to (k + 1) ++ List.replicate (n - (k + 1)) 0 := by
  unfold toL
  rw [List.set_append, if_neg (by simp), show n - k = (n - (k + 1)) + 1 by omega, List.replicate_succ]
  simp [List.range_succ]
theorem toL_get (to : Nat → Int) (n k : Nat) (h : k < n) : (toL to n).getD k 0 = to k := by simp [toL, h]
theorem toL_len (to : Nat → Int) (n : Nat) : (toL to n).length = n := by simp [toL]
theorem fno_rMove (s m tr : List Int) (L : Int) (hs : s.length ≤ 1000) (hm : mateOk m s.length) (htl : tr.length = s.length) (htr : ∀ c, c < s.length → -3 ≤ tr.getD c 0 ∧ tr.getD c 0 ≤ 3) :
    FnO Tryd.prog 107 [dgA s m L, roI tr, .bool false] (.sl 1 2 0 m.length) [(2, .cells 3 (.ints (mvM m (fun h => turnM h (tr.getD (h / 4).toNat 0)) m.length)))] := by
  have hml := hm.1
  have hto : ∀ h : Nat, h < m.length → turnM h (tr.getD ((h : Int) / 4).toNat 0) = (h : Int) - (h : Int) % 4 + (((h : Int) % 4 + tr.getD (h / 4) 0).tmod 4 + 4).tmod 4 ∧ 0 ≤ turnM h (tr.getD ((h : Int) / 4).toNat 0) ∧ turnM h (tr.getD ((h : Int) / 4).toNat 0) < m.length := fun h hh => by
    have hb := htr (h / 4) (by omega)
    have eb : ((h : Int) / 4).toNat = h / 4 := by omega
    rw [eb]
    have hr := turnM_range (h := (h : Int)) (b := tr.getD (h / 4) 0) (n := s.length) (by omega) (by omega)
    refine ⟨?_, hr.1, by omega⟩
    unfold turnM
    generalize tr.getD (h / 4) 0 = b at *
    have : b = -3 ∨ b = -2 ∨ b = -1 ∨ b = 0 ∨ b = 1 ∨ b = 2 ∨ b = 3 := by omega
    have h4 : (h : Int) % 4 = 0 ∨ (h : Int) % 4 = 1 ∨ (h : Int) % 4 = 2 ∨ (h : Int) % 4 = 3 := by omega
    rcases this with e | e | e | e | e | e | e <;> rcases h4 with g | g | g | g <;> rw [e, g] <;> congr 1
  generalize hT : (fun h : Nat => turnM h (tr.getD ((h : Int) / 4).toNat 0)) = T at *
  have hTh : ∀ h : Nat, turnM h (tr.getD ((h : Int) / 4).toNat 0) = T h := fun h => by rw [← hT]
  simp only [hTh] at hto
  refine FnO.intro [.tmp 6] Tryd.func107 rfl rfl (by decide) (by simp [Tryd.ntmps107]) ?_; rw [Tryd.ntmps107]
  repeat' (first | omega | ((first | refine awC_sound _ _ _ _ ?_ | skip); simp only [go_sem, Nat.reduceLT, Nat.reduceLeDiff, Nat.reduceEqDiff, Nat.reduceBEq, Nat.reduceBNe, Nat.reduceAdd, Nat.reduceMul, Nat.reduceSub, Nat.reduceDiv, Nat.reduceMod, Int.reduceToNat, Int.reduceAdd, Int.reduceLT, Int.reduceLE, Int.reduceEq, Int.reduceSub, Int.reduceMul, Int.reduceNeg, ↓reduceIte, reduceCtorEq]) | (refine gspDI ?_ ?_ <;> (intro _hh; (try simp only [_hh]); revert _hh)) | refine gspLI ?_ ?_ | refine condLI ?_ ?_ | refine gspI ?_ ?_ | refine And.intro ?_ ?_ | with_reducible intro _hh | trivial | (simp only [cl1, cl2, cl3, List.length_cons, List.length_nil, List.length_append]; omega))
  refine LoopA.intro (fun n fr H => ∃ k : Nat, k ≤ m.length ∧ n = m.length - k ∧ fr = [(9, I k), (8, .sl 1 1 0 m.length), (7, I m.length), (3, .ptr 0 0), (2, .bool false), (1, roI tr)] ∧ H = [(1, .cells 3 (.ints (toL T k ++ List.replicate (m.length - k) 0))), (0, .cells 24 (.lst [roI s, roI m, I L]))]) ?_ ?_
  · refine ⟨_, _, _, ?_, 0, by omega, rfl, rfl, rfl⟩
    refine Wk.sub ?_ ?_ <;> simp only [go_sem, Nat.reduceLT, Nat.reduceLeDiff, Nat.reduceEqDiff, Nat.reduceBEq, Nat.reduceBNe, Nat.reduceAdd, Nat.reduceMul, Nat.reduceSub, Nat.reduceDiv, Nat.reduceMod, Int.reduceToNat, Int.reduceAdd, Int.reduceLT, Int.reduceLE, Int.reduceEq, Int.reduceSub, Int.reduceMul, Int.reduceNeg, ↓reduceIte, reduceCtorEq]
    all_goals simp [toL]
  rintro n fr H ⟨k, hk, rfl, rfl, rfl⟩
  have tl := toL_len T k
  by_cases hkl : k < m.length
  · have bk : decide ((k : Int) < m.length) = true := by simp; omega
    have e1 : (k : Int).tmod 4 = (k : Int) % 4 := tmod_nn (by omega)
    have e2 : (k : Int).tdiv 4 = ((k / 4 : Nat) : Int) := by rw [tdiv_nn (by omega)]; omega
    have hb := htr (k / 4) (by omega)
    have h3 := hto k hkl
    have m1 : -4 < ((k : Int) % 4 + tr.getD (k / 4) 0).tmod 4 ∧ ((k : Int) % 4 + tr.getD (k / 4) 0).tmod 4 < 4 := ⟨Int.lt_tmod_of_pos _ (by decide), Int.tmod_lt_of_pos _ (by decide)⟩
    have m2 : -4 < (((k : Int) % 4 + tr.getD (k / 4) 0).tmod 4 + 4).tmod 4 ∧ (((k : Int) % 4 + tr.getD (k / 4) 0).tmod 4 + 4).tmod 4 < 4 := ⟨Int.lt_tmod_of_pos _ (by decide), Int.tmod_lt_of_pos _ (by decide)⟩
    repeat' (first | omega | ((first | refine awC_sound _ _ _ _ ?_ | (refine DrawA.intro (id := 14) [[60,61,62,63,64,65,66,67,68,69,70,71],[59,61,64,65,66,67,68,69,70,71],[59,60,64,65,66,67,68,69,70,71],[59,64,65,66,67,68,69,70,71],[59,64,65,66,67,68,69,70,71],[59,60,61,62,63,65,66,67,68,69],[59,60,61,62,63,64,67],[59,60,61,62,63,64,67],[59,60,61,62,63,64,65,66],[59,60,61,62,63,64],[59,60,61,62,63,64],[59,60,61,62,63],[59,60,61,62,63],[],[]] [[],[0],[0,1],[0],[0],[0,1,2,3,4],[0,1,2,3,4,5],[0,1,2,3,4,5],[0,1,2,3,4,5,6,7],[0,1,2,3,4,5],[0,1,2,3,4,5],[0,1,2,3,4],[0,1,2,3,4],[],[]] (by decide +kernel) mixed ?_) | skip); simp only [go_sem, Nat.reduceLT, Nat.reduceLeDiff, Nat.reduceEqDiff, Nat.reduceBEq, Nat.reduceBNe, Nat.reduceAdd, Nat.reduceMul, Nat.reduceSub, Nat.reduceDiv, Nat.reduceMod, Int.reduceToNat, Int.reduceAdd, Int.reduceLT, Int.reduceLE, Int.reduceEq, Int.reduceSub, Int.reduceMul, Int.reduceNeg, ↓reduceIte, reduceCtorEq, bk, e1, e2, tl]) | (refine gspDI ?_ ?_ <;> (intro _hh; (try simp only [_hh]); revert _hh)) | refine gspLI ?_ ?_ | refine condLI ?_ ?_ | refine gspI ?_ ?_ | refine And.intro ?_ ?_ | with_reducible intro _hh | trivial | (simp only [cl1, cl2, cl3, List.length_cons, List.length_nil, List.length_append]; omega))
    all_goals first | omega | skip
    refine ⟨_, _, _, ?_, ?_, ⟨k + 1, by omega, rfl, rfl, rfl⟩⟩
    · omega
    · rw [← h3.1, toL_set T m.length k hkl]
      refine Wk.sub ?_ ?_ <;> simp only [go_sem, Nat.reduceLT, Nat.reduceLeDiff, Nat.reduceEqDiff, Nat.reduceBEq, Nat.reduceBNe, Nat.reduceAdd, Nat.reduceMul, Nat.reduceSub, Nat.reduceDiv, Nat.reduceMod, Int.reduceToNat, Int.reduceAdd, Int.reduceLT, Int.reduceLE, Int.reduceEq, Int.reduceSub, Int.reduceMul, Int.reduceNeg, ↓reduceIte, reduceCtorEq]
  obtain rfl : k = m.length := by omega
  rw [Nat.sub_self, List.replicate_zero, List.append_nil] at *
  have bk : decide ((m.length : Int) < m.length) = false := by simp
  repeat' (first | omega | ((first | refine awC_sound _ _ _ _ ?_ | (refine DrawA.intro (id := 14) [[60,61,62,63,64,65,66,67,68,69,70,71],[59,61,64,65,66,67,68,69,70,71],[59,60,64,65,66,67,68,69,70,71],[59,64,65,66,67,68,69,70,71],[59,64,65,66,67,68,69,70,71],[59,60,61,62,63,65,66,67,68,69],[59,60,61,62,63,64,67],[59,60,61,62,63,64,67],[59,60,61,62,63,64,65,66],[59,60,61,62,63,64],[59,60,61,62,63,64],[59,60,61,62,63],[59,60,61,62,63],[],[]] [[],[0],[0,1],[0],[0],[0,1,2,3,4],[0,1,2,3,4,5],[0,1,2,3,4,5],[0,1,2,3,4,5,6,7],[0,1,2,3,4,5],[0,1,2,3,4,5],[0,1,2,3,4],[0,1,2,3,4],[],[]] (by decide +kernel) mixed ?_) | skip); simp only [go_sem, Nat.reduceLT, Nat.reduceLeDiff, Nat.reduceEqDiff, Nat.reduceBEq, Nat.reduceBNe, Nat.reduceAdd, Nat.reduceMul, Nat.reduceSub, Nat.reduceDiv, Nat.reduceMod, Int.reduceToNat, Int.reduceAdd, Int.reduceLT, Int.reduceLE, Int.reduceEq, Int.reduceSub, Int.reduceMul, Int.reduceNeg, ↓reduceIte, reduceCtorEq, bk]) | (refine gspDI ?_ ?_ <;> (intro _hh; (try simp only [_hh]); revert _hh)) | refine gspLI ?_ ?_ | refine condLI ?_ ?_ | refine gspI ?_ ?_ | refine And.intro ?_ ?_ | with_reducible intro _hh | trivial | (simp only [cl1, cl2, cl3, List.length_cons, List.length_nil, List.length_append]; omega))
  refine LoopA.intro (fun n fr H => ∃ k : Nat, k ≤ m.length ∧ n = m.length - k ∧ fr = [(12, I k), (11, .sl 1 2 0 m.length), (8, .sl 1 1 0 m.length), (7, I m.length), (3, .ptr 0 0)] ∧ H = [(2, .cells 3 (.ints (mvM m (fun h => turnM h (tr.getD (h / 4).toNat 0)) k))), (1, .cells 3 (.ints (toL T m.length))), (0, .cells 24 (.lst [roI s, roI m, I L]))]) ?_ ?_
  · refine ⟨_, _, _, ?_, 0, by omega, rfl, rfl, rfl⟩
    refine Wk.sub ?_ ?_ <;> simp only [go_sem, Nat.reduceLT, Nat.reduceLeDiff, Nat.reduceEqDiff, Nat.reduceBEq, Nat.reduceBNe, Nat.reduceAdd, Nat.reduceMul, Nat.reduceSub, Nat.reduceDiv, Nat.reduceMod, Int.reduceToNat, Int.reduceAdd, Int.reduceLT, Int.reduceLE, Int.reduceEq, Int.reduceSub, Int.reduceMul, Int.reduceNeg, ↓reduceIte, reduceCtorEq]
    all_goals simp [mvM]
  rintro n fr H ⟨k, hk, rfl, rfl, rfl⟩
  have ml := mvM_len m (fun h => turnM h (tr.getD (h / 4).toNat 0)) k
  by_cases hkl : k < m.length
  · have bk : decide ((k : Int) < m.length) = true := by simp; omega
    have hmr := hm.2 k (by omega)
    obtain ⟨q, hq⟩ : ∃ q : Nat, m.getD k 0 = q := ⟨(m.getD k 0).toNat, by omega⟩
    have g1 := toL_get T m.length k hkl
    have g2 := toL_get T m.length q (by omega)
    have h3 := hto k hkl
    have eq : ∃ t : Nat, T k = t := ⟨(T k).toNat, by omega⟩
    obtain ⟨t, ht⟩ := eq
    rw [ht] at g1
    repeat' (first | omega | ((first | refine awC_sound _ _ _ _ ?_ | (refine DrawA.intro (id := 14) [[60,61,62,63,64,65,66,67,68,69,70,71],[59,61,64,65,66,67,68,69,70,71],[59,60,64,65,66,67,68,69,70,71],[59,64,65,66,67,68,69,70,71],[59,64,65,66,67,68,69,70,71],[59,60,61,62,63,65,66,67,68,69],[59,60,61,62,63,64,67],[59,60,61,62,63,64,67],[59,60,61,62,63,64,65,66],[59,60,61,62,63,64],[59,60,61,62,63,64],[59,60,61,62,63],[59,60,61,62,63],[],[]] [[],[0],[0,1],[0],[0],[0,1,2,3,4],[0,1,2,3,4,5],[0,1,2,3,4,5],[0,1,2,3,4,5,6,7],[0,1,2,3,4,5],[0,1,2,3,4,5],[0,1,2,3,4],[0,1,2,3,4],[],[]] (by decide +kernel) mixed ?_) | skip); simp only [go_sem, Nat.reduceLT, Nat.reduceLeDiff, Nat.reduceEqDiff, Nat.reduceBEq, Nat.reduceBNe, Nat.reduceAdd, Nat.reduceMul, Nat.reduceSub, Nat.reduceDiv, Nat.reduceMod, Int.reduceToNat, Int.reduceAdd, Int.reduceLT, Int.reduceLE, Int.reduceEq, Int.reduceSub, Int.reduceMul, Int.reduceNeg, ↓reduceIte, reduceCtorEq, bk, hq, g1, g2, tl, toL_len]) | (refine gspDI ?_ ?_ <;> (intro _hh; (try simp only [_hh]); revert _hh)) | refine gspLI ?_ ?_ | refine condLI ?_ ?_ | refine gspI ?_ ?_ | refine And.intro ?_ ?_ | with_reducible intro _hh | trivial | (simp only [cl1, cl2, cl3, List.length_cons, List.length_nil, List.length_append]; omega))
    refine ⟨_, _, _, ?_, ?_, ⟨k + 1, by omega, rfl, rfl, rfl⟩⟩
    · omega
    · have e : mvM m (fun h => turnM h (tr.getD (h / 4).toNat 0)) (k + 1) = (mvM m (fun h => turnM h (tr.getD (h / 4).toNat 0)) k).set t (T q) := by
        simp only [mvM]
        rw [hq, hTh k, hTh q, ht, Int.toNat_natCast]
      rw [e]
      refine Wk.sub ?_ ?_ <;> simp only [go_sem, Nat.reduceLT, Nat.reduceLeDiff, Nat.reduceEqDiff, Nat.reduceBEq, Nat.reduceBNe, Nat.reduceAdd, Nat.reduceMul, Nat.reduceSub, Nat.reduceDiv, Nat.reduceMod, Int.reduceToNat, Int.reduceAdd, Int.reduceLT, Int.reduceLE, Int.reduceEq, Int.reduceSub, Int.reduceMul, Int.reduceNeg, ↓reduceIte, reduceCtorEq]
  · obtain rfl : k = m.length := by omega
    repeat' (first | omega | ((first | refine awC_sound _ _ _ _ ?_ | (refine DrawA.intro (id := 14) [[60,61,62,63,64,65,66,67,68,69,70,71],[59,61,64,65,66,67,68,69,70,71],[59,60,64,65,66,67,68,69,70,71],[59,64,65,66,67,68,69,70,71],[59,64,65,66,67,68,69,70,71],[59,60,61,62,63,65,66,67,68,69],[59,60,61,62,63,64,67],[59,60,61,62,63,64,67],[59,60,61,62,63,64,65,66],[59,60,61,62,63,64],[59,60,61,62,63,64],[59,60,61,62,63],[59,60,61,62,63],[],[]] [[],[0],[0,1],[0],[0],[0,1,2,3,4],[0,1,2,3,4,5],[0,1,2,3,4,5],[0,1,2,3,4,5,6,7],[0,1,2,3,4,5],[0,1,2,3,4,5],[0,1,2,3,4],[0,1,2,3,4],[],[]] (by decide +kernel) mixed ?_) | skip); simp only [go_sem, Nat.reduceLT, Nat.reduceLeDiff, Nat.reduceEqDiff, Nat.reduceBEq, Nat.reduceBNe, Nat.reduceAdd, Nat.reduceMul, Nat.reduceSub, Nat.reduceDiv, Nat.reduceMod, Int.reduceToNat, Int.reduceAdd, Int.reduceLT, Int.reduceLE, Int.reduceEq, Int.reduceSub, Int.reduceMul, Int.reduceNeg, ↓reduceIte, reduceCtorEq, bk]) | (refine gspDI ?_ ?_ <;> (intro _hh; (try simp only [_hh]); revert _hh)) | refine gspLI ?_ ?_ | refine condLI ?_ ?_ | refine gspI ?_ ?_ | refine And.intro ?_ ?_ | with_reducible intro _hh | trivial | (simp only [cl1, cl2, cl3, List.length_cons, List.length_nil, List.length_append]; omega))
theorem fnn_rMove (s m tr : List Int) (L : Int) (hs : s.length ≤ 1000) (hm : mateOk m s.length) (htl : tr.length = s.length) (htr : ∀ c, c < s.length → -3 ≤ tr.getD c 0 ∧ tr.getD c 0 ≤ 3) :
    FnN Tryd.prog 107 [dgA s m L, roI tr, .bool false] (roI (mvM m (fun h => turnM h (tr.getD (h / 4).toNat 0)) m.length)) := by
  have h := FnN.ofO (fno_rMove s m tr L hs hm htl htr) (by rw [mvM_len]; exact Nat.le_refl _)
  rw [List.take_of_length_le (by rw [mvM_len]; exact Nat.le_refl _)] at h
  unfold roI
  rw [mvM_len]
  exact h
theorem fn_rMove (s m tr : List Int) (L : Int) (hs : s.length ≤ 1000) (hm : mateOk m s.length) (htl : tr.length = s.length) (htr : ∀ c, c < s.length → -3 ≤ tr.getD c 0 ∧ tr.getD c 0 ≤ 3) :
    Fn Tryd.prog 107 [dgA s m L, roI tr, .bool false] (roI (mvM m (fun h => turnM h (tr.getD (h / 4).toNat 0)) m.length)) := Fn.ofN (fnn_rMove s m tr L hs hm htl htr)
end Go.Proofs.YtmplhbgolhlicaaDoor
