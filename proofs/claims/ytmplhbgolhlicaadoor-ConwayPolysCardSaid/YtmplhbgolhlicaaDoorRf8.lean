/- The reference of layers 6 and 19: switched crossings. -/
import Derived.Test.YtmplhbgolhlicaaDoorRf7
set_option linter.unusedSimpArgs false
set_option linter.unusedVariables false
namespace Go.Proofs.YtmplhbgolhlicaaDoor
open Go Go.RowKit
set_option maxRecDepth 100000
set_option maxHeartbeats 8000000
theorem mvM_congr {m : List Int} {f g : Int → Int} {n : Nat} (hm : mateOk m n) (h : ∀ x : Int, 0 ≤ x → x < 4 * n → f x = g x) : ∀ k, k ≤ m.length → mvM m f k = mvM m g k
  | 0, _ => rfl
  | k + 1, hk => by
    have hl := hm.1
    have hr := hm.2 k (by omega)
    simp only [mvM]
    rw [mvM_congr hm h k (by omega), h k (by omega) (by omega), h _ hr.1 hr.2]
def mkB (mk : List Bool) (c : Int) : Bool := mk.getD c.toNat false
theorem drop_set0 (l : List Int) (to : Nat → Int) (k : Nat) (v : Int) (h : k < l.length) (hv : to k = v) : (toL to k ++ l.drop k).set k v = toL to (k + 1) ++ l.drop (k + 1) := by
  have e : (l.drop k).set 0 v = v :: l.drop (k + 1) := by rw [List.drop_eq_getElem_cons h]; rfl
  rw [List.set_append, if_neg (by simp [toL]), show k - (toL to k).length = 0 by simp [toL], e]
  simp [toL, List.range_succ, hv]
theorem drop_keep (l : List Int) (to : Nat → Int) (k : Nat) (h : k < l.length) (hv : to k = l.getD k 0) : toL to k ++ l.drop k = toL to (k + 1) ++ l.drop (k + 1) := by
  have e : l.drop k = l.getD k 0 :: l.drop (k + 1) := drop_cons l k 0 h
  rw [e]
  simp [toL, List.range_succ, hv]
theorem rep_keep (to : Nat → Int) (n k : Nat) (h : k < n) (hv : to k = 0) : toL to k ++ List.replicate (n - k) 0 = toL to (k + 1) ++ List.replicate (n - (k + 1)) 0 := by
  rw [show n - k = (n - (k + 1)) + 1 by omega, List.replicate_succ]
  simp [toL, List.range_succ, hv]
theorem set_set0 (l : List Int) (k : Nat) (a b : Int) : (l.set k a).set k b = l.set k b := by simp
theorem fn_rSwitchAll (s m : List Int) (L : Int) (mk : List Bool) (h0 : 0 < s.length) (hs : s.length ≤ 1000) (hso : signsOk s s.length) (hm : mateOk m s.length) (hk : mk.length = s.length) :
    Fn Tryd.prog 59 [dgA s m L, .ro 1 mk.length (.bools mk)] (dgA (exS s (mkB mk)) (exM s m (mkB mk)) L) := by
  refine Fn.intro [.cell 4 24] Tryd.func59 rfl rfl (by decide) (by simp [Tryd.ntmps59]) ?_; rw [Tryd.ntmps59]
  repeat' (first | omega | ((first | refine awC_sound _ _ _ _ ?_ | skip); simp only [go_sem, Nat.reduceLT, Nat.reduceLeDiff, Nat.reduceEqDiff, Nat.reduceBEq, Nat.reduceBNe, Nat.reduceAdd, Nat.reduceMul, Nat.reduceSub, Nat.reduceDiv, Nat.reduceMod, Int.reduceToNat, Int.reduceAdd, Int.reduceLT, Int.reduceLE, Int.reduceEq, Int.reduceSub, Int.reduceMul, Int.reduceNeg, ↓reduceIte, reduceCtorEq]) | (refine gspDI ?_ ?_ <;> (intro _hh; (try simp only [_hh]); revert _hh)) | refine gspLI ?_ ?_ | refine condLI ?_ ?_ | refine gspI ?_ ?_ | refine And.intro ?_ ?_ | with_reducible intro _hh | trivial | (simp only [cl1, cl2, cl3, List.length_cons, List.length_nil, List.length_append]; omega))
  refine LoopA.intro (fun n fr H => ∃ k : Nat, k ≤ s.length ∧ n = s.length - k ∧ fr = [(7, I k), (6, .sl 1 3 0 s.length), (5, .sl 1 2 0 s.length), (4, .ptr 1 0), (2, .ptr 0 0), (1, .ro 1 mk.length (.bools mk))] ∧ H = [(3, .cells 3 (.ints (toL (fun c => s.getD c 0 * exSg (mkB mk) c) k ++ s.drop k))), (2, .cells 3 (.ints (toL (fun c => exBy s (mkB mk) c) k ++ List.replicate (s.length - k) 0))), (1, .cells 24 (.lst [.nils, .nils, I 0])), (0, .cells 24 (.lst [roI s, roI m, I L]))]) ?_ ?_
  · refine ⟨_, _, _, ?_, 0, by omega, rfl, rfl, rfl⟩
    refine Wk.sub ?_ ?_ <;> simp only [go_sem, Nat.reduceLT, Nat.reduceLeDiff, Nat.reduceEqDiff, Nat.reduceBEq, Nat.reduceBNe, Nat.reduceAdd, Nat.reduceMul, Nat.reduceSub, Nat.reduceDiv, Nat.reduceMod, Int.reduceToNat, Int.reduceAdd, Int.reduceLT, Int.reduceLE, Int.reduceEq, Int.reduceSub, Int.reduceMul, Int.reduceNeg, ↓reduceIte, reduceCtorEq]
    all_goals simp [toL]
  rintro n fr H ⟨k, hkk, rfl, rfl, rfl⟩
  have tl1 := toL_len (fun c => s.getD c 0 * exSg (mkB mk) c) k
  have tl2 := toL_len (fun c => exBy s (mkB mk) c) k
  by_cases hkl : k < s.length
  · have bk : decide ((k : Int) < s.length) = true := by simp; omega
    have hsg := hso k hkl
    cases hb : mk.getD k false with
    | false =>
      have e1 : s.getD k 0 * exSg (mkB mk) k = s.getD k 0 := by unfold exSg mkB; rw [Int.toNat_natCast, hb]; simp
      have e2 : exBy s (mkB mk) k = 0 := by unfold exBy mkB; rw [Int.toNat_natCast, hb]; simp
      repeat' (first | omega | ((first | refine awC_sound _ _ _ _ ?_ | (refine DrawA.intro (id := 11) [[48,49,50,51,52],[47,49,51,52],[47,48,51,52],[47,51,52],[47,48,49,50],[47,48,49,50],[],[]] [[],[0],[0,1],[0],[0,1,2,3],[0,1,2,3],[],[]] (by decide +kernel) mixed ?_) | skip); simp only [go_sem, Nat.reduceLT, Nat.reduceLeDiff, Nat.reduceEqDiff, Nat.reduceBEq, Nat.reduceBNe, Nat.reduceAdd, Nat.reduceMul, Nat.reduceSub, Nat.reduceDiv, Nat.reduceMod, Int.reduceToNat, Int.reduceAdd, Int.reduceLT, Int.reduceLE, Int.reduceEq, Int.reduceSub, Int.reduceMul, Int.reduceNeg, ↓reduceIte, reduceCtorEq, bk, hb]) | (refine gspDI ?_ ?_ <;> (intro _hh; (try simp only [_hh]); revert _hh)) | refine gspLI ?_ ?_ | refine condLI ?_ ?_ | refine gspI ?_ ?_ | refine And.intro ?_ ?_ | with_reducible intro _hh | trivial | (simp only [cl1, cl2, cl3, List.length_cons, List.length_nil, List.length_append]; omega))
      refine ⟨_, _, _, ?_, ?_, ⟨k + 1, by omega, rfl, rfl, rfl⟩⟩
      · omega
      · rw [drop_keep s (fun c => s.getD c 0 * exSg (mkB mk) c) k hkl e1, rep_keep (fun c => exBy s (mkB mk) c) s.length k hkl e2]
        refine Wk.sub ?_ ?_ <;> simp only [go_sem, Nat.reduceLT, Nat.reduceLeDiff, Nat.reduceEqDiff, Nat.reduceBEq, Nat.reduceBNe, Nat.reduceAdd, Nat.reduceMul, Nat.reduceSub, Nat.reduceDiv, Nat.reduceMod, Int.reduceToNat, Int.reduceAdd, Int.reduceLT, Int.reduceLE, Int.reduceEq, Int.reduceSub, Int.reduceMul, Int.reduceNeg, ↓reduceIte, reduceCtorEq]
    | true =>
      repeat' (first | omega | ((first | refine awC_sound _ _ _ _ ?_ | (refine DrawA.intro (id := 11) [[48,49,50,51,52],[47,49,51,52],[47,48,51,52],[47,51,52],[47,48,49,50],[47,48,49,50],[],[]] [[],[0],[0,1],[0],[0,1,2,3],[0,1,2,3],[],[]] (by decide +kernel) mixed ?_) | skip); simp only [go_sem, Nat.reduceLT, Nat.reduceLeDiff, Nat.reduceEqDiff, Nat.reduceBEq, Nat.reduceBNe, Nat.reduceAdd, Nat.reduceMul, Nat.reduceSub, Nat.reduceDiv, Nat.reduceMod, Int.reduceToNat, Int.reduceAdd, Int.reduceLT, Int.reduceLE, Int.reduceEq, Int.reduceSub, Int.reduceMul, Int.reduceNeg, ↓reduceIte, reduceCtorEq, bk, hb, tl1, tl2, List.length_drop]) | (refine gspDI ?_ ?_ <;> (intro _hh; (try simp only [_hh]); revert _hh)) | refine gspLI ?_ ?_ | refine condLI ?_ ?_ | refine gspI ?_ ?_ | refine And.intro ?_ ?_ | with_reducible intro _hh | trivial | (simp only [cl1, cl2, cl3, List.length_cons, List.length_nil, List.length_append]; omega))
      · have h1 : s.getD k 0 = 1 := _hh
        refine ⟨_, _, _, ?_, ?_, ⟨k + 1, by omega, rfl, rfl, rfl⟩⟩
        · omega
        · have eA : (toL (fun c => exBy s (mkB mk) c) k ++ List.replicate (s.length - k) 0).set k (-3) = toL (fun c => exBy s (mkB mk) c) (k + 1) ++ List.replicate (s.length - (k + 1)) 0 := by
            rw [← toL_set (fun c => exBy s (mkB mk) c) s.length k hkl]
            congr 1
            unfold exBy mkB; rw [Int.toNat_natCast, hb, h1]; simp
          rw [set_set0, drop_set0 s (fun c => s.getD c 0 * exSg (mkB mk) c) k _ hkl (show s.getD k 0 * exSg (mkB mk) k = 0 - s.getD k 0 by unfold exSg mkB; rw [Int.toNat_natCast, hb]; simp), eA]
          refine Wk.sub ?_ ?_ <;> simp only [go_sem, Nat.reduceLT, Nat.reduceLeDiff, Nat.reduceEqDiff, Nat.reduceBEq, Nat.reduceBNe, Nat.reduceAdd, Nat.reduceMul, Nat.reduceSub, Nat.reduceDiv, Nat.reduceMod, Int.reduceToNat, Int.reduceAdd, Int.reduceLT, Int.reduceLE, Int.reduceEq, Int.reduceSub, Int.reduceMul, Int.reduceNeg, ↓reduceIte, reduceCtorEq]
      · have h1 : ¬ s.getD k 0 = 1 := _hh
        refine ⟨_, _, _, ?_, ?_, ⟨k + 1, by omega, rfl, rfl, rfl⟩⟩
        · omega
        · have eA : (toL (fun c => exBy s (mkB mk) c) k ++ List.replicate (s.length - k) 0).set k (-1) = toL (fun c => exBy s (mkB mk) c) (k + 1) ++ List.replicate (s.length - (k + 1)) 0 := by
            rw [← toL_set (fun c => exBy s (mkB mk) c) s.length k hkl]
            congr 1
            unfold exBy mkB; rw [Int.toNat_natCast, hb, if_neg h1]; simp
          rw [drop_set0 s (fun c => s.getD c 0 * exSg (mkB mk) c) k _ hkl (show s.getD k 0 * exSg (mkB mk) k = 0 - s.getD k 0 by unfold exSg mkB; rw [Int.toNat_natCast, hb]; simp), eA]
          refine Wk.sub ?_ ?_ <;> simp only [go_sem, Nat.reduceLT, Nat.reduceLeDiff, Nat.reduceEqDiff, Nat.reduceBEq, Nat.reduceBNe, Nat.reduceAdd, Nat.reduceMul, Nat.reduceSub, Nat.reduceDiv, Nat.reduceMod, Int.reduceToNat, Int.reduceAdd, Int.reduceLT, Int.reduceLE, Int.reduceEq, Int.reduceSub, Int.reduceMul, Int.reduceNeg, ↓reduceIte, reduceCtorEq]
  · obtain rfl : k = s.length := by omega
    have bk : decide ((s.length : Int) < s.length) = false := by simp
    have htr : ∀ c, c < s.length → -3 ≤ (toL (fun c => exBy s (mkB mk) c) s.length).getD c 0 ∧ (toL (fun c => exBy s (mkB mk) c) s.length).getD c 0 ≤ 3 := fun c hc => by
      rw [toL_get _ _ _ hc]; unfold exBy; split
      · split <;> omega
      · omega
    have hmv := fnn_rMove s m (toL (fun c => exBy s (mkB mk) c) s.length) L hs hm (toL_len _ _) htr
    have ec : mvM m (fun h => turnM h ((toL (fun c => exBy s (mkB mk) c) s.length).getD (h / 4).toNat 0)) m.length = exM s m (mkB mk) := mvM_congr hm (fun x x0 x1 => by
      show turnM x _ = turnM x _
      rw [toL_get _ _ _ (by omega), Int.toNat_of_nonneg (by omega)]) _ (Nat.le_refl _)
    rw [ec] at hmv
    have es : toL (fun c => s.getD c 0 * exSg (mkB mk) c) s.length = exS s (mkB mk) := rfl
    have el : (exS s (mkB mk)).length = s.length := by unfold exS; rw [sgM_len]
    rw [List.drop_length, List.append_nil, Nat.sub_self, List.replicate_zero, List.append_nil, es]
    repeat' (first | omega | ((first | refine awC_sound _ _ _ _ ?_ | (refine DrawA.intro (id := 11) [[48,49,50,51,52],[47,49,51,52],[47,48,51,52],[47,51,52],[47,48,49,50],[47,48,49,50],[],[]] [[],[0],[0,1],[0],[0,1,2,3],[0,1,2,3],[],[]] (by decide +kernel) mixed ?_) | skip); simp only [go_sem, Nat.reduceLT, Nat.reduceLeDiff, Nat.reduceEqDiff, Nat.reduceBEq, Nat.reduceBNe, Nat.reduceAdd, Nat.reduceMul, Nat.reduceSub, Nat.reduceDiv, Nat.reduceMod, Int.reduceToNat, Int.reduceAdd, Int.reduceLT, Int.reduceLE, Int.reduceEq, Int.reduceSub, Int.reduceMul, Int.reduceNeg, ↓reduceIte, reduceCtorEq, bk]) | (refine gspDI ?_ ?_ <;> (intro _hh; (try simp only [_hh]); revert _hh)) | refine gspLI ?_ ?_ | refine condLI ?_ ?_ | refine gspI ?_ ?_ | refine And.intro ?_ ?_ | with_reducible intro _hh | trivial | (simp only [cl1, cl2, cl3, List.length_cons, List.length_nil, List.length_append]; omega))
    have tk : List.take s.length (toL (fun c => exBy s (mkB mk) c) s.length) = toL (fun c => exBy s (mkB mk) c) s.length := List.take_of_length_le (by rw [toL_len]; exact Nat.le_refl _)
    have tk2 : List.take s.length (exS s (mkB mk)) = exS s (mkB mk) := List.take_of_length_le (by omega)
    refine ⟨CallA.new (h := hmv) rfl (by simp only [go_sem, Nat.reduceLT, Nat.reduceLeDiff, Nat.reduceEqDiff, Nat.reduceBEq, Nat.reduceBNe, Nat.reduceAdd, Nat.reduceMul, Nat.reduceSub, Nat.reduceDiv, Nat.reduceMod, Int.reduceToNat, Int.reduceAdd, Int.reduceLT, Int.reduceLE, Int.reduceEq, Int.reduceSub, Int.reduceMul, Int.reduceNeg, ↓reduceIte, reduceCtorEq, toL_len, Nat.le_refl, tk]) (by simp only [go_sem, Nat.reduceLT, Nat.reduceLeDiff, Nat.reduceEqDiff, Nat.reduceBEq, Nat.reduceBNe, Nat.reduceAdd, Nat.reduceMul, Nat.reduceSub, Nat.reduceDiv, Nat.reduceMod, Int.reduceToNat, Int.reduceAdd, Int.reduceLT, Int.reduceLE, Int.reduceEq, Int.reduceSub, Int.reduceMul, Int.reduceNeg, ↓reduceIte, reduceCtorEq, toL_len, Nat.le_refl, tk]; try rfl) ?_⟩
    repeat' (first | omega | ((first | refine awC_sound _ _ _ _ ?_ | (refine DrawA.intro (id := 11) [[48,49,50,51,52],[47,49,51,52],[47,48,51,52],[47,51,52],[47,48,49,50],[47,48,49,50],[],[]] [[],[0],[0,1],[0],[0,1,2,3],[0,1,2,3],[],[]] (by decide +kernel) mixed ?_) | skip); simp only [go_sem, Nat.reduceLT, Nat.reduceLeDiff, Nat.reduceEqDiff, Nat.reduceBEq, Nat.reduceBNe, Nat.reduceAdd, Nat.reduceMul, Nat.reduceSub, Nat.reduceDiv, Nat.reduceMod, Int.reduceToNat, Int.reduceAdd, Int.reduceLT, Int.reduceLE, Int.reduceEq, Int.reduceSub, Int.reduceMul, Int.reduceNeg, ↓reduceIte, reduceCtorEq, bk, tk2]) | (refine gspDI ?_ ?_ <;> (intro _hh; (try simp only [_hh]); revert _hh)) | refine gspLI ?_ ?_ | refine condLI ?_ ?_ | refine gspI ?_ ?_ | refine And.intro ?_ ?_ | with_reducible intro _hh | trivial | (simp only [cl1, cl2, cl3, List.length_cons, List.length_nil, List.length_append]; omega))
theorem fn_rSwitched (s m : List Int) (L : Int) (c : Nat) (hc : c < s.length) (hs : s.length ≤ 1000) (hso : signsOk s s.length) (hm : mateOk m s.length) :
    Fn Tryd.prog 17 [dgA s m L, I c] (dgA (exS s (· == (c : Int))) (exM s m (· == (c : Int))) L) := by
  have h := fn_rSwitchAll s m L ((List.replicate s.length false).set c true) (by omega) hs hso hm (by simp)
  have ec : ∀ x : Int, 0 ≤ x → x < s.length → mkB ((List.replicate s.length false).set c true) x = (x == (c : Int)) := fun x h0 h1 => by
    unfold mkB
    by_cases e : x = c
    · subst e; simp [hc]
    · have e2 : (x == (c : Int)) = false := by simpa using e
      rw [e2, List.getD_eq_getElem?_getD, List.getElem?_set_ne (by omega)]
      simp [show x.toNat < s.length by omega]
  have e1 : exS s (mkB ((List.replicate s.length false).set c true)) = exS s (· == (c : Int)) := by
    unfold exS sgM
    refine List.map_congr_left fun x hx => ?_
    have hx' : x < s.length := by simpa using hx
    unfold exSg
    rw [ec x (by omega) (by omega)]
  have e2 : exM s m (mkB ((List.replicate s.length false).set c true)) = exM s m (· == (c : Int)) := by
    unfold exM
    refine mvM_congr hm (fun x h0 h1 => ?_) _ (Nat.le_refl _)
    unfold exBy
    rw [ec (x / 4) (by omega) (by omega)]
  rw [e1, e2] at h
  have hl : ((List.replicate s.length false).set c true).length = s.length := by simp
  rw [hl] at h
  have h' : Fn Tryd.prog 59 [dgA s m L, .ro 1 s.length (.bools (((List.replicate s.length false).set c true).take s.length))] (dgA (exS s (· == (c : Int))) (exM s m (· == (c : Int))) L) := by
    rw [List.take_of_length_le (by omega)]; exact h
  refine Fn.intro [.cell 4 24] Tryd.func17 rfl rfl (by decide) (by simp [Tryd.ntmps17]) ?_; rw [Tryd.ntmps17]
  repeat' (first | omega | ((first | refine awC_sound _ _ _ _ ?_ | skip); simp only [go_sem, Nat.reduceLT, Nat.reduceLeDiff, Nat.reduceEqDiff, Nat.reduceBEq, Nat.reduceBNe, Nat.reduceAdd, Nat.reduceMul, Nat.reduceSub, Nat.reduceDiv, Nat.reduceMod, Int.reduceToNat, Int.reduceAdd, Int.reduceLT, Int.reduceLE, Int.reduceEq, Int.reduceSub, Int.reduceMul, Int.reduceNeg, ↓reduceIte, reduceCtorEq]) | (refine gspDI ?_ ?_ <;> (intro _hh; (try simp only [_hh]); revert _hh)) | refine gspLI ?_ ?_ | refine condLI ?_ ?_ | refine gspI ?_ ?_ | refine And.intro ?_ ?_ | with_reducible intro _hh | trivial | (simp only [cl1, cl2, cl3, List.length_cons, List.length_nil, List.length_append]; omega))
  refine ⟨CallB.frz [2] rfl (by simp only [go_sem, Nat.reduceLT, Nat.reduceLeDiff, Nat.reduceEqDiff, Nat.reduceBEq, Nat.reduceBNe, Nat.reduceAdd, Nat.reduceMul, Nat.reduceSub, Nat.reduceDiv, Nat.reduceMod, Int.reduceToNat, Int.reduceAdd, Int.reduceLT, Int.reduceLE, Int.reduceEq, Int.reduceSub, Int.reduceMul, Int.reduceNeg, ↓reduceIte, reduceCtorEq, hl, Nat.le_refl]) (by simp only [go_sem, Nat.reduceLT, Nat.reduceLeDiff, Nat.reduceEqDiff, Nat.reduceBEq, Nat.reduceBNe, Nat.reduceAdd, Nat.reduceMul, Nat.reduceSub, Nat.reduceDiv, Nat.reduceMod, Int.reduceToNat, Int.reduceAdd, Int.reduceLT, Int.reduceLE, Int.reduceEq, Int.reduceSub, Int.reduceMul, Int.reduceNeg, ↓reduceIte, reduceCtorEq, hl, Nat.le_refl]) (by simp only [go_sem, Nat.reduceLT, Nat.reduceLeDiff, Nat.reduceEqDiff, Nat.reduceBEq, Nat.reduceBNe, Nat.reduceAdd, Nat.reduceMul, Nat.reduceSub, Nat.reduceDiv, Nat.reduceMod, Int.reduceToNat, Int.reduceAdd, Int.reduceLT, Int.reduceLE, Int.reduceEq, Int.reduceSub, Int.reduceMul, Int.reduceNeg, ↓reduceIte, reduceCtorEq, hl, Nat.le_refl]) (by simp only [go_sem, Nat.reduceLT, Nat.reduceLeDiff, Nat.reduceEqDiff, Nat.reduceBEq, Nat.reduceBNe, Nat.reduceAdd, Nat.reduceMul, Nat.reduceSub, Nat.reduceDiv, Nat.reduceMod, Int.reduceToNat, Int.reduceAdd, Int.reduceLT, Int.reduceLE, Int.reduceEq, Int.reduceSub, Int.reduceMul, Int.reduceNeg, ↓reduceIte, reduceCtorEq, hl, Nat.le_refl]) rfl rfl rfl (CallB.fn rfl h' ?_)⟩
  repeat' (first | omega | ((first | refine awC_sound _ _ _ _ ?_ | skip); simp only [go_sem, Nat.reduceLT, Nat.reduceLeDiff, Nat.reduceEqDiff, Nat.reduceBEq, Nat.reduceBNe, Nat.reduceAdd, Nat.reduceMul, Nat.reduceSub, Nat.reduceDiv, Nat.reduceMod, Int.reduceToNat, Int.reduceAdd, Int.reduceLT, Int.reduceLE, Int.reduceEq, Int.reduceSub, Int.reduceMul, Int.reduceNeg, ↓reduceIte, reduceCtorEq]) | (refine gspDI ?_ ?_ <;> (intro _hh; (try simp only [_hh]); revert _hh)) | refine gspLI ?_ ?_ | refine condLI ?_ ?_ | refine gspI ?_ ?_ | refine And.intro ?_ ?_ | with_reducible intro _hh | trivial | (simp only [cl1, cl2, cl3, List.length_cons, List.length_nil, List.length_append]; omega))
end Go.Proofs.YtmplhbgolhlicaaDoor
