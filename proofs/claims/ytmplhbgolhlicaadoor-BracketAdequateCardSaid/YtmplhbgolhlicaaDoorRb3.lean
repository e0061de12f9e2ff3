/- Layer 15, the reference: Adequate. -/
import Derived.Test.YtmplhbgolhlicaaDoorRb2
set_option linter.unusedSimpArgs false
set_option linter.unusedVariables false
namespace Go.Proofs.YtmplhbgolhlicaaDoor
open Go Go.RowKit
set_option maxHeartbeats 8000000
set_option maxRecDepth 100000
def adI (R : List Int) (b : Bool) (c : Nat) : Nat → Bool
  | 0 => true
  | j + 1 => adI R b c j && !((4 * (c : Int) + (j : Int) != 4 * (c : Int)) && ((4 * (c : Int) + (j : Int) != jnB b (4 * (c : Int))) && (R.getD (4 * c + j) 0 == R.getD (4 * c) 0)))
def adO (R : List Int) (b : Bool) : Nat → Bool
  | 0 => true
  | k + 1 => adO R b k && adI R b k 4
theorem adI_mono {R : List Int} {b : Bool} {c : Nat} : ∀ {k n : Nat}, k ≤ n → adI R b c n = true → adI R b c k = true
  | k, 0, h, _ => by
    have : k = 0 := by omega
    subst this; rfl
  | k, n + 1, h, ht => by
    by_cases e : k = n + 1
    · subst e; exact ht
    · simp only [adI, Bool.and_eq_true] at ht
      exact adI_mono (by omega) ht.1
theorem adO_mono {R : List Int} {b : Bool} : ∀ {k n : Nat}, k ≤ n → adO R b n = true → adO R b k = true
  | k, 0, h, _ => by
    have : k = 0 := by omega
    subst this; rfl
  | k, n + 1, h, ht => by
    by_cases e : k = n + 1
    · subst e; exact ht
    · simp only [adO, Bool.and_eq_true] at ht
      exact adO_mono (by omega) ht.1
def boR (N k : Nat) (b : Bool) : List Bool := (List.range N).map fun x => if x < k then b else false
theorem boR_len (N k : Nat) (b : Bool) : (boR N k b).length = N := by simp [boR]
theorem boR_0 (N : Nat) (b : Bool) : boR N 0 b = List.replicate N false := by
  apply List.ext_getElem?
  intro i
  by_cases h : i < N <;> simp [boR, h]
theorem boR_set (N k : Nat) (b : Bool) (h : k < N) : (boR N k b).set k b = boR N (k + 1) b := by
  apply List.ext_getElem?
  intro i
  rw [List.getElem?_set, boR_len]
  by_cases e : k = i
  · subst e; simp [boR, h]
  · rw [if_neg e]
    by_cases hi : i < N
    · simp only [boR, List.getElem?_map, List.getElem?_range hi, Option.map_some]
      by_cases h2 : i < k
      · rw [if_pos h2, if_pos (by omega)]
      · rw [if_neg h2, if_neg (by omega)]
    · simp [boR, hi]
theorem boR_full (N : Nat) (b : Bool) : boR N N b = List.replicate N b := by
  apply List.ext_getElem?
  intro i
  by_cases h : i < N <;> simp [boR, h]
theorem fn_rAdequate (s m : List Int) (L : Int) (p : Bool) (hs : s.length ≤ 1000) (hm : mateOk m s.length) :
    Fn Tryd.prog 38 [dgA s m L, .bool p] (.bool (adO (crN (mtF m) (jnF (List.replicate s.length (!p))) m.length m.length) (!p) s.length)) := by
  have hC := fn_Circles s m L (List.replicate s.length (!p)) hs hm (by simp)
  have cl := crN_len (mtF m) (jnF (List.replicate s.length (!p))) m.length m.length
  have hml := hm.1
  generalize crN (mtF m) (jnF (List.replicate s.length (!p))) m.length m.length = R at *
  refine Fn.introL [.tmp 4] Tryd.func38 rfl rfl (by decide) (by simp [Tryd.ntmps38]) ?_; rw [Tryd.ntmps38]
  repeat' (first | omega | ((first | refine awC_sound _ _ _ _ ?_ | skip); simp only [go_sem, Nat.reduceLT, Nat.reduceLeDiff, Nat.reduceEqDiff, Nat.reduceBEq, Nat.reduceBNe, Nat.reduceAdd, Nat.reduceMul, Nat.reduceSub, Nat.reduceDiv, Nat.reduceMod, Int.reduceToNat, Int.reduceAdd, Int.reduceLT, Int.reduceLE, Int.reduceEq, Int.reduceSub, Int.reduceMul, Int.reduceNeg, ↓reduceIte, reduceCtorEq]) | (refine gspDI ?_ ?_ <;> (intro _hh; (try simp only [_hh]); revert _hh)) | refine gspLI ?_ ?_ | refine condLI ?_ ?_ | refine gspI ?_ ?_ | refine And.intro ?_ ?_ | with_reducible intro _hh | trivial | (simp only [cl1, cl2, cl3, List.length_cons, List.length_nil, List.length_append]; omega))
  refine LoopA.intro (fun n fr H => ∃ k : Nat, k ≤ s.length ∧ n = s.length - k ∧ fr = [(7, I k), (6, .sl 1 1 0 s.length), (5, I s.length), (2, .ptr 0 0), (1, .bool p)] ∧ H = [(1, .cells 4 (.bools (boR s.length k (!p)))), (0, .cells 24 (.lst [roI s, roI m, I L]))]) ?_ ?_
  · refine ⟨_, _, _, ?_, 0, by omega, rfl, rfl, rfl⟩
    rw [boR_0]
    refine Wk.sub ?_ ?_ <;> simp only [go_sem, Nat.reduceLT, Nat.reduceLeDiff, Nat.reduceEqDiff, Nat.reduceBEq, Nat.reduceBNe, Nat.reduceAdd, Nat.reduceMul, Nat.reduceSub, Nat.reduceDiv, Nat.reduceMod, Int.reduceToNat, Int.reduceAdd, Int.reduceLT, Int.reduceLE, Int.reduceEq, Int.reduceSub, Int.reduceMul, Int.reduceNeg, ↓reduceIte, reduceCtorEq]
    all_goals simp_all
  rintro n fr H ⟨k, hk, rfl, rfl, rfl⟩
  have il := boR_len s.length k (!p)
  by_cases hkl : k < s.length
  · repeat' (first | omega | ((first | refine awC_sound _ _ _ _ ?_ | skip); simp only [go_sem, Nat.reduceLT, Nat.reduceLeDiff, Nat.reduceEqDiff, Nat.reduceBEq, Nat.reduceBNe, Nat.reduceAdd, Nat.reduceMul, Nat.reduceSub, Nat.reduceDiv, Nat.reduceMod, Int.reduceToNat, Int.reduceAdd, Int.reduceLT, Int.reduceLE, Int.reduceEq, Int.reduceSub, Int.reduceMul, Int.reduceNeg, ↓reduceIte, reduceCtorEq]) | (refine gspDI ?_ ?_ <;> (intro _hh; (try simp only [_hh]); revert _hh)) | refine gspLI ?_ ?_ | refine condLI ?_ ?_ | refine gspI ?_ ?_ | refine And.intro ?_ ?_ | with_reducible intro _hh | trivial | (simp only [cl1, cl2, cl3, List.length_cons, List.length_nil, List.length_append]; omega))
    rw [boR_set s.length k (!p) hkl]
    refine ⟨_, _, _, ?_, ?_, ⟨k + 1, by omega, rfl, rfl, rfl⟩⟩
    · omega
    · refine Wk.sub ?_ ?_ <;> simp only [go_sem, Nat.reduceLT, Nat.reduceLeDiff, Nat.reduceEqDiff, Nat.reduceBEq, Nat.reduceBNe, Nat.reduceAdd, Nat.reduceMul, Nat.reduceSub, Nat.reduceDiv, Nat.reduceMod, Int.reduceToNat, Int.reduceAdd, Int.reduceLT, Int.reduceLE, Int.reduceEq, Int.reduceSub, Int.reduceMul, Int.reduceNeg, ↓reduceIte, reduceCtorEq]
      all_goals simp_all
  obtain rfl : k = s.length := by omega
  rw [boR_full]
  have htk : List.take s.length (List.replicate s.length (!p)) = List.replicate s.length (!p) := List.take_of_length_le (by simp)
  have hC' : Fn Tryd.prog 79 [dgA s m L, .ro 1 s.length (.bools (List.replicate s.length (!p)))] (roI R) := by
    have := hC
    unfold roB at this
    rw [List.length_replicate] at this
    exact this
  have hle : s.length ≤ s.length := Nat.le_refl _
  have hstl : (List.replicate s.length (!p)).length = s.length := by simp
  generalize List.replicate s.length (!p) = st at *
  repeat' (first | omega | ((first | refine awC_sound _ _ _ _ ?_ | skip); simp only [go_sem, Nat.reduceLT, Nat.reduceLeDiff, Nat.reduceEqDiff, Nat.reduceBEq, Nat.reduceBNe, Nat.reduceAdd, Nat.reduceMul, Nat.reduceSub, Nat.reduceDiv, Nat.reduceMod, Int.reduceToNat, Int.reduceAdd, Int.reduceLT, Int.reduceLE, Int.reduceEq, Int.reduceSub, Int.reduceMul, Int.reduceNeg, ↓reduceIte, reduceCtorEq]) | (refine gspDI ?_ ?_ <;> (intro _hh; (try simp only [_hh]); revert _hh)) | refine gspLI ?_ ?_ | refine condLI ?_ ?_ | refine gspI ?_ ?_ | refine And.intro ?_ ?_ | with_reducible intro _hh | trivial | (simp only [cl1, cl2, cl3, List.length_cons, List.length_nil, List.length_append]; omega))
  refine ⟨CallB.frz [1] rfl (by simp only [go_sem, Nat.reduceLT, Nat.reduceLeDiff, Nat.reduceEqDiff, Nat.reduceBEq, Nat.reduceBNe, Nat.reduceAdd, Nat.reduceMul, Nat.reduceSub, Nat.reduceDiv, Nat.reduceMod, Int.reduceToNat, Int.reduceAdd, Int.reduceLT, Int.reduceLE, Int.reduceEq, Int.reduceSub, Int.reduceMul, Int.reduceNeg, ↓reduceIte, reduceCtorEq, htk, hle, hstl]) (by simp only [go_sem, Nat.reduceLT, Nat.reduceLeDiff, Nat.reduceEqDiff, Nat.reduceBEq, Nat.reduceBNe, Nat.reduceAdd, Nat.reduceMul, Nat.reduceSub, Nat.reduceDiv, Nat.reduceMod, Int.reduceToNat, Int.reduceAdd, Int.reduceLT, Int.reduceLE, Int.reduceEq, Int.reduceSub, Int.reduceMul, Int.reduceNeg, ↓reduceIte, reduceCtorEq, htk, hle, hstl]) (by simp only [go_sem, Nat.reduceLT, Nat.reduceLeDiff, Nat.reduceEqDiff, Nat.reduceBEq, Nat.reduceBNe, Nat.reduceAdd, Nat.reduceMul, Nat.reduceSub, Nat.reduceDiv, Nat.reduceMod, Int.reduceToNat, Int.reduceAdd, Int.reduceLT, Int.reduceLE, Int.reduceEq, Int.reduceSub, Int.reduceMul, Int.reduceNeg, ↓reduceIte, reduceCtorEq, htk, hle, hstl]) (by simp only [go_sem, Nat.reduceLT, Nat.reduceLeDiff, Nat.reduceEqDiff, Nat.reduceBEq, Nat.reduceBNe, Nat.reduceAdd, Nat.reduceMul, Nat.reduceSub, Nat.reduceDiv, Nat.reduceMod, Int.reduceToNat, Int.reduceAdd, Int.reduceLT, Int.reduceLE, Int.reduceEq, Int.reduceSub, Int.reduceMul, Int.reduceNeg, ↓reduceIte, reduceCtorEq, htk, hle, hstl]) rfl rfl rfl (CallB.fn rfl hC' ?_)⟩
  repeat' (first | omega | ((first | refine awC_sound _ _ _ _ ?_ | skip); simp only [go_sem, Nat.reduceLT, Nat.reduceLeDiff, Nat.reduceEqDiff, Nat.reduceBEq, Nat.reduceBNe, Nat.reduceAdd, Nat.reduceMul, Nat.reduceSub, Nat.reduceDiv, Nat.reduceMod, Int.reduceToNat, Int.reduceAdd, Int.reduceLT, Int.reduceLE, Int.reduceEq, Int.reduceSub, Int.reduceMul, Int.reduceNeg, ↓reduceIte, reduceCtorEq]) | (refine gspDI ?_ ?_ <;> (intro _hh; (try simp only [_hh]); revert _hh)) | refine gspLI ?_ ?_ | refine condLI ?_ ?_ | refine gspI ?_ ?_ | refine And.intro ?_ ?_ | with_reducible intro _hh | trivial | (simp only [cl1, cl2, cl3, List.length_cons, List.length_nil, List.length_append]; omega))
  refine LoopA.intro (fun n fr H => ∃ k : Nat, k ≤ s.length ∧ n = s.length - k ∧ adO R (!p) k = true ∧ fr = [(9, I k), (8, roI R), (5, I s.length), (1, .bool p)] ∧ H = []) ?_ ?_
  · refine ⟨_, _, _, ?_, 0, by omega, rfl, rfl, rfl, rfl⟩
    refine Wk.sub ?_ ?_ <;> simp only [go_sem, Nat.reduceLT, Nat.reduceLeDiff, Nat.reduceEqDiff, Nat.reduceBEq, Nat.reduceBNe, Nat.reduceAdd, Nat.reduceMul, Nat.reduceSub, Nat.reduceDiv, Nat.reduceMod, Int.reduceToNat, Int.reduceAdd, Int.reduceLT, Int.reduceLE, Int.reduceEq, Int.reduceSub, Int.reduceMul, Int.reduceNeg, ↓reduceIte, reduceCtorEq]
    all_goals simp_all
  clear hk il hkl
  rintro n fr H ⟨k, hk, rfl, hd, rfl, rfl⟩
  by_cases hkl : k < s.length
  · have hJ := fn_joined (4 * (k : Int)) (!p) (by omega) (by omega)
    have e0 : (4 * (k : Int)).toNat = 4 * k := by omega
    obtain ⟨o, ho⟩ : ∃ o, o = jnB (!p) (4 * (k : Int)) := ⟨_, rfl⟩
    rw [← ho] at hJ
    repeat' (first | omega | ((first | refine awC_sound _ _ _ _ ?_ | skip); simp only [go_sem, Nat.reduceLT, Nat.reduceLeDiff, Nat.reduceEqDiff, Nat.reduceBEq, Nat.reduceBNe, Nat.reduceAdd, Nat.reduceMul, Nat.reduceSub, Nat.reduceDiv, Nat.reduceMod, Int.reduceToNat, Int.reduceAdd, Int.reduceLT, Int.reduceLE, Int.reduceEq, Int.reduceSub, Int.reduceMul, Int.reduceNeg, ↓reduceIte, reduceCtorEq]) | (refine gspDI ?_ ?_ <;> (intro _hh; (try simp only [_hh]); revert _hh)) | refine gspLI ?_ ?_ | refine condLI ?_ ?_ | refine gspI ?_ ?_ | refine And.intro ?_ ?_ | with_reducible intro _hh | trivial | (simp only [cl1, cl2, cl3, List.length_cons, List.length_nil, List.length_append]; omega))
    refine ⟨CallB.fn rfl hJ ?_⟩
    repeat' (first | omega | ((first | refine awC_sound _ _ _ _ ?_ | skip); simp only [go_sem, Nat.reduceLT, Nat.reduceLeDiff, Nat.reduceEqDiff, Nat.reduceBEq, Nat.reduceBNe, Nat.reduceAdd, Nat.reduceMul, Nat.reduceSub, Nat.reduceDiv, Nat.reduceMod, Int.reduceToNat, Int.reduceAdd, Int.reduceLT, Int.reduceLE, Int.reduceEq, Int.reduceSub, Int.reduceMul, Int.reduceNeg, ↓reduceIte, reduceCtorEq]) | (refine gspDI ?_ ?_ <;> (intro _hh; (try simp only [_hh]); revert _hh)) | refine gspLI ?_ ?_ | refine condLI ?_ ?_ | refine gspI ?_ ?_ | refine And.intro ?_ ?_ | with_reducible intro _hh | trivial | (simp only [cl1, cl2, cl3, List.length_cons, List.length_nil, List.length_append]; omega))
    refine LoopA.intro (fun n fr H => ∃ j : Nat, j ≤ 4 ∧ n = 4 - j ∧ adI R (!p) k j = true ∧ fr = [(11, I (4 * (k : Int) + (j : Int))), (10, I o), (9, I k), (8, roI R), (5, I s.length), (1, .bool p)] ∧ H = []) ?_ ?_
    · refine ⟨_, _, _, ?_, 0, by omega, rfl, rfl, rfl, rfl⟩
      refine Wk.sub ?_ ?_ <;> simp only [go_sem, Nat.reduceLT, Nat.reduceLeDiff, Nat.reduceEqDiff, Nat.reduceBEq, Nat.reduceBNe, Nat.reduceAdd, Nat.reduceMul, Nat.reduceSub, Nat.reduceDiv, Nat.reduceMod, Int.reduceToNat, Int.reduceAdd, Int.reduceLT, Int.reduceLE, Int.reduceEq, Int.reduceSub, Int.reduceMul, Int.reduceNeg, ↓reduceIte, reduceCtorEq]
      all_goals simp_all
    rintro n fr H ⟨j, hj, rfl, hi, rfl, rfl⟩
    by_cases hj4 : j < 4
    · have ej : (4 * (k : Int) + (j : Int)).toNat = 4 * k + j := by omega
      have bt : decide (4 * (k : Int) + (j : Int) < 4 * (k : Int) + 4) = true := by simp; omega
      have hIj : adI R (!p) k (j + 1) = !((4 * (k : Int) + (j : Int) != 4 * (k : Int)) && ((4 * (k : Int) + (j : Int) != o) && (R.getD (4 * k + j) 0 == R.getD (4 * k) 0))) := by
        simp only [adI]
        rw [hi, Bool.true_and, ho]
      cases q1 : (4 * (k : Int) + (j : Int) != 4 * (k : Int)) with
      | false =>
        rw [q1] at hIj
        simp only [Bool.false_and, Bool.not_false] at hIj
        repeat' (first | omega | ((first | refine awC_sound _ _ _ _ ?_ | (refine DrawA.intro (id := 15) [[50,51],[49],[49],[],[],[55],[54],[],[],[],[60,63,64,65,66,67],[59,63,64,65,66,67],[63,64,65,66,67],[63,64,65,66,67],[59,60,61,62,64,65],[59,60,61,62,63],[59,60,61,62,63],[59,60,61,62],[59,60,61,62],[],[]] [[],[0],[0],[],[],[],[5],[],[],[],[],[10],[],[],[10,11,12,13],[10,11,12,13,14],[10,11,12,13,14],[10,11,12,13],[10,11,12,13],[],[]] (by decide +kernel) mixed ?_) | skip); simp only [go_sem, Nat.reduceLT, Nat.reduceLeDiff, Nat.reduceEqDiff, Nat.reduceBEq, Nat.reduceBNe, Nat.reduceAdd, Nat.reduceMul, Nat.reduceSub, Nat.reduceDiv, Nat.reduceMod, Int.reduceToNat, Int.reduceAdd, Int.reduceLT, Int.reduceLE, Int.reduceEq, Int.reduceSub, Int.reduceMul, Int.reduceNeg, ↓reduceIte, reduceCtorEq, bt, q1]) | (refine gspDI ?_ ?_ <;> (intro _hh; (try simp only [_hh]); revert _hh)) | refine gspLI ?_ ?_ | refine condLI ?_ ?_ | refine gspI ?_ ?_ | refine And.intro ?_ ?_ | with_reducible intro _hh | trivial | (simp only [cl1, cl2, cl3, List.length_cons, List.length_nil, List.length_append]; omega))
        refine ⟨_, _, _, ?_, ?_, ⟨j + 1, by omega, rfl, hIj, rfl, rfl⟩⟩
        · omega
        · refine Wk.sub ?_ ?_ <;> simp only [go_sem, Nat.reduceLT, Nat.reduceLeDiff, Nat.reduceEqDiff, Nat.reduceBEq, Nat.reduceBNe, Nat.reduceAdd, Nat.reduceMul, Nat.reduceSub, Nat.reduceDiv, Nat.reduceMod, Int.reduceToNat, Int.reduceAdd, Int.reduceLT, Int.reduceLE, Int.reduceEq, Int.reduceSub, Int.reduceMul, Int.reduceNeg, ↓reduceIte, reduceCtorEq]
          all_goals simp_all
          all_goals omega
      | true =>
        rw [q1] at hIj
        simp only [Bool.true_and] at hIj
        cases q2 : (4 * (k : Int) + (j : Int) != o) with
        | false =>
          rw [q2] at hIj
          simp only [Bool.false_and, Bool.not_false] at hIj
          repeat' (first | omega | ((first | refine awC_sound _ _ _ _ ?_ | (refine DrawA.intro (id := 15) [[50,51],[49],[49],[],[],[55],[54],[],[],[],[60,63,64,65,66,67],[59,63,64,65,66,67],[63,64,65,66,67],[63,64,65,66,67],[59,60,61,62,64,65],[59,60,61,62,63],[59,60,61,62,63],[59,60,61,62],[59,60,61,62],[],[]] [[],[0],[0],[],[],[],[5],[],[],[],[],[10],[],[],[10,11,12,13],[10,11,12,13,14],[10,11,12,13,14],[10,11,12,13],[10,11,12,13],[],[]] (by decide +kernel) mixed ?_) | skip); simp only [go_sem, Nat.reduceLT, Nat.reduceLeDiff, Nat.reduceEqDiff, Nat.reduceBEq, Nat.reduceBNe, Nat.reduceAdd, Nat.reduceMul, Nat.reduceSub, Nat.reduceDiv, Nat.reduceMod, Int.reduceToNat, Int.reduceAdd, Int.reduceLT, Int.reduceLE, Int.reduceEq, Int.reduceSub, Int.reduceMul, Int.reduceNeg, ↓reduceIte, reduceCtorEq, bt, q1, q2]) | (refine gspDI ?_ ?_ <;> (intro _hh; (try simp only [_hh]); revert _hh)) | refine gspLI ?_ ?_ | refine condLI ?_ ?_ | refine gspI ?_ ?_ | refine And.intro ?_ ?_ | with_reducible intro _hh | trivial | (simp only [cl1, cl2, cl3, List.length_cons, List.length_nil, List.length_append]; omega))
          refine ⟨_, _, _, ?_, ?_, ⟨j + 1, by omega, rfl, hIj, rfl, rfl⟩⟩
          · omega
          · refine Wk.sub ?_ ?_ <;> simp only [go_sem, Nat.reduceLT, Nat.reduceLeDiff, Nat.reduceEqDiff, Nat.reduceBEq, Nat.reduceBNe, Nat.reduceAdd, Nat.reduceMul, Nat.reduceSub, Nat.reduceDiv, Nat.reduceMod, Int.reduceToNat, Int.reduceAdd, Int.reduceLT, Int.reduceLE, Int.reduceEq, Int.reduceSub, Int.reduceMul, Int.reduceNeg, ↓reduceIte, reduceCtorEq]
            all_goals simp_all
            all_goals omega
        | true =>
          rw [q2] at hIj
          simp only [Bool.true_and] at hIj
          cases q3 : (R.getD (4 * k + j) 0 == R.getD (4 * k) 0) with
          | false =>
            rw [q3] at hIj
            simp only [Bool.not_false] at hIj
            repeat' (first | omega | ((first | refine awC_sound _ _ _ _ ?_ | (refine DrawA.intro (id := 15) [[50,51],[49],[49],[],[],[55],[54],[],[],[],[60,63,64,65,66,67],[59,63,64,65,66,67],[63,64,65,66,67],[63,64,65,66,67],[59,60,61,62,64,65],[59,60,61,62,63],[59,60,61,62,63],[59,60,61,62],[59,60,61,62],[],[]] [[],[0],[0],[],[],[],[5],[],[],[],[],[10],[],[],[10,11,12,13],[10,11,12,13,14],[10,11,12,13,14],[10,11,12,13],[10,11,12,13],[],[]] (by decide +kernel) mixed ?_) | skip); simp only [go_sem, Nat.reduceLT, Nat.reduceLeDiff, Nat.reduceEqDiff, Nat.reduceBEq, Nat.reduceBNe, Nat.reduceAdd, Nat.reduceMul, Nat.reduceSub, Nat.reduceDiv, Nat.reduceMod, Int.reduceToNat, Int.reduceAdd, Int.reduceLT, Int.reduceLE, Int.reduceEq, Int.reduceSub, Int.reduceMul, Int.reduceNeg, ↓reduceIte, reduceCtorEq, bt, q1, q2, q3, e0, ej]) | (refine gspDI ?_ ?_ <;> (intro _hh; (try simp only [_hh]); revert _hh)) | refine gspLI ?_ ?_ | refine condLI ?_ ?_ | refine gspI ?_ ?_ | refine And.intro ?_ ?_ | with_reducible intro _hh | trivial | (simp only [cl1, cl2, cl3, List.length_cons, List.length_nil, List.length_append]; omega))
            refine ⟨_, _, _, ?_, ?_, ⟨j + 1, by omega, rfl, hIj, rfl, rfl⟩⟩
            · omega
            · refine Wk.sub ?_ ?_ <;> simp only [go_sem, Nat.reduceLT, Nat.reduceLeDiff, Nat.reduceEqDiff, Nat.reduceBEq, Nat.reduceBNe, Nat.reduceAdd, Nat.reduceMul, Nat.reduceSub, Nat.reduceDiv, Nat.reduceMod, Int.reduceToNat, Int.reduceAdd, Int.reduceLT, Int.reduceLE, Int.reduceEq, Int.reduceSub, Int.reduceMul, Int.reduceNeg, ↓reduceIte, reduceCtorEq]
              all_goals simp_all
              all_goals omega
          | true =>
            rw [q3] at hIj
            simp only [Bool.not_true] at hIj
            have hf : adO R (!p) s.length = false := by
              cases hz : adO R (!p) s.length with
              | false => rfl
              | true =>
                have h1 := adO_mono (k := k + 1) (by omega) hz
                simp only [adO, Bool.and_eq_true] at h1
                have h2 := adI_mono (k := j + 1) (by omega) h1.2
                rw [hIj] at h2; cases h2
            rw [hf]
            repeat' (first | omega | ((first | refine awC_sound _ _ _ _ ?_ | (refine DrawA.intro (id := 15) [[50,51],[49],[49],[],[],[55],[54],[],[],[],[60,63,64,65,66,67],[59,63,64,65,66,67],[63,64,65,66,67],[63,64,65,66,67],[59,60,61,62,64,65],[59,60,61,62,63],[59,60,61,62,63],[59,60,61,62],[59,60,61,62],[],[]] [[],[0],[0],[],[],[],[5],[],[],[],[],[10],[],[],[10,11,12,13],[10,11,12,13,14],[10,11,12,13,14],[10,11,12,13],[10,11,12,13],[],[]] (by decide +kernel) mixed ?_) | skip); simp only [go_sem, Nat.reduceLT, Nat.reduceLeDiff, Nat.reduceEqDiff, Nat.reduceBEq, Nat.reduceBNe, Nat.reduceAdd, Nat.reduceMul, Nat.reduceSub, Nat.reduceDiv, Nat.reduceMod, Int.reduceToNat, Int.reduceAdd, Int.reduceLT, Int.reduceLE, Int.reduceEq, Int.reduceSub, Int.reduceMul, Int.reduceNeg, ↓reduceIte, reduceCtorEq, bt, q1, q2, q3, e0, ej]) | (refine gspDI ?_ ?_ <;> (intro _hh; (try simp only [_hh]); revert _hh)) | refine gspLI ?_ ?_ | refine condLI ?_ ?_ | refine gspI ?_ ?_ | refine And.intro ?_ ?_ | with_reducible intro _hh | trivial | (simp only [cl1, cl2, cl3, List.length_cons, List.length_nil, List.length_append]; omega))
            all_goals exact LeA.refl _
    · obtain rfl : j = 4 := by omega
      have bt : decide (4 * (k : Int) + ((4 : Nat) : Int) < 4 * (k : Int) + 4) = false := by simp
      repeat' (first | omega | ((first | refine awC_sound _ _ _ _ ?_ | (refine DrawA.intro (id := 15) [[50,51],[49],[49],[],[],[55],[54],[],[],[],[60,63,64,65,66,67],[59,63,64,65,66,67],[63,64,65,66,67],[63,64,65,66,67],[59,60,61,62,64,65],[59,60,61,62,63],[59,60,61,62,63],[59,60,61,62],[59,60,61,62],[],[]] [[],[0],[0],[],[],[],[5],[],[],[],[],[10],[],[],[10,11,12,13],[10,11,12,13,14],[10,11,12,13,14],[10,11,12,13],[10,11,12,13],[],[]] (by decide +kernel) mixed ?_) | skip); simp only [go_sem, Nat.reduceLT, Nat.reduceLeDiff, Nat.reduceEqDiff, Nat.reduceBEq, Nat.reduceBNe, Nat.reduceAdd, Nat.reduceMul, Nat.reduceSub, Nat.reduceDiv, Nat.reduceMod, Int.reduceToNat, Int.reduceAdd, Int.reduceLT, Int.reduceLE, Int.reduceEq, Int.reduceSub, Int.reduceMul, Int.reduceNeg, ↓reduceIte, reduceCtorEq, bt]) | (refine gspDI ?_ ?_ <;> (intro _hh; (try simp only [_hh]); revert _hh)) | refine gspLI ?_ ?_ | refine condLI ?_ ?_ | refine gspI ?_ ?_ | refine And.intro ?_ ?_ | with_reducible intro _hh | trivial | (simp only [cl1, cl2, cl3, List.length_cons, List.length_nil, List.length_append]; omega))
      refine ⟨_, _, _, ?_, ?_, ⟨k + 1, by omega, rfl, by simp only [adO, hd, hi]; rfl, rfl, rfl⟩⟩
      · omega
      · refine Wk.sub ?_ ?_ <;> simp only [go_sem, Nat.reduceLT, Nat.reduceLeDiff, Nat.reduceEqDiff, Nat.reduceBEq, Nat.reduceBNe, Nat.reduceAdd, Nat.reduceMul, Nat.reduceSub, Nat.reduceDiv, Nat.reduceMod, Int.reduceToNat, Int.reduceAdd, Int.reduceLT, Int.reduceLE, Int.reduceEq, Int.reduceSub, Int.reduceMul, Int.reduceNeg, ↓reduceIte, reduceCtorEq]
        all_goals simp_all
  · obtain rfl : k = s.length := by omega
    rw [hd]
    repeat' (first | omega | ((first | refine awC_sound _ _ _ _ ?_ | skip); simp only [go_sem, Nat.reduceLT, Nat.reduceLeDiff, Nat.reduceEqDiff, Nat.reduceBEq, Nat.reduceBNe, Nat.reduceAdd, Nat.reduceMul, Nat.reduceSub, Nat.reduceDiv, Nat.reduceMod, Int.reduceToNat, Int.reduceAdd, Int.reduceLT, Int.reduceLE, Int.reduceEq, Int.reduceSub, Int.reduceMul, Int.reduceNeg, ↓reduceIte, reduceCtorEq]) | (refine gspDI ?_ ?_ <;> (intro _hh; (try simp only [_hh]); revert _hh)) | refine gspLI ?_ ?_ | refine condLI ?_ ?_ | refine gspI ?_ ?_ | refine And.intro ?_ ?_ | with_reducible intro _hh | trivial | (simp only [cl1, cl2, cl3, List.length_cons, List.length_nil, List.length_append]; omega))
    all_goals exact LeA.refl _
end Go.Proofs.YtmplhbgolhlicaaDoor
