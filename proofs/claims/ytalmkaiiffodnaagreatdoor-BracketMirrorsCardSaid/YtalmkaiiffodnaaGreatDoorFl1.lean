/- Layer 12: Flip. -/
import Derived.Test.YtalmkaiiffodnaaGreatDoorMu2
set_option linter.unusedSimpArgs false
set_option linter.unusedVariables false
namespace Go.Proofs.YtalmkaiiffodnaaGreatDoor
open Go Go.RowKit
set_option maxRecDepth 100000
set_option maxHeartbeats 8000000
def ngP (p : List (Int × Int)) : List (Int × Int) := p.map fun t => (-t.1, t.2)
def flP (p : List (Int × Int)) : List (Int × Int) := (ngP p).reverse
theorem ngP_len (p : List (Int × Int)) : (ngP p).length = p.length := by simp [ngP]
theorem tmC_set : ∀ (p : List (Int × Int)) (i : Nat) (e c : Int), ((tmC p).set (i * 2) (I e)).set (i * 2 + 1) (I c) = tmC (p.set i (e, c))
  | [], i, e, c => by simp [tmC]
  | t :: p, 0, e, c => by simp [tmC]
  | t :: p, i + 1, e, c => by
    have := tmC_set p i e c
    have e1 : tmC (t :: p) = I t.1 :: I t.2 :: tmC p := rfl
    have e2 : (i + 1) * 2 = (i * 2) + 1 + 1 := by omega
    have e3 : (i + 1) * 2 + 1 = (i * 2 + 1) + 1 + 1 := by omega
    rw [e1, e3, e2, List.set_cons_succ, List.set_cons_succ, List.set_cons_succ, List.set_cons_succ, this]
    rfl
def rvK (q : List (Int × Int)) (i : Nat) : List (Int × Int) := (List.range q.length).map fun x => q.getD (if x < i ∨ q.length ≤ x + i then q.length - 1 - x else x) (0, 0)
theorem rvK_len (q : List (Int × Int)) (i : Nat) : (rvK q i).length = q.length := by simp [rvK]
theorem rvK_get (q : List (Int × Int)) (i x : Nat) (h : x < q.length) : (rvK q i).getD x (0, 0) = q.getD (if x < i ∨ q.length ≤ x + i then q.length - 1 - x else x) (0, 0) := by
  unfold rvK
  simp only [List.getD_eq_getElem?_getD, List.getElem?_map, List.getElem?_range h, Option.map_some, Option.getD_some]
theorem getD_ext {l k : List (Int × Int)} (hl : l.length = k.length) (h : ∀ x, x < l.length → l.getD x (0, 0) = k.getD x (0, 0)) : l = k := by
  refine List.ext_getElem hl fun x h1 h2 => ?_
  have := h x h1
  simpa [List.getD_eq_getElem?_getD, h1, h2] using this
theorem rvK_0 (q : List (Int × Int)) : rvK q 0 = q := by
  refine getD_ext (rvK_len q 0) fun x hx => ?_
  rw [rvK_len] at hx
  rw [rvK_get q 0 x hx, if_neg (by omega)]
theorem getD_setP (l : List (Int × Int)) (i j : Nat) (v : Int × Int) (hi : i < l.length) : (l.set i v).getD j (0, 0) = if i = j then v else l.getD j (0, 0) := by
  by_cases h : i = j
  · subst h; simp [hi]
  · rw [if_neg h]; simp [List.getD_eq_getElem?_getD, List.getElem?_set_ne h]
theorem rvK_step (q : List (Int × Int)) (i j : Nat) (hj : j = q.length - 1 - i) (h : i < j) : ((rvK q i).set i ((rvK q i).getD j (0, 0))).set j ((rvK q i).getD i (0, 0)) = rvK q (i + 1) := by
  refine getD_ext (by simp [rvK_len]) fun x hx => ?_
  simp only [List.length_set, rvK_len] at hx
  rw [getD_setP _ _ _ _ (by simp [rvK_len]; omega), getD_setP _ _ _ _ (by rw [rvK_len]; omega), rvK_get q (i + 1) x hx, rvK_get q i x hx, rvK_get q i i (by omega), rvK_get q i j (by omega)]
  by_cases e1 : j = x
  · subst e1
    rw [if_pos rfl, if_neg (by omega), if_pos (by omega)]
    congr 1; omega
  · rw [if_neg e1]
    by_cases e2 : i = x
    · subst e2
      rw [if_pos rfl, if_neg (by omega), if_pos (by omega)]
      congr 1
    · rw [if_neg e2]
      by_cases e3 : x < i ∨ q.length ≤ x + i
      · rw [if_pos e3, if_pos (by omega)]
      · rw [if_neg e3, if_neg (by omega)]
theorem rvK_end (q : List (Int × Int)) (i : Nat) (h : q.length ≤ 2 * i + 1) : rvK q i = q.reverse := by
  refine getD_ext (by simp [rvK_len]) fun x hx => ?_
  rw [rvK_len] at hx
  rw [rvK_get q i x hx]
  have : q.reverse.getD x (0, 0) = q.getD (q.length - 1 - x) (0, 0) := by simp [List.getD_eq_getElem?_getD, List.getElem?_reverse hx]
  rw [this]
  split
  · rfl
  · congr 1; omega
abbrev rvH (p : List (Int × Int)) (q : List (Int × Int)) (n : Nat) : Hp := [(3, .cells 29 (.lst [.bool false, .sl 2 2 0 n])), (2, .cells 65 (.lst (tmC q))), (1, .cells 29 (.lst [.bool false, .nils])), (0, .cells 29 (.lst [.bool false, tmA p]))]
theorem call_reverse (p q : List (Int × Int)) (hn : q.length ≤ 500000) (h2 : 1 < q.length) {fr : Fr} {K : AV → Fr → Hp → Prop} (hfr : ∀ H' : Hp, (hget H' 0).isSome = true → (hget H' 1).isSome = true → (hget H' 2).isSome = true → (hget H' 3).isSome = true → ∀ t, fget fr t = .any ∨ s3 H' (fget fr t) = true)
    (hK : K (.tup []) fr (rvH p q.reverse q.length)) : CallI Tryz.prog 77 [.sl 2 2 0 q.length] fr (rvH p q q.length) K := by
  refine CallI.intro [] Tryz.func77 rfl rfl (by decide) (by simp [Tryz.ntmps77]) ?_; rw [Tryz.ntmps77]
  repeat' (first | omega | ((first | refine awC_sound _ _ _ _ ?_ | skip); simp only [go_sem, Nat.reduceLT, Nat.reduceLeDiff, Nat.reduceEqDiff, Nat.reduceBEq, Nat.reduceBNe, Nat.reduceAdd, Nat.reduceMul, Nat.reduceSub, Nat.reduceDiv, Nat.reduceMod, Int.reduceToNat, Int.reduceAdd, Int.reduceLT, Int.reduceLE, Int.reduceEq, Int.reduceSub, Int.reduceMul, Int.reduceNeg, ↓reduceIte, reduceCtorEq]) | (refine gspDI ?_ ?_ <;> (intro _hh; (try simp only [_hh]); revert _hh)) | refine gspLI ?_ ?_ | refine condLI ?_ ?_ | refine gspI ?_ ?_ | refine And.intro ?_ ?_ | with_reducible intro _hh | trivial | (simp only [cl1, cl2, cl3, List.length_cons, List.length_nil, List.length_append]; omega))
  refine LoopA.intro (fun n fr' H => ∃ i : Nat, 2 * i ≤ q.length ∧ n = q.length - i ∧ fr' = [(2, I i), (3, I ((q.length : Int) - 1 - i)), (0, .sl 2 2 0 q.length)] ++ lft fr ∧ H = rvH p (rvK q i) q.length) ?_ ?_
  · refine ⟨_, _, _, ?_, 0, by omega, rfl, rfl, rfl⟩
    rw [rvK_0]
    refine Wk.app ?_ ?_ (hfr _ rfl rfl rfl rfl) (fun t ht => ?_) rfl <;> (simp only [go_sem, Nat.reduceLT, Nat.reduceLeDiff, Nat.reduceEqDiff, Nat.reduceBEq, Nat.reduceBNe, Nat.reduceAdd, Nat.reduceMul, Nat.reduceSub, Nat.reduceDiv, Nat.reduceMod, Int.reduceToNat, Int.reduceAdd, Int.reduceLT, Int.reduceLE, Int.reduceEq, Int.reduceSub, Int.reduceMul, Int.reduceNeg, ↓reduceIte, reduceCtorEq, tmC_s3])
    all_goals repeat rw [if_neg (by omega)]
  rintro n fr' H ⟨i, hi, rfl, rfl, rfl⟩
  have hL := rvK_len q i
  have hlen := tmC_len (rvK q i)
  by_cases hij : 2 * i + 1 < q.length
  · obtain ⟨j, hj⟩ : ∃ j : Nat, j = q.length - 1 - i := ⟨_, rfl⟩
    have hjc : (q.length : Int) - 1 - i = (j : Int) := by omega
    have st := rvK_step q i j hj (by omega)
    have bij : decide ((i : Int) < j) = true := by simp; omega
    have g0 := tmC_get0 (rvK q i) i (by omega)
    have g1 := tmC_get1 (rvK q i) i (by omega)
    have k0 := tmC_get0 (rvK q i) j (by omega)
    have k1 := tmC_get1 (rvK q i) j (by omega)
    rw [hjc]
    repeat' (first | omega | ((first | refine awC_sound _ _ _ _ ?_ | (refine DrawA.intro (id := 3) [[15,16,17,18,19,20,21,22,23,24,25],[14,16,17,18,19,20,21,22,23,24,25],[14,15,17,18,19,20,21,22,23,24,25,26],[14,15,16,18,19,20,21,22,23,24,25,26],[14,15,16,17,19,22,23,24,25],[14,15,16,17,18,22,23,24,25],[14,15,16,17,22,23,24,25],[14,15,16,17,22,23,24,25],[14,15,16,17,18,19,20,21,23],[14,15,16,17,18,19,20,21,22],[14,15,16,17,18,19,20,21],[14,15,16,17,18,19,20,21],[16,17],[16,17],[],[]] [[],[0],[0,1],[0,1,2],[0,1,2,3],[0,1,2,3,4],[0,1,2,3],[0,1,2,3],[0,1,2,3,4,5,6,7],[0,1,2,3,4,5,6,7,8],[0,1,2,3,4,5,6,7],[0,1,2,3,4,5,6,7],[2,3],[2,3],[],[]] (by decide +kernel) mixed ?_) | skip); simp only [go_sem, Nat.reduceLT, Nat.reduceLeDiff, Nat.reduceEqDiff, Nat.reduceBEq, Nat.reduceBNe, Nat.reduceAdd, Nat.reduceMul, Nat.reduceSub, Nat.reduceDiv, Nat.reduceMod, Int.reduceToNat, Int.reduceAdd, Int.reduceLT, Int.reduceLE, Int.reduceEq, Int.reduceSub, Int.reduceMul, Int.reduceNeg, ↓reduceIte, reduceCtorEq, bij, g0, g1, k0, k1, hlen, hL, Int.toNat_natCast]) | (refine gspDI ?_ ?_ <;> (intro _hh; (try simp only [_hh]); revert _hh)) | refine gspLI ?_ ?_ | refine condLI ?_ ?_ | refine gspI ?_ ?_ | refine And.intro ?_ ?_ | with_reducible intro _hh | trivial | (simp only [cl1, cl2, cl3, List.length_cons, List.length_nil, List.length_append]; omega))
    rw [tmC_set, tmC_set, st]
    have hjc2 : (j : Int) - 1 = (q.length : Int) - 1 - ((i + 1 : Nat) : Int) := by omega
    rw [hjc2]
    refine ⟨_, _, _, ?_, ?_, ⟨i + 1, by omega, rfl, rfl, rfl⟩⟩
    · omega
    · refine Wk.app (A := [(2, I ((i : Int) + 1)), (3, I ((q.length : Int) - 1 - ((i + 1 : Nat) : Int))), (0, .sl 2 2 0 q.length)]) ?_ ?_ (hfr (rvH p (rvK q (i + 1)) q.length) rfl rfl rfl rfl) (fun t ht => ?_) rfl <;> (simp only [go_sem, Nat.reduceLT, Nat.reduceLeDiff, Nat.reduceEqDiff, Nat.reduceBEq, Nat.reduceBNe, Nat.reduceAdd, Nat.reduceMul, Nat.reduceSub, Nat.reduceDiv, Nat.reduceMod, Int.reduceToNat, Int.reduceAdd, Int.reduceLT, Int.reduceLE, Int.reduceEq, Int.reduceSub, Int.reduceMul, Int.reduceNeg, ↓reduceIte, reduceCtorEq, tmC_s3])
      all_goals repeat rw [if_neg (by omega)]
  · have bij : decide ((i : Int) < (q.length : Int) - 1 - i) = false := by simp; omega
    rw [rvK_end q i (by omega)]
    repeat' (first | omega | ((first | refine awC_sound _ _ _ _ ?_ | skip); simp only [go_sem, Nat.reduceLT, Nat.reduceLeDiff, Nat.reduceEqDiff, Nat.reduceBEq, Nat.reduceBNe, Nat.reduceAdd, Nat.reduceMul, Nat.reduceSub, Nat.reduceDiv, Nat.reduceMod, Int.reduceToNat, Int.reduceAdd, Int.reduceLT, Int.reduceLE, Int.reduceEq, Int.reduceSub, Int.reduceMul, Int.reduceNeg, ↓reduceIte, reduceCtorEq, bij]) | (refine gspDI ?_ ?_ <;> (intro _hh; (try simp only [_hh]); revert _hh)) | refine gspLI ?_ ?_ | refine condLI ?_ ?_ | refine gspI ?_ ?_ | refine And.intro ?_ ?_ | with_reducible intro _hh | trivial | (simp only [cl1, cl2, cl3, List.length_cons, List.length_nil, List.length_append]; omega))
theorem fn_Flip1 (x : Int) (h0 : -1048576 ≤ x) (h1 : x ≤ 1048576) : Fn Tryz.prog 53 [I x] (I (-x)) := by
  have e : (0 : Int) - x = -x := by omega
  refine Fn.intro [.tmp 2] Tryz.func53 rfl rfl (by decide) (by simp [Tryz.ntmps53]) ?_; rw [Tryz.ntmps53]
  repeat' (first | omega | ((first | refine awC_sound _ _ _ _ ?_ | skip); simp only [go_sem, Nat.reduceLT, Nat.reduceLeDiff, Nat.reduceEqDiff, Nat.reduceBEq, Nat.reduceBNe, Nat.reduceAdd, Nat.reduceMul, Nat.reduceSub, Nat.reduceDiv, Nat.reduceMod, Int.reduceToNat, Int.reduceAdd, Int.reduceLT, Int.reduceLE, Int.reduceEq, Int.reduceSub, Int.reduceMul, Int.reduceNeg, ↓reduceIte, reduceCtorEq, e]) | (refine gspDI ?_ ?_ <;> (intro _hh; (try simp only [_hh]); revert _hh)) | refine gspLI ?_ ?_ | refine condLI ?_ ?_ | refine gspI ?_ ?_ | refine And.intro ?_ ?_ | with_reducible intro _hh | trivial | (simp only [cl1, cl2, cl3, List.length_cons, List.length_nil, List.length_append]; omega))
theorem fn_movedN (p : List (Int × Int)) (hp : ∀ t ∈ p, -1048576 ≤ t.1 ∧ t.1 ≤ 1048576) (hasc : 1 < p.length → (p.getD 0 (0, 0)).1 < (p.getD 1 (0, 0)).1) (hl : p.length ≤ 500000) :
    Fn Tryz.prog 52 [plA false p, .fn 53 []] (plA false (flP p)) := by
  refine Fn.introL [.cell 4 29] Tryz.func52 rfl rfl (by decide) (by simp [Tryz.ntmps52]) ?_; rw [Tryz.ntmps52]
  repeat' (first | omega | ((first | refine awC_sound _ _ _ _ ?_ | skip); simp only [go_sem, Nat.reduceLT, Nat.reduceLeDiff, Nat.reduceEqDiff, Nat.reduceBEq, Nat.reduceBNe, Nat.reduceAdd, Nat.reduceMul, Nat.reduceSub, Nat.reduceDiv, Nat.reduceMod, Int.reduceToNat, Int.reduceAdd, Int.reduceLT, Int.reduceLE, Int.reduceEq, Int.reduceSub, Int.reduceMul, Int.reduceNeg, ↓reduceIte, reduceCtorEq]) | (refine gspDI ?_ ?_ <;> (intro _hh; (try simp only [_hh]); revert _hh)) | refine gspLI ?_ ?_ | refine condLI ?_ ?_ | refine gspI ?_ ?_ | refine And.intro ?_ ?_ | with_reducible intro _hh | trivial | (simp only [cl1, cl2, cl3, List.length_cons, List.length_nil, List.length_append]; omega))
  refine LoopA.intro (fun n fr H => ∃ i : Nat, i ≤ p.length ∧ n = p.length - i ∧ fr = [(20, I i), (19, I p.length), (18, tmA p), (5, .ptr 3 0), (4, .ptr 1 0), (2, .ptr 0 0), (1, .fn 53 [])] ∧ H = rvH p (ngP (p.take i)) i) ?_ ?_
  · refine ⟨_, _, _, ?_, 0, by omega, rfl, rfl, rfl⟩
    refine Wk.sub ?_ ?_ <;> simp only [go_sem, Nat.reduceLT, Nat.reduceLeDiff, Nat.reduceEqDiff, Nat.reduceBEq, Nat.reduceBNe, Nat.reduceAdd, Nat.reduceMul, Nat.reduceSub, Nat.reduceDiv, Nat.reduceMod, Int.reduceToNat, Int.reduceAdd, Int.reduceLT, Int.reduceLE, Int.reduceEq, Int.reduceSub, Int.reduceMul, Int.reduceNeg, ↓reduceIte, reduceCtorEq]
    all_goals simp [ngP, tmC]
  rintro n fr H ⟨i, hi, rfl, rfl, rfl⟩
  by_cases hil : i < p.length
  · have t0 := tmC_get0 p i hil
    have t1 := tmC_get1 p i hil
    have hm : p.getD i (0, 0) ∈ p := by simp [hil]
    have bi : decide ((i : Int) < p.length) = true := by simp; omega
    have hp1 := hp _ hm
    have hs := fn_Flip1 (p.getD i (0, 0)).1 (by omega) (by omega)
    have hw := fn_within (-(p.getD i (0, 0)).1) 1048576 (by omega) (by omega)
    rw [show fitB (-(p.getD i (0, 0)).1) 1048576 = true by unfold fitB; rw [Bool.and_eq_true, decide_eq_true_eq, decide_eq_true_eq]; omega] at hw
    repeat' (first | omega | ((first | refine awC_sound _ _ _ _ ?_ | (refine DrawA.intro (id := 12) [[],[],[],[],[],[52,53,54,55,56],[52,53,54,55,56],[52,53,54,55,56],[52,53,54,55,56],[52,53,54,55,56],[47,48,49,50,51],[47,48,49,50,51],[47,48,49,50,51],[47,48,49,50,51],[47,48,49,50,51],[],[]] [[],[],[],[],[],[],[],[],[],[],[5,6,7,8,9],[5,6,7,8,9],[5,6,7,8,9],[5,6,7,8,9],[5,6,7,8,9],[],[]] (by decide +kernel) mixed ?_) | skip); simp only [go_sem, Nat.reduceLT, Nat.reduceLeDiff, Nat.reduceEqDiff, Nat.reduceBEq, Nat.reduceBNe, Nat.reduceAdd, Nat.reduceMul, Nat.reduceSub, Nat.reduceDiv, Nat.reduceMod, Int.reduceToNat, Int.reduceAdd, Int.reduceLT, Int.reduceLE, Int.reduceEq, Int.reduceSub, Int.reduceMul, Int.reduceNeg, ↓reduceIte, reduceCtorEq, t0, t1, bi]) | (refine gspDI ?_ ?_ <;> (intro _hh; (try simp only [_hh]); revert _hh)) | refine gspLI ?_ ?_ | refine condLI ?_ ?_ | refine gspI ?_ ?_ | refine And.intro ?_ ?_ | with_reducible intro _hh | trivial | (simp only [cl1, cl2, cl3, List.length_cons, List.length_nil, List.length_append]; omega))
    refine ⟨CallB.fn rfl hs ?_⟩
    repeat' (first | omega | ((first | refine awC_sound _ _ _ _ ?_ | (refine DrawA.intro (id := 12) [[],[],[],[],[],[52,53,54,55,56],[52,53,54,55,56],[52,53,54,55,56],[52,53,54,55,56],[52,53,54,55,56],[47,48,49,50,51],[47,48,49,50,51],[47,48,49,50,51],[47,48,49,50,51],[47,48,49,50,51],[],[]] [[],[],[],[],[],[],[],[],[],[],[5,6,7,8,9],[5,6,7,8,9],[5,6,7,8,9],[5,6,7,8,9],[5,6,7,8,9],[],[]] (by decide +kernel) mixed ?_) | skip); simp only [go_sem, Nat.reduceLT, Nat.reduceLeDiff, Nat.reduceEqDiff, Nat.reduceBEq, Nat.reduceBNe, Nat.reduceAdd, Nat.reduceMul, Nat.reduceSub, Nat.reduceDiv, Nat.reduceMod, Int.reduceToNat, Int.reduceAdd, Int.reduceLT, Int.reduceLE, Int.reduceEq, Int.reduceSub, Int.reduceMul, Int.reduceNeg, ↓reduceIte, reduceCtorEq, t0, t1, bi]) | (refine gspDI ?_ ?_ <;> (intro _hh; (try simp only [_hh]); revert _hh)) | refine gspLI ?_ ?_ | refine condLI ?_ ?_ | refine gspI ?_ ?_ | refine And.intro ?_ ?_ | with_reducible intro _hh | trivial | (simp only [cl1, cl2, cl3, List.length_cons, List.length_nil, List.length_append]; omega))
    refine ⟨CallB.fn rfl hw ?_⟩
    repeat' (first | omega | ((first | refine awC_sound _ _ _ _ ?_ | (refine DrawA.intro (id := 12) [[],[],[],[],[],[52,53,54,55,56],[52,53,54,55,56],[52,53,54,55,56],[52,53,54,55,56],[52,53,54,55,56],[47,48,49,50,51],[47,48,49,50,51],[47,48,49,50,51],[47,48,49,50,51],[47,48,49,50,51],[],[]] [[],[],[],[],[],[],[],[],[],[],[5,6,7,8,9],[5,6,7,8,9],[5,6,7,8,9],[5,6,7,8,9],[5,6,7,8,9],[],[]] (by decide +kernel) mixed ?_) | skip); simp only [go_sem, Nat.reduceLT, Nat.reduceLeDiff, Nat.reduceEqDiff, Nat.reduceBEq, Nat.reduceBNe, Nat.reduceAdd, Nat.reduceMul, Nat.reduceSub, Nat.reduceDiv, Nat.reduceMod, Int.reduceToNat, Int.reduceAdd, Int.reduceLT, Int.reduceLE, Int.reduceEq, Int.reduceSub, Int.reduceMul, Int.reduceNeg, ↓reduceIte, reduceCtorEq, t0, t1, bi]) | (refine gspDI ?_ ?_ <;> (intro _hh; (try simp only [_hh]); revert _hh)) | refine gspLI ?_ ?_ | refine condLI ?_ ?_ | refine gspI ?_ ?_ | refine And.intro ?_ ?_ | with_reducible intro _hh | trivial | (simp only [cl1, cl2, cl3, List.length_cons, List.length_nil, List.length_append]; omega))
    · simp [ngP]; omega
    refine ⟨_, _, _, ?_, ?_, ⟨i + 1, by omega, rfl, rfl, rfl⟩⟩
    · omega
    · have e : ngP (p.take (i + 1)) = ngP (p.take i) ++ [(-(p.getD i (0, 0)).1, (p.getD i (0, 0)).2)] := by
        unfold ngP
        rw [List.take_add_one, List.map_append, List.getElem?_eq_getElem hil]
        simp [hil]
      rw [tmC_snoc, ← e]
      refine Wk.sub ?_ ?_ <;> simp only [go_sem, Nat.reduceLT, Nat.reduceLeDiff, Nat.reduceEqDiff, Nat.reduceBEq, Nat.reduceBNe, Nat.reduceAdd, Nat.reduceMul, Nat.reduceSub, Nat.reduceDiv, Nat.reduceMod, Int.reduceToNat, Int.reduceAdd, Int.reduceLT, Int.reduceLE, Int.reduceEq, Int.reduceSub, Int.reduceMul, Int.reduceNeg, ↓reduceIte, reduceCtorEq]
  · obtain rfl : i = p.length := by omega
    rw [List.take_length]
    have bi : decide ((p.length : Int) < p.length) = false := by simp
    have hle : (ngP p).length = p.length := ngP_len p
    have hle2 : (flP p).length = p.length := by simp [flP, hle]
    by_cases h2 : 1 < p.length
    · have t0 := tmC_get0 (ngP p) 0 (by omega)
      have t1 := tmC_get0 (ngP p) 1 (by omega)
      have b2 : decide ((1 : Int) < p.length) = true := by simp; omega
      have b3 : decide (((ngP p).getD 1 (0, 0)).1 < ((ngP p).getD 0 (0, 0)).1) = true := by
        have := hasc h2
        unfold ngP
        match p, h2 with
        | x :: y :: r, _ => simp at this ⊢; omega
      have hcr := @call_reverse p (ngP p) (by omega) (by omega)
      rw [hle] at hcr
      repeat' (first | omega | ((first | refine awC_sound _ _ _ _ ?_ | (refine DrawA.intro (id := 12) [[],[],[],[],[],[52,53,54,55,56],[52,53,54,55,56],[52,53,54,55,56],[52,53,54,55,56],[52,53,54,55,56],[47,48,49,50,51],[47,48,49,50,51],[47,48,49,50,51],[47,48,49,50,51],[47,48,49,50,51],[],[]] [[],[],[],[],[],[],[],[],[],[],[5,6,7,8,9],[5,6,7,8,9],[5,6,7,8,9],[5,6,7,8,9],[5,6,7,8,9],[],[]] (by decide +kernel) mixed ?_) | skip); simp only [go_sem, Nat.reduceLT, Nat.reduceLeDiff, Nat.reduceEqDiff, Nat.reduceBEq, Nat.reduceBNe, Nat.reduceAdd, Nat.reduceMul, Nat.reduceSub, Nat.reduceDiv, Nat.reduceMod, Int.reduceToNat, Int.reduceAdd, Int.reduceLT, Int.reduceLE, Int.reduceEq, Int.reduceSub, Int.reduceMul, Int.reduceNeg, ↓reduceIte, reduceCtorEq, t0, t1, bi, b2, b3]) | (refine gspDI ?_ ?_ <;> (intro _hh; (try simp only [_hh]); revert _hh)) | refine gspLI ?_ ?_ | refine condLI ?_ ?_ | refine gspI ?_ ?_ | refine And.intro ?_ ?_ | with_reducible intro _hh | trivial | (simp only [cl1, cl2, cl3, List.length_cons, List.length_nil, List.length_append]; omega))
      refine ⟨CallB.inline (hcr (fun H' g0 g1 g2 g3 => fr_ok (by simp only [go_sem, Nat.reduceLT, Nat.reduceLeDiff, Nat.reduceEqDiff, Nat.reduceBEq, Nat.reduceBNe, Nat.reduceAdd, Nat.reduceMul, Nat.reduceSub, Nat.reduceDiv, Nat.reduceMod, Int.reduceToNat, Int.reduceAdd, Int.reduceLT, Int.reduceLE, Int.reduceEq, Int.reduceSub, Int.reduceMul, Int.reduceNeg, ↓reduceIte, reduceCtorEq, g0, g1, g2, g3, tmC_s3])) ?_)⟩
      have hle3 : (ngP p).reverse.length = p.length := by rw [List.length_reverse, hle]
      repeat' (first | omega | ((first | refine awC_sound _ _ _ _ ?_ | skip); simp only [go_sem, Nat.reduceLT, Nat.reduceLeDiff, Nat.reduceEqDiff, Nat.reduceBEq, Nat.reduceBNe, Nat.reduceAdd, Nat.reduceMul, Nat.reduceSub, Nat.reduceDiv, Nat.reduceMod, Int.reduceToNat, Int.reduceAdd, Int.reduceLT, Int.reduceLE, Int.reduceEq, Int.reduceSub, Int.reduceMul, Int.reduceNeg, ↓reduceIte, reduceCtorEq, tmC_snapP]) | (refine gspDI ?_ ?_ <;> (intro _hh; (try simp only [_hh]); revert _hh)) | refine gspLI ?_ ?_ | refine condLI ?_ ?_ | refine gspI ?_ ?_ | refine And.intro ?_ ?_ | with_reducible intro _hh | trivial | (simp only [cl1, cl2, cl3, List.length_cons, List.length_nil, List.length_append]; omega))
      all_goals exact LeA.of (by rw [List.take_of_length_le (by rw [tmC_len, hle3]; omega), hle2]; rfl)
    · have b2 : decide ((1 : Int) < p.length) = false := by simp; omega
      have e1 : flP p = ngP p := by
        unfold flP
        match p, h2 with
        | [], _ => rfl
        | [x], _ => rfl
        | _ :: _ :: _, h => exact absurd (by simp) h
      rw [e1]
      repeat' (first | omega | ((first | refine awC_sound _ _ _ _ ?_ | (refine DrawA.intro (id := 12) [[],[],[],[],[],[52,53,54,55,56],[52,53,54,55,56],[52,53,54,55,56],[52,53,54,55,56],[52,53,54,55,56],[47,48,49,50,51],[47,48,49,50,51],[47,48,49,50,51],[47,48,49,50,51],[47,48,49,50,51],[],[]] [[],[],[],[],[],[],[],[],[],[],[5,6,7,8,9],[5,6,7,8,9],[5,6,7,8,9],[5,6,7,8,9],[5,6,7,8,9],[],[]] (by decide +kernel) mixed ?_) | skip); simp only [go_sem, Nat.reduceLT, Nat.reduceLeDiff, Nat.reduceEqDiff, Nat.reduceBEq, Nat.reduceBNe, Nat.reduceAdd, Nat.reduceMul, Nat.reduceSub, Nat.reduceDiv, Nat.reduceMod, Int.reduceToNat, Int.reduceAdd, Int.reduceLT, Int.reduceLE, Int.reduceEq, Int.reduceSub, Int.reduceMul, Int.reduceNeg, ↓reduceIte, reduceCtorEq, bi, b2]) | (refine gspDI ?_ ?_ <;> (intro _hh; (try simp only [_hh]); revert _hh)) | refine gspLI ?_ ?_ | refine condLI ?_ ?_ | refine gspI ?_ ?_ | refine And.intro ?_ ?_ | with_reducible intro _hh | trivial | (simp only [cl1, cl2, cl3, List.length_cons, List.length_nil, List.length_append]; omega))
      all_goals (rw [List.take_of_length_le (by rw [tmC_len, hle]; omega), hle]; exact LeA.refl _)
theorem fn_Flip (p : List (Int × Int)) (hp : ∀ t ∈ p, -1048576 ≤ t.1 ∧ t.1 ≤ 1048576) (hasc : 1 < p.length → (p.getD 0 (0, 0)).1 < (p.getD 1 (0, 0)).1) (hl : p.length ≤ 500000) :
    Fn Tryz.prog 21 [plA false p] (plA false (flP p)) := by
  have hm := fn_movedN p hp hasc hl
  refine Fn.intro [.cell 2 29] Tryz.func21 rfl rfl (by decide) (by simp [Tryz.ntmps21]) ?_; rw [Tryz.ntmps21]
  repeat' (first | omega | ((first | refine awC_sound _ _ _ _ ?_ | skip); simp only [go_sem, Nat.reduceLT, Nat.reduceLeDiff, Nat.reduceEqDiff, Nat.reduceBEq, Nat.reduceBNe, Nat.reduceAdd, Nat.reduceMul, Nat.reduceSub, Nat.reduceDiv, Nat.reduceMod, Int.reduceToNat, Int.reduceAdd, Int.reduceLT, Int.reduceLE, Int.reduceEq, Int.reduceSub, Int.reduceMul, Int.reduceNeg, ↓reduceIte, reduceCtorEq, tmC_s3]) | (refine gspDI ?_ ?_ <;> (intro _hh; (try simp only [_hh]); revert _hh)) | refine gspLI ?_ ?_ | refine condLI ?_ ?_ | refine gspI ?_ ?_ | refine And.intro ?_ ?_ | with_reducible intro _hh | trivial | (simp only [cl1, cl2, cl3, List.length_cons, List.length_nil, List.length_append]; omega))
  refine ⟨CallB.fn rfl hm ?_⟩
  repeat' (first | omega | ((first | refine awC_sound _ _ _ _ ?_ | skip); simp only [go_sem, Nat.reduceLT, Nat.reduceLeDiff, Nat.reduceEqDiff, Nat.reduceBEq, Nat.reduceBNe, Nat.reduceAdd, Nat.reduceMul, Nat.reduceSub, Nat.reduceDiv, Nat.reduceMod, Int.reduceToNat, Int.reduceAdd, Int.reduceLT, Int.reduceLE, Int.reduceEq, Int.reduceSub, Int.reduceMul, Int.reduceNeg, ↓reduceIte, reduceCtorEq, tmC_snapP, tmC_snap]) | (refine gspDI ?_ ?_ <;> (intro _hh; (try simp only [_hh]); revert _hh)) | refine gspLI ?_ ?_ | refine condLI ?_ ?_ | refine gspI ?_ ?_ | refine And.intro ?_ ?_ | with_reducible intro _hh | trivial | (simp only [cl1, cl2, cl3, List.length_cons, List.length_nil, List.length_append]; omega))
end Go.Proofs.YtalmkaiiffodnaaGreatDoor
