/- The references of layer 17: edges, Order, Width. -/
import Derived.Test.YtebdkebfkpbmpaaDoorRo1
import Derived.Test.YtebdkebfkpbmpaaDoorSx3
import Derived.Test.YtebdkebfkpbmpaaDoorXo
namespace Go.Proofs.YtebdkebfkpbmpaaDoor
open Go Go.RowKit
set_option maxRecDepth 100000
set_option maxHeartbeats 8000000
set_option linter.unusedVariables false
set_option linter.unusedSimpArgs false
def drRo20 : List (List Nat) := [[],[],[],[26,27,29,30,31],[25,27,29,30,31],[25,26,29,30,31],[29,30,31],[25,26,27,28,30,31],[25,26,27,28,29,31],[25,26,27,28,29,30],[],[],[]]
def drRo21 : List (List Nat) := [[],[],[],[],[3],[3,4],[],[3,4,5,6],[3,4,5,6,7],[3,4,5,6,7,8],[],[],[]]
def drRo22 : Tr := .node [(0, .node [(3, .node [(4, .node [(7, .node [(8, .node [(9, .node [(1, .node [(2, .node [(5, .node [(6, .node [(10, .node [(11, .node [(12, .done)])])])])]), (5, .node [(2, .node [(6, .node [(10, .node [(11, .node [(12, .done)])])])]), (6, .node [(2, .node [(10, .node [(11, .node [(12, .done)])])])])])]), (2, .node [(1, .node [(5, .node [(6, .node [(10, .node [(11, .node [(12, .done)])])])])]), (5, .node [(1, .node [(6, .node [(10, .node [(11, .node [(12, .done)])])])]), (6, .node [(1, .node [(10, .node [(11, .node [(12, .done)])])]), (10, .node [(1, .node [(11, .node [(12, .done)])])])])])]), (5, .node [(1, .node [(2, .node [(6, .node [(10, .node [(11, .node [(12, .done)])])])]), (6, .node [(2, .node [(10, .node [(11, .node [(12, .done)])])])])]), (2, .node [(1, .node [(6, .node [(10, .node [(11, .node [(12, .done)])])])]), (6, .node [(1, .node [(10, .node [(11, .node [(12, .done)])])]), (10, .node [(1, .node [(11, .node [(12, .done)])])])])]), (6, .node [(1, .node [(2, .node [(10, .node [(11, .node [(12, .done)])])])]), (2, .node [(1, .node [(10, .node [(11, .node [(12, .done)])])]), (10, .node [(1, .node [(11, .node [(12, .done)])])])])])])])])])])])])]
def drRo23 : List (List Nat) := [[22,23,24,25,26,27,28,29,30],[22,23,24,25,26,27,28,29,30],[20,21,23,24,25,26,27,28,29],[20,21,22,24,27,28,29],[20,21,22,23,27,28,29],[20,21,22,27,28,29],[20,21,22,27,28,29],[20,21,22,23,24,25,26,28],[20,21,22,23,24,25,26,27],[20,21,22,23,24,25,26],[20,21],[],[]]
def drRo24 : List (List Nat) := [[],[],[0,1],[0,1,2],[0,1,2,3],[0,1,2],[0,1,2],[0,1,2,3,4,5,6],[0,1,2,3,4,5,6,7],[0,1,2,3,4,5,6],[0,1],[],[]]
theorem fn_rEdges (s m : List Int) (L : Int) (c : Nat) (l : List Int) (hm : mateOk m s.length) (hs : s.length ≤ 1000) (hc : c < s.length) (hl : l.length ≤ 100000) : Fn Tryd.prog 31 [dgA s m L, I c, roI l] (I (eN m l c 4)) := by
  have hml := hm.1
  refine Fn.introL [.tmp 6] Tryd.func31 rfl rfl (by decide) (by simp [Tryd.ntmps31]) ?_; rw [Tryd.ntmps31]
  repeat' (first | omega | ((try refine awC_sound _ _ _ _ ?_); simp only [go_sem, sevalprocAttr, ↓reduceIte, reduceCtorEq]) | (apply gspDI <;> (intro h_; (try simp only [h_]); revert h_)) | apply gspLI | apply condLI | apply gspI | apply And.intro | with_reducible intro h_ | trivial | (simp only [go_sem, List.length_append]; omega))
  refine LoopA.intro (fun n' fr H => ∃ j : Nat, j ≤ 4 ∧ n' = 4 - j ∧ fr = [(8, I j), (7, I (eN m l c j)), (3, .ptr 0 0), (1, I c), (2, roI l)] ∧ H = [(0, .cells 24 (.lst [roI s, roI m, I L]))]) ?_ ?_
  · refine ⟨_, _, _, Wk.sub ?_ ?_, 0, by omega, rfl, rfl, rfl⟩
    · (simp only [go_sem, sevalprocAttr, ↓reduceIte, reduceCtorEq, eN]) <;> rfl
    · simp only [go_sem, sevalprocAttr, ↓reduceIte, reduceCtorEq]
  rintro n' fr H ⟨j, hj, rfl, rfl, rfl⟩
  have her := eN_le m l c j
  by_cases hj4 : j < 4
  · have bj : decide ((j : Int) < 4) = true := by simp; omega
    have hy := hm.2 (4 * c + j) (by omega)
    have e7 : (4 * (c : Int) + (j : Int)).toNat = 4 * c + j := by omega
    obtain ⟨y, hyd⟩ : ∃ y : Nat, m.getD (4 * c + j) 0 = y := ⟨(m.getD (4 * c + j) 0).toNat, by omega⟩
    have hcs : eN m l c (j + 1) = eN m l c j + if (y : Int) / 4 ∈ l then 1 else 0 := by simp only [eN, hyd]
    have htd : (y : Int).tdiv 4 = (y : Int) / 4 := Int.tdiv_eq_ediv_of_nonneg (by omega)
    have hI := fn_rIn l ((y : Int) / 4) (by omega)
    by_cases h2 : (y : Int) / 4 ∈ l
    · rw [if_pos h2] at hcs
      have b3 : l.contains ((y : Int) / 4) = true := by simpa using h2
      rw [b3] at hI
      repeat' (first | omega | ((try refine awC_sound _ _ _ _ ?_); simp only [go_sem, sevalprocAttr, ↓reduceIte, reduceCtorEq, bj, e7, hyd, htd]) | (apply gspDI <;> (intro h_; (try simp only [h_]); revert h_)) | apply gspLI | apply condLI | apply gspI | apply And.intro | with_reducible intro h_ | trivial | (simp only [go_sem, List.length_append]; omega))
      refine ⟨CallB.fn rfl hI ?_⟩
      repeat' (first | omega | ((try refine awC_sound _ _ _ _ ?_); simp only [go_sem, sevalprocAttr, ↓reduceIte, reduceCtorEq, bj]) | (apply gspDI <;> (intro h_; (try simp only [h_]); revert h_)) | apply gspLI | apply condLI | apply gspI | apply And.intro | with_reducible intro h_ | trivial | (simp only [go_sem, List.length_append]; omega))
      refine ⟨_, _, _, ?_, Wk.sub ?_ ?_, j + 1, by omega, rfl, rfl, rfl⟩
      · omega
      · (simp only [go_sem, sevalprocAttr, ↓reduceIte, reduceCtorEq, hcs]) <;> rfl
      · simp only [go_sem, sevalprocAttr, ↓reduceIte, reduceCtorEq]
    · rw [if_neg h2, Nat.add_zero] at hcs
      have b3 : l.contains ((y : Int) / 4) = false := by simpa using h2
      rw [b3] at hI
      repeat' (first | omega | ((try refine awC_sound _ _ _ _ ?_); simp only [go_sem, sevalprocAttr, ↓reduceIte, reduceCtorEq, bj, e7, hyd, htd]) | (apply gspDI <;> (intro h_; (try simp only [h_]); revert h_)) | apply gspLI | apply condLI | apply gspI | apply And.intro | with_reducible intro h_ | trivial | (simp only [go_sem, List.length_append]; omega))
      refine ⟨CallB.fn rfl hI ?_⟩
      repeat' (first | omega | ((try refine awC_sound _ _ _ _ ?_); simp only [go_sem, sevalprocAttr, ↓reduceIte, reduceCtorEq, bj]) | (apply gspDI <;> (intro h_; (try simp only [h_]); revert h_)) | apply gspLI | apply condLI | apply gspI | apply And.intro | with_reducible intro h_ | trivial | (simp only [go_sem, List.length_append]; omega))
      refine ⟨_, _, _, ?_, Wk.sub ?_ ?_, j + 1, by omega, rfl, rfl, rfl⟩
      · omega
      · simp only [go_sem, sevalprocAttr, ↓reduceIte, reduceCtorEq, hcs]
      · simp only [go_sem, sevalprocAttr, ↓reduceIte, reduceCtorEq]
  · obtain rfl : j = 4 := by omega
    have bj : decide (((4 : Nat) : Int) < 4) = false := by decide
    repeat' (first | omega | ((try refine awC_sound _ _ _ _ ?_); simp only [go_sem, sevalprocAttr, ↓reduceIte, reduceCtorEq, bj]) | (apply gspDI <;> (intro h_; (try simp only [h_]); revert h_)) | apply gspLI | apply condLI | apply gspI | apply And.intro | with_reducible intro h_ | trivial | (simp only [go_sem, List.length_append]; omega))
    all_goals exact LeA.refl _
def rwN (m o : List Int) : Nat → Int
  | 0 => 0
  | k + 1 => max (rwN m o k) (rfC m (o.take k) (o.take k))
theorem rfC_rng (m l : List Int) : ∀ r : List Int, 0 ≤ rfC m l r ∧ rfC m l r ≤ 4 * r.length
  | [] => by simp [rfC]
  | c :: r => by
    have h1 := rfC_rng m l r
    have h2 := eN_le m l c.toNat 4
    simp only [rfC, List.length_cons]; omega
theorem rwN_rng (m o : List Int) : ∀ k, 0 ≤ rwN m o k ∧ rwN m o k ≤ 4 * o.length
  | 0 => by simp only [rwN]; omega
  | k + 1 => by
    have h1 := rwN_rng m o k
    have h2 := rfC_rng m (o.take k) (o.take k)
    have h3 : (o.take k).length ≤ o.length := List.length_take_le' ..
    simp only [rwN]; omega
theorem rw_wd {m : List Int} {n : Nat} (hp : mateOk m n) (hi : ∀ x : Nat, x < 4 * n → m.getD (m.getD x 0).toNat 0 = x) {o : List Int} (h : PrmL n o) : ∀ k, k ≤ o.length → rwN m o (k + 1) = wdN m o k
  | 0, _ => by simp [rwN, wdN, rfC]
  | k + 1, hk => by
    have ih := rw_wd hp hi h k (by omega)
    rw [rwN, ih, ← ct_rf hp hi h (k + 1) hk]
    rfl
theorem fn_rWidth (s m : List Int) (L : Int) (o : List Int) (hm : mateOk m s.length) (hs : s.length ≤ 1000) (ho : o.length ≤ 1000) (hr : ∀ x ∈ o, 0 ≤ x ∧ x < s.length) : Fn Tryd.prog 13 [dgA s m L, roI o] (I (rwN m o (o.length + 1))) := by
  have hml := hm.1
  refine Fn.introL [.tmp 4] Tryd.func13 rfl rfl (by decide) (by simp [Tryd.ntmps13]) ?_; rw [Tryd.ntmps13]
  repeat' (first | omega | ((try refine awC_sound _ _ _ _ ?_); simp only [go_sem, sevalprocAttr, ↓reduceIte, reduceCtorEq]) | (apply gspDI <;> (intro h_; (try simp only [h_]); revert h_)) | apply gspLI | apply condLI | apply gspI | apply And.intro | with_reducible intro h_ | trivial | (simp only [go_sem, List.length_append]; omega))
  refine LoopA.intro (fun n' fr H => ∃ k : Nat, k ≤ o.length + 1 ∧ n' = o.length + 1 - k ∧ fr = [(6, I k), (5, I (rwN m o k)), (2, .ptr 0 0), (1, roI o)] ∧ H = [(0, .cells 24 (.lst [roI s, roI m, I L]))]) ?_ ?_
  · refine ⟨_, _, _, Wk.sub ?_ ?_, 0, by omega, rfl, rfl, rfl⟩
    · (simp only [go_sem, sevalprocAttr, ↓reduceIte, reduceCtorEq, rwN]) <;> rfl
    · simp only [go_sem, sevalprocAttr, ↓reduceIte, reduceCtorEq]
  rintro n' fr H ⟨k, hk, rfl, rfl, rfl⟩
  have hrw := rwN_rng m o k
  by_cases hkn : k < o.length + 1
  · have bk : decide ((k : Int) ≤ o.length) = true := by simp; omega
    have hrf := rfC_rng m (o.take k) (o.take k)
    have htl : (o.take k).length = k := by rw [List.length_take]; omega
    rw [htl] at hrf
    repeat' (first | omega | ((try refine awC_sound _ _ _ _ ?_); simp only [go_sem, sevalprocAttr, ↓reduceIte, reduceCtorEq, bk]) | (apply gspDI <;> (intro h_; (try simp only [h_]); revert h_)) | apply gspLI | apply condLI | apply gspI | apply And.intro | with_reducible intro h_ | trivial | (simp only [go_sem, List.length_append]; omega))
    refine LoopA.intro (fun n' fr H => ∃ i : Nat, i ≤ k ∧ n' = k - i ∧ fr = [(8, I i), (7, I (rfC m (o.take k) (o.take i))), (6, I k), (5, I (rwN m o k)), (2, .ptr 0 0), (1, roI o)] ∧ H = [(0, .cells 24 (.lst [roI s, roI m, I L]))]) ?_ ?_
    · refine ⟨_, _, _, Wk.sub ?_ ?_, 0, by omega, rfl, rfl, rfl⟩
      · (simp only [go_sem, sevalprocAttr, ↓reduceIte, reduceCtorEq, rfC, List.take_zero]) <;> rfl
      · simp only [go_sem, sevalprocAttr, ↓reduceIte, reduceCtorEq]
    rintro n' fr H ⟨i, hi, rfl, rfl, rfl⟩
    have hri := rfC_rng m (o.take k) (o.take i)
    have hti : (o.take i).length = i := by rw [List.length_take]; omega
    rw [hti] at hri
    by_cases hik : i < k
    · have bi : decide ((i : Int) < k) = true := by simp; omega
      have hmem : o.getD i 0 ∈ o := by
        rw [List.getD_eq_getElem?_getD, List.getElem?_eq_getElem (show i < o.length by omega)]
        exact List.getElem_mem _
      have hx := hr _ hmem
      obtain ⟨c, hc⟩ : ∃ c : Nat, o.getD i 0 = c := ⟨(o.getD i 0).toNat, by omega⟩
      rw [hc] at hx
      have hE := fn_rEdges s m L c (o.take k) hm hs (by omega) (by omega)
      unfold roI at hE
      rw [htl] at hE
      have her := eN_le m (o.take k) c 4
      have hst := rfC_app m (o.take k) (c : Int) (o.take i)
      rw [← hc, ← take_snocI (show i < o.length by omega), hc, Int.toNat_natCast] at hst
      have e1 : (k : Int).toNat - (0 : Int).toNat = k := by simp
      repeat' (first | omega | ((first | refine awC_sound _ _ _ _ ?_ | (refine DrawA.introE (id := 9) (drRo22) (by decide +kernel) mixed ?_) | (refine DrawA.intro (id := 9) drRo23 drRo24 (by decide +kernel) mixed ?_) | skip); simp only [go_sem, sevalprocAttr, ↓reduceIte, reduceCtorEq, bi, hc, Nat.sub_zero, Int.toNat_natCast, drRo22, drRo23, drRo24]) | (apply gspDI <;> (intro h_; (try simp only [h_]); revert h_)) | apply gspLI | apply condLI | apply gspI | apply And.intro | with_reducible intro h_ | trivial | (simp only [go_sem, List.length_append]; omega))
      all_goals refine ⟨CallB.fn rfl hE ?_⟩
      all_goals (repeat' (first | omega | ((first | refine awC_sound _ _ _ _ ?_ | (refine DrawA.introE (id := 9) (drRo22) (by decide +kernel) mixed ?_) | (refine DrawA.intro (id := 9) drRo23 drRo24 (by decide +kernel) mixed ?_) | skip); simp only [go_sem, sevalprocAttr, ↓reduceIte, reduceCtorEq, bi, hc, Nat.sub_zero, Int.toNat_natCast, drRo22, drRo23, drRo24]) | (apply gspDI <;> (intro h_; (try simp only [h_]); revert h_)) | apply gspLI | apply condLI | apply gspI | apply And.intro | with_reducible intro h_ | trivial | (simp only [go_sem, List.length_append]; omega)))
      all_goals (
        refine ⟨_, _, _, ?_, Wk.sub ?_ ?_, i + 1, by omega, rfl, rfl, rfl⟩
        · omega
        · simp only [go_sem, sevalprocAttr, ↓reduceIte, reduceCtorEq]
          rw [hst]; omega
        · simp only [go_sem, sevalprocAttr, ↓reduceIte, reduceCtorEq])
    · obtain rfl : i = k := by omega
      have bi : decide ((i : Int) < i) = false := by simp
      have hwd : rwN m o (i + 1) = max (rwN m o i) (rfC m (o.take i) (o.take i)) := rfl
      repeat' (first | omega | ((try refine awC_sound _ _ _ _ ?_); simp only [go_sem, sevalprocAttr, ↓reduceIte, reduceCtorEq, bi]) | (apply gspDI <;> (intro h_; (try simp only [h_]); revert h_)) | apply gspLI | apply condLI | apply gspI | apply And.intro | with_reducible intro h_ | trivial | (simp only [go_sem, List.length_append]; omega))
      refine ⟨_, _, _, ?_, Wk.sub ?_ ?_, i + 1, by omega, rfl, rfl, rfl⟩
      · omega
      · simp only [go_sem, sevalprocAttr, ↓reduceIte, reduceCtorEq]
        rw [hwd]; split <;> omega
      · simp only [go_sem, sevalprocAttr, ↓reduceIte, reduceCtorEq]
  · obtain rfl : k = o.length + 1 := by omega
    have bk : decide ((o.length : Int) + 1 ≤ o.length) = false := by simp; omega
    repeat' (first | omega | ((try refine awC_sound _ _ _ _ ?_); simp only [go_sem, sevalprocAttr, ↓reduceIte, reduceCtorEq, bk]) | (apply gspDI <;> (intro h_; (try simp only [h_]); revert h_)) | apply gspLI | apply condLI | apply gspI | apply And.intro | with_reducible intro h_ | trivial | (simp only [go_sem, List.length_append]; omega))
    all_goals exact LeA.refl _
theorem fn_rOrder (s m : List Int) (L : Int) (hm : mateOk m s.length) (hs : s.length ≤ 1000) : Fn Tryd.prog 11 [dgA s m L] (roI (orN m s.length s.length)) := by
  have hml := hm.1
  have hIn : ∀ (o : List Int) (c : Nat), o.length ≤ 1000 → Fn Tryd.prog 30 [roI o, I c] (.bool (o.contains (c : Int))) := fun o c ho => fn_rIn o c (by omega)
  have hI0 : ∀ c : Nat, Fn Tryd.prog 30 [.nils, I c] (.bool false) := fun c => by
    have := fn_rIn [] c (by simp)
    exact Fn.args this (.cons (LeA.nils (by decide) rfl) (.cons (LeA.refl _) .nil))
  refine Fn.introL [.tmp 2] Tryd.func11 rfl rfl (by decide) (by simp [Tryd.ntmps11]) ?_; rw [Tryd.ntmps11]
  repeat' (first | omega | ((try refine awC_sound _ _ _ _ ?_); simp only [go_sem, sevalprocAttr, ↓reduceIte, reduceCtorEq]) | (apply gspDI <;> (intro h_; (try simp only [h_]); revert h_)) | apply gspLI | apply condLI | apply gspI | apply And.intro | with_reducible intro h_ | trivial | (simp only [go_sem, List.length_append]; omega))
  refine LoopA.intro (fun n' fr H => ∃ k : Nat, k ≤ s.length ∧ n' = s.length - k ∧
    ((k = 0 ∧ fr = [(3, .nils), (1, .ptr 0 0)] ∧ H = [(0, .cells 24 (.lst [roI s, roI m, I L]))]) ∨
     (fr = [(3, .sl 1 2 0 k), (1, .ptr 0 0)] ∧ H = [(2, .cells 3 (.ints (orN m s.length k))), (0, .cells 24 (.lst [roI s, roI m, I L]))]))) ?_ ?_
  · refine ⟨_, _, _, Wk.sub ?_ ?_, 0, by omega, rfl, .inl ⟨rfl, rfl, rfl⟩⟩
    · simp only [go_sem, sevalprocAttr, ↓reduceIte, reduceCtorEq]
    · simp only [go_sem, sevalprocAttr, ↓reduceIte, reduceCtorEq]
  rintro n' fr H ⟨k, hk, rfl, hcase⟩
  have hol := orN_len m s.length k
  by_cases hkn : k < s.length
  · have bk : decide ((k : Int) < s.length) = true := by simp; omega
    rcases hcase with ⟨rfl, rfl, rfl⟩ | ⟨rfl, rfl⟩
    · have hE0 : ∀ c : Nat, c < s.length → Fn Tryd.prog 31 [dgA s m L, I c, .nils] (I 0) := fun c hc => by
        have := fn_rEdges s m L c [] hm hs hc (by simp)
        rw [show eN m [] c 4 = 0 by simp [eN]] at this
        exact Fn.args this (.cons (LeA.refl _) (.cons (LeA.refl _) (.cons (LeA.nils (by decide) rfl) .nil)))
      have hbs0 : ∀ c : Nat, bsN m [] (c + 1) = 0 := fun c => by
        induction c with
        | zero => simp [bsN]
        | succ c ih => rw [bsN, if_neg (by simp), if_neg (by rw [ih]; simp [eN]), ih]
      repeat' (first | omega | ((try refine awC_sound _ _ _ _ ?_); simp only [go_sem, sevalprocAttr, ↓reduceIte, reduceCtorEq, bk]) | (apply gspDI <;> (intro h_; (try simp only [h_]); revert h_)) | apply gspLI | apply condLI | apply gspI | apply And.intro | with_reducible intro h_ | trivial | (simp only [go_sem, List.length_append]; omega))
      refine LoopA.intro (fun n' fr H => ∃ c : Nat, c ≤ s.length ∧ n' = s.length - c ∧ fr = [(5, I c), (4, I (bsN m [] c)), (3, .nils), (1, .ptr 0 0)] ∧ H = [(0, .cells 24 (.lst [roI s, roI m, I L]))]) ?_ ?_
      · refine ⟨_, _, _, Wk.sub ?_ ?_, 0, by omega, rfl, rfl, rfl⟩
        · (simp only [go_sem, sevalprocAttr, ↓reduceIte, reduceCtorEq, bsN]) <;> rfl
        · simp only [go_sem, sevalprocAttr, ↓reduceIte, reduceCtorEq]
      rintro n' fr H ⟨c, hc, rfl, rfl, rfl⟩
      by_cases hcn : c < s.length
      · have bc : decide ((c : Int) < s.length) = true := by simp; omega
        have hI := hI0 c
        have hE := hE0 c hcn
        have hE1 := hE0 0 (by omega)
        cases c with
        | zero =>
          repeat' (first | omega | ((first | refine awC_sound _ _ _ _ ?_ | (refine DrawA.intro (id := 8) drRo20 drRo21 (by decide +kernel) mixed ?_) | skip); simp only [go_sem, sevalprocAttr, ↓reduceIte, reduceCtorEq, bc, bsN, drRo20, drRo21]) | (apply gspDI <;> (intro h_; (try simp only [h_]); revert h_)) | apply gspLI | apply condLI | apply gspI | apply And.intro | with_reducible intro h_ | trivial | (simp only [go_sem, List.length_append]; omega))
          refine ⟨CallB.fn rfl hI ?_⟩
          repeat' (first | omega | ((first | refine awC_sound _ _ _ _ ?_ | (refine DrawA.intro (id := 8) drRo20 drRo21 (by decide +kernel) mixed ?_) | skip); simp only [go_sem, sevalprocAttr, ↓reduceIte, reduceCtorEq, bc, bsN, drRo20, drRo21]) | (apply gspDI <;> (intro h_; (try simp only [h_]); revert h_)) | apply gspLI | apply condLI | apply gspI | apply And.intro | with_reducible intro h_ | trivial | (simp only [go_sem, List.length_append]; omega))
          refine ⟨_, _, _, ?_, Wk.sub ?_ ?_, 1, by omega, rfl, rfl, rfl⟩
          · omega
          · (simp only [go_sem, sevalprocAttr, ↓reduceIte, reduceCtorEq, hbs0]) <;> rfl
          · simp only [go_sem, sevalprocAttr, ↓reduceIte, reduceCtorEq]
        | succ c =>
          have hb1 := hbs0 c
          have hb2 := hbs0 (c + 1)
          rw [hb1]
          repeat' (first | omega | ((first | refine awC_sound _ _ _ _ ?_ | (refine DrawA.intro (id := 8) drRo20 drRo21 (by decide +kernel) mixed ?_) | skip); simp only [go_sem, sevalprocAttr, ↓reduceIte, reduceCtorEq, bc, drRo20, drRo21]) | (apply gspDI <;> (intro h_; (try simp only [h_]); revert h_)) | apply gspLI | apply condLI | apply gspI | apply And.intro | with_reducible intro h_ | trivial | (simp only [go_sem, List.length_append]; omega))
          refine ⟨CallB.fn rfl hI ?_⟩
          repeat' (first | omega | ((first | refine awC_sound _ _ _ _ ?_ | (refine DrawA.intro (id := 8) drRo20 drRo21 (by decide +kernel) mixed ?_) | skip); simp only [go_sem, sevalprocAttr, ↓reduceIte, reduceCtorEq, bc, drRo20, drRo21]) | (apply gspDI <;> (intro h_; (try simp only [h_]); revert h_)) | apply gspLI | apply condLI | apply gspI | apply And.intro | with_reducible intro h_ | trivial | (simp only [go_sem, List.length_append]; omega))
          refine ⟨CallA.fn rfl hE ?_⟩
          simp only [go_sem, sevalprocAttr, ↓reduceIte, reduceCtorEq, Int.natCast_add]
          refine ⟨CallA.fn rfl hE1 ?_⟩
          simp only [go_sem, sevalprocAttr, ↓reduceIte, reduceCtorEq, Int.natCast_add]
          repeat' (first | omega | ((try refine awC_sound _ _ _ _ ?_); simp only [go_sem, sevalprocAttr, ↓reduceIte, reduceCtorEq, bc]) | (apply gspDI <;> (intro h_; (try simp only [h_]); revert h_)) | apply gspLI | apply condLI | apply gspI | apply And.intro | with_reducible intro h_ | trivial | (simp only [go_sem, List.length_append]; omega))
          all_goals (
            refine ⟨_, _, _, ?_, Wk.sub ?_ ?_, c + 1 + 1, by omega, rfl, rfl, rfl⟩
            · omega
            · (simp only [go_sem, sevalprocAttr, ↓reduceIte, reduceCtorEq, hb2]) <;> rfl
            · simp only [go_sem, sevalprocAttr, ↓reduceIte, reduceCtorEq])
      · obtain rfl : c = s.length := by omega
        have bc : decide ((s.length : Int) < s.length) = false := by simp
        obtain ⟨n1, hn1⟩ : ∃ n1, s.length = n1 + 1 := ⟨s.length - 1, by omega⟩
        have hb1 : bsN m [] s.length = 0 := by rw [hn1]; exact hbs0 n1
        have ho1 : orN m s.length 1 = [0] := by simp only [orN, hb1, List.nil_append]
        rw [hb1]
        repeat' (first | omega | ((first | refine awC_sound _ _ _ _ ?_ | (refine DrawA.intro (id := 8) drRo20 drRo21 (by decide +kernel) mixed ?_) | skip); simp only [go_sem, sevalprocAttr, ↓reduceIte, reduceCtorEq, bc, drRo20, drRo21]) | (apply gspDI <;> (intro h_; (try simp only [h_]); revert h_)) | apply gspLI | apply condLI | apply gspI | apply And.intro | with_reducible intro h_ | trivial | (simp only [go_sem, List.length_append]; omega))
        refine ⟨_, _, _, ?_, Wk.sub ?_ ?_, 1, by omega, rfl, .inr ⟨rfl, rfl⟩⟩
        · omega
        · simp only [go_sem, sevalprocAttr, ↓reduceIte, reduceCtorEq]
        · simp only [go_sem, sevalprocAttr, ↓reduceIte, reduceCtorEq, ho1]
    · obtain ⟨o, hod⟩ : ∃ o, orN m s.length k = o := ⟨_, rfl⟩
      have hb0 := bs_nonneg m s.length k hkn
      have hbr := bsN_rng m (orN m s.length k) s.length
      have ho1 : orN m s.length (k + 1) = o ++ [bsN m o s.length] := by simp only [orN, hod]
      rw [hod] at hb0 hbr hol ⊢
      have htk : o.take k = o := List.take_of_length_le (by omega)
      have hE : ∀ c : Nat, c < s.length → Fn Tryd.prog 31 [dgA s m L, I c, .ro 1 k (.ints o)] (I (eN m o c 4)) := fun c hc => by
        have := fn_rEdges s m L c o hm hs hc (by omega)
        rw [← hol]; exact this
      have hI : ∀ c : Nat, Fn Tryd.prog 30 [.ro 1 k (.ints o), I c] (.bool (o.contains (c : Int))) := fun c => by
        have := hIn o c (by omega)
        rw [← hol]; exact this
      repeat' (first | omega | ((try refine awC_sound _ _ _ _ ?_); simp only [go_sem, sevalprocAttr, ↓reduceIte, reduceCtorEq, bk]) | (apply gspDI <;> (intro h_; (try simp only [h_]); revert h_)) | apply gspLI | apply condLI | apply gspI | apply And.intro | with_reducible intro h_ | trivial | (simp only [go_sem, List.length_append]; omega))
      refine LoopA.intro (fun n' fr H => ∃ c : Nat, c ≤ s.length ∧ n' = s.length - c ∧ fr = [(5, I c), (4, I (bsN m o c)), (3, .sl 1 2 0 k), (1, .ptr 0 0)] ∧ H = [(2, .cells 3 (.ints o)), (0, .cells 24 (.lst [roI s, roI m, I L]))]) ?_ ?_
      · refine ⟨_, _, _, Wk.sub ?_ ?_, 0, by omega, rfl, rfl, rfl⟩
        · (simp only [go_sem, sevalprocAttr, ↓reduceIte, reduceCtorEq, bsN]) <;> rfl
        · simp only [go_sem, sevalprocAttr, ↓reduceIte, reduceCtorEq]
      rintro n' fr H ⟨c, hc, rfl, rfl, rfl⟩
      by_cases hcn : c < s.length
      · have bc : decide ((c : Int) < s.length) = true := by simp; omega
        have hIc := hI c
        have hEc := hE c hcn
        by_cases h1 : (c : Int) ∈ o
        · have b2 : o.contains (c : Int) = true := by simpa using h1
          have hbs : bsN m o (c + 1) = bsN m o c := by simp only [bsN]; rw [if_pos h1]
          rw [b2] at hIc
          repeat' (first | omega | ((first | refine awC_sound _ _ _ _ ?_ | (refine DrawA.intro (id := 8) drRo20 drRo21 (by decide +kernel) mixed ?_) | skip); simp only [go_sem, sevalprocAttr, ↓reduceIte, reduceCtorEq, bc, drRo20, drRo21]) | (apply gspDI <;> (intro h_; (try simp only [h_]); revert h_)) | apply gspLI | apply condLI | apply gspI | apply And.intro | with_reducible intro h_ | trivial | (simp only [go_sem, List.length_append]; omega))
          refine ⟨CallB.flat rfl ?_ ?_ hIc rfl ?_⟩
          · simp only [go_sem, sevalprocAttr, ↓reduceIte, reduceCtorEq, hol, Nat.le_refl]
          · simp only [go_sem, sevalprocAttr, ↓reduceIte, reduceCtorEq, hol, htk]
          repeat' (first | omega | ((first | refine awC_sound _ _ _ _ ?_ | (refine DrawA.intro (id := 8) drRo20 drRo21 (by decide +kernel) mixed ?_) | skip); simp only [go_sem, sevalprocAttr, ↓reduceIte, reduceCtorEq, bc, drRo20, drRo21]) | (apply gspDI <;> (intro h_; (try simp only [h_]); revert h_)) | apply gspLI | apply condLI | apply gspI | apply And.intro | with_reducible intro h_ | trivial | (simp only [go_sem, List.length_append]; omega))
          refine ⟨_, _, _, ?_, Wk.sub ?_ ?_, c + 1, by omega, rfl, rfl, rfl⟩
          · omega
          · simp only [go_sem, sevalprocAttr, ↓reduceIte, reduceCtorEq, hbs]
          · simp only [go_sem, sevalprocAttr, ↓reduceIte, reduceCtorEq]
        · have b2 : o.contains (c : Int) = false := by simpa using h1
          have hbs : bsN m o (c + 1) = if bsN m o c < 0 ∨ eN m o (bsN m o c).toNat 4 < eN m o c 4 then (c : Int) else bsN m o c := by simp only [bsN]; rw [if_neg h1]
          rw [b2] at hIc
          by_cases h3 : bsN m o c < 0
          · rw [if_pos (.inl h3)] at hbs
            have b3 : decide (bsN m o c < 0) = true := by simpa using h3
            repeat' (first | omega | ((first | refine awC_sound _ _ _ _ ?_ | (refine DrawA.intro (id := 8) drRo20 drRo21 (by decide +kernel) mixed ?_) | skip); simp only [go_sem, sevalprocAttr, ↓reduceIte, reduceCtorEq, bc, drRo20, drRo21]) | (apply gspDI <;> (intro h_; (try simp only [h_]); revert h_)) | apply gspLI | apply condLI | apply gspI | apply And.intro | with_reducible intro h_ | trivial | (simp only [go_sem, List.length_append]; omega))
            refine ⟨CallB.flat rfl ?_ ?_ hIc rfl ?_⟩
            · simp only [go_sem, sevalprocAttr, ↓reduceIte, reduceCtorEq, hol, Nat.le_refl]
            · simp only [go_sem, sevalprocAttr, ↓reduceIte, reduceCtorEq, hol, htk]
            repeat' (first | omega | ((first | refine awC_sound _ _ _ _ ?_ | (refine DrawA.intro (id := 8) drRo20 drRo21 (by decide +kernel) mixed ?_) | skip); simp only [go_sem, sevalprocAttr, ↓reduceIte, reduceCtorEq, bc, b3, drRo20, drRo21]) | (apply gspDI <;> (intro h_; (try simp only [h_]); revert h_)) | apply gspLI | apply condLI | apply gspI | apply And.intro | with_reducible intro h_ | trivial | (simp only [go_sem, List.length_append]; omega))
            refine ⟨_, _, _, ?_, Wk.sub ?_ ?_, c + 1, by omega, rfl, rfl, rfl⟩
            · omega
            · simp only [go_sem, sevalprocAttr, ↓reduceIte, reduceCtorEq, hbs]
            · simp only [go_sem, sevalprocAttr, ↓reduceIte, reduceCtorEq]
          · have b3 : decide (bsN m o c < 0) = false := by simpa using h3
            obtain ⟨b, hb⟩ : ∃ b : Nat, bsN m o c = b := ⟨(bsN m o c).toNat, by omega⟩
            have hbl := bsN_rng m o c
            have hEb := hE b (by omega)
            rw [hb, Int.toNat_natCast] at hbs
            rw [hb] at b3 ⊢
            have her := eN_le m o c 4
            by_cases h4 : eN m o b 4 < eN m o c 4
            · rw [if_pos (.inr h4)] at hbs
              have b4 : decide ((eN m o b 4 : Int) < (eN m o c 4 : Int)) = true := by simp; omega
              repeat' (first | omega | ((first | refine awC_sound _ _ _ _ ?_ | (refine DrawA.intro (id := 8) drRo20 drRo21 (by decide +kernel) mixed ?_) | skip); simp only [go_sem, sevalprocAttr, ↓reduceIte, reduceCtorEq, bc, drRo20, drRo21]) | (apply gspDI <;> (intro h_; (try simp only [h_]); revert h_)) | apply gspLI | apply condLI | apply gspI | apply And.intro | with_reducible intro h_ | trivial | (simp only [go_sem, List.length_append]; omega))
              refine ⟨CallB.flat rfl ?_ ?_ hIc rfl ?_⟩
              · simp only [go_sem, sevalprocAttr, ↓reduceIte, reduceCtorEq, hol, Nat.le_refl]
              · simp only [go_sem, sevalprocAttr, ↓reduceIte, reduceCtorEq, hol, htk]
              repeat' (first | omega | ((first | refine awC_sound _ _ _ _ ?_ | (refine DrawA.intro (id := 8) drRo20 drRo21 (by decide +kernel) mixed ?_) | skip); simp only [go_sem, sevalprocAttr, ↓reduceIte, reduceCtorEq, bc, b3, drRo20, drRo21]) | (apply gspDI <;> (intro h_; (try simp only [h_]); revert h_)) | apply gspLI | apply condLI | apply gspI | apply And.intro | with_reducible intro h_ | trivial | (simp only [go_sem, List.length_append]; omega))
              refine ⟨CallA.flat rfl ?_ ?_ hEc rfl ?_⟩
              · simp only [go_sem, sevalprocAttr, ↓reduceIte, reduceCtorEq, hol, Nat.le_refl]
              · simp only [go_sem, sevalprocAttr, ↓reduceIte, reduceCtorEq, hol, htk]
              simp only [go_sem, sevalprocAttr, ↓reduceIte, reduceCtorEq, b3]
              refine ⟨CallA.flat rfl ?_ ?_ hEb rfl ?_⟩
              · simp only [go_sem, sevalprocAttr, ↓reduceIte, reduceCtorEq, hol, Nat.le_refl]
              · simp only [go_sem, sevalprocAttr, ↓reduceIte, reduceCtorEq, hol, htk]
              simp only [go_sem, sevalprocAttr, ↓reduceIte, reduceCtorEq, b3, b4]
              repeat' (first | omega | ((try refine awC_sound _ _ _ _ ?_); simp only [go_sem, sevalprocAttr, ↓reduceIte, reduceCtorEq, b3, b4]) | (apply gspDI <;> (intro h_; (try simp only [h_]); revert h_)) | apply gspLI | apply condLI | apply gspI | apply And.intro | with_reducible intro h_ | trivial | (simp only [go_sem, List.length_append]; omega))
              all_goals (
                refine ⟨_, _, _, ?_, Wk.sub ?_ ?_, c + 1, by omega, rfl, rfl, rfl⟩
                · omega
                · simp only [go_sem, sevalprocAttr, ↓reduceIte, reduceCtorEq, hbs]
                · simp only [go_sem, sevalprocAttr, ↓reduceIte, reduceCtorEq])
            · rw [if_neg (by rintro (g | g); omega; exact h4 g)] at hbs
              have b4 : decide ((eN m o b 4 : Int) < (eN m o c 4 : Int)) = false := by simp; omega
              repeat' (first | omega | ((first | refine awC_sound _ _ _ _ ?_ | (refine DrawA.intro (id := 8) drRo20 drRo21 (by decide +kernel) mixed ?_) | skip); simp only [go_sem, sevalprocAttr, ↓reduceIte, reduceCtorEq, bc, drRo20, drRo21]) | (apply gspDI <;> (intro h_; (try simp only [h_]); revert h_)) | apply gspLI | apply condLI | apply gspI | apply And.intro | with_reducible intro h_ | trivial | (simp only [go_sem, List.length_append]; omega))
              refine ⟨CallB.flat rfl ?_ ?_ hIc rfl ?_⟩
              · simp only [go_sem, sevalprocAttr, ↓reduceIte, reduceCtorEq, hol, Nat.le_refl]
              · simp only [go_sem, sevalprocAttr, ↓reduceIte, reduceCtorEq, hol, htk]
              repeat' (first | omega | ((first | refine awC_sound _ _ _ _ ?_ | (refine DrawA.intro (id := 8) drRo20 drRo21 (by decide +kernel) mixed ?_) | skip); simp only [go_sem, sevalprocAttr, ↓reduceIte, reduceCtorEq, bc, b3, drRo20, drRo21]) | (apply gspDI <;> (intro h_; (try simp only [h_]); revert h_)) | apply gspLI | apply condLI | apply gspI | apply And.intro | with_reducible intro h_ | trivial | (simp only [go_sem, List.length_append]; omega))
              refine ⟨CallA.flat rfl ?_ ?_ hEc rfl ?_⟩
              · simp only [go_sem, sevalprocAttr, ↓reduceIte, reduceCtorEq, hol, Nat.le_refl]
              · simp only [go_sem, sevalprocAttr, ↓reduceIte, reduceCtorEq, hol, htk]
              simp only [go_sem, sevalprocAttr, ↓reduceIte, reduceCtorEq, b3]
              refine ⟨CallA.flat rfl ?_ ?_ hEb rfl ?_⟩
              · simp only [go_sem, sevalprocAttr, ↓reduceIte, reduceCtorEq, hol, Nat.le_refl]
              · simp only [go_sem, sevalprocAttr, ↓reduceIte, reduceCtorEq, hol, htk]
              simp only [go_sem, sevalprocAttr, ↓reduceIte, reduceCtorEq, b3, b4]
              repeat' (first | omega | ((try refine awC_sound _ _ _ _ ?_); simp only [go_sem, sevalprocAttr, ↓reduceIte, reduceCtorEq, b3, b4]) | (apply gspDI <;> (intro h_; (try simp only [h_]); revert h_)) | apply gspLI | apply condLI | apply gspI | apply And.intro | with_reducible intro h_ | trivial | (simp only [go_sem, List.length_append]; omega))
              all_goals (
                refine ⟨_, _, _, ?_, Wk.sub ?_ ?_, c + 1, by omega, rfl, rfl, rfl⟩
                · omega
                · simp only [go_sem, sevalprocAttr, ↓reduceIte, reduceCtorEq, hbs, hb]
                · simp only [go_sem, sevalprocAttr, ↓reduceIte, reduceCtorEq])
      · obtain rfl : c = s.length := by omega
        have bc : decide ((s.length : Int) < s.length) = false := by simp
        repeat' (first | omega | ((first | refine awC_sound _ _ _ _ ?_ | (refine DrawA.intro (id := 8) drRo20 drRo21 (by decide +kernel) mixed ?_) | skip); simp only [go_sem, sevalprocAttr, ↓reduceIte, reduceCtorEq, bc, hol, drRo20, drRo21]) | (apply gspDI <;> (intro h_; (try simp only [h_]); revert h_)) | apply gspLI | apply condLI | apply gspI | apply And.intro | with_reducible intro h_ | trivial | (simp only [go_sem, List.length_append]; omega))
        refine ⟨_, _, _, ?_, Wk.sub ?_ ?_, k + 1, by omega, rfl, .inr ⟨rfl, rfl⟩⟩
        · omega
        · simp only [go_sem, sevalprocAttr, ↓reduceIte, reduceCtorEq, hol]
        · simp only [go_sem, sevalprocAttr, ↓reduceIte, reduceCtorEq, ho1]
  · obtain rfl : k = s.length := by omega
    have bk : decide ((s.length : Int) < s.length) = false := by simp
    rcases hcase with ⟨h0, rfl, rfl⟩ | ⟨rfl, rfl⟩
    · rw [h0] at bk ⊢
      repeat' (first | omega | ((try refine awC_sound _ _ _ _ ?_); simp only [go_sem, sevalprocAttr, ↓reduceIte, reduceCtorEq, bk, h0]) | (apply gspDI <;> (intro h_; (try simp only [h_]); revert h_)) | apply gspLI | apply condLI | apply gspI | apply And.intro | with_reducible intro h_ | trivial | (simp only [go_sem, List.length_append]; omega))
      all_goals exact LeA.nils (by decide) rfl
    · repeat' (first | omega | ((try refine awC_sound _ _ _ _ ?_); simp only [go_sem, sevalprocAttr, ↓reduceIte, reduceCtorEq, bk]) | (apply gspDI <;> (intro h_; (try simp only [h_]); revert h_)) | apply gspLI | apply condLI | apply gspI | apply And.intro | with_reducible intro h_ | trivial | (simp only [go_sem, List.length_append]; omega))
      all_goals (rw [List.take_of_length_le (by omega), hol]; exact LeA.refl _)
end Go.Proofs.YtebdkebfkpbmpaaDoor
