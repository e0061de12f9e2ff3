/- Layer 17: the bracket along an order is the bracket, at most 9 crossings and 20 loops. -/
import Derived.Test.YtebdkebfkpbmpaaDoorSx3
import Derived.Test.YtebdkebfkpbmpaaDoorTo2
import Derived.Test.YtebdkebfkpbmpaaDoorXn
namespace Go.Proofs.YtebdkebfkpbmpaaDoor
open Go Go.RowKit
set_option maxRecDepth 100000
set_option maxHeartbeats 8000000
set_option linter.unusedVariables false
set_option linter.unusedSimpArgs false
def drTb10 : Tr := .node [(0, .node [(1, .node [(2, .node [(3, .node [(4, .node [(5, .node [(6, .done)])])]), (4, .node [(3, .node [(5, .node [(6, .done)])]), (5, .node [(3, .node [(6, .done)])])])]), (4, .node [(2, .node [(3, .node [(5, .node [(6, .done)])]), (5, .node [(3, .node [(6, .done)])])]), (5, .node [(2, .node [(3, .node [(6, .done)])])])])]), (2, .node [(1, .node [(3, .node [(4, .node [(5, .node [(6, .done)])])]), (4, .node [(3, .node [(5, .node [(6, .done)])]), (5, .node [(3, .node [(6, .done)])])])]), (3, .node [(1, .node [(4, .node [(5, .node [(6, .done)])])]), (4, .node [(1, .node [(5, .node [(6, .done)])])])]), (4, .node [(1, .node [(3, .node [(5, .node [(6, .done)])]), (5, .node [(3, .node [(6, .done)])])]), (3, .node [(1, .node [(5, .node [(6, .done)])])])])]), (4, .node [(1, .node [(2, .node [(3, .node [(5, .node [(6, .done)])]), (5, .node [(3, .node [(6, .done)])])]), (5, .node [(2, .node [(3, .node [(6, .done)])])])]), (2, .node [(1, .node [(3, .node [(5, .node [(6, .done)])]), (5, .node [(3, .node [(6, .done)])])]), (3, .node [(1, .node [(5, .node [(6, .done)])])])])])]), (2, .node [(0, .node [(1, .node [(3, .node [(4, .node [(5, .node [(6, .done)])])]), (4, .node [(3, .node [(5, .node [(6, .done)])]), (5, .node [(3, .node [(6, .done)])])])]), (3, .node [(1, .node [(4, .node [(5, .node [(6, .done)])])]), (4, .node [(1, .node [(5, .node [(6, .done)])])])]), (4, .node [(1, .node [(3, .node [(5, .node [(6, .done)])]), (5, .node [(3, .node [(6, .done)])])]), (3, .node [(1, .node [(5, .node [(6, .done)])])])])]), (3, .node [(0, .node [(1, .node [(4, .node [(5, .node [(6, .done)])])]), (4, .node [(1, .node [(5, .node [(6, .done)])])])]), (4, .node [(0, .node [(1, .node [(5, .node [(6, .done)])])])])]), (4, .node [(0, .node [(1, .node [(3, .node [(5, .node [(6, .done)])]), (5, .node [(3, .node [(6, .done)])])]), (3, .node [(1, .node [(5, .node [(6, .done)])])])]), (3, .node [(0, .node [(1, .node [(5, .node [(6, .done)])])])])])]), (4, .node [(0, .node [(1, .node [(2, .node [(3, .node [(5, .node [(6, .done)])]), (5, .node [(3, .node [(6, .done)])])]), (5, .node [(2, .node [(3, .node [(6, .done)])])])]), (2, .node [(1, .node [(3, .node [(5, .node [(6, .done)])]), (5, .node [(3, .node [(6, .done)])])]), (3, .node [(1, .node [(5, .node [(6, .done)])])])])]), (2, .node [(0, .node [(1, .node [(3, .node [(5, .node [(6, .done)])]), (5, .node [(3, .node [(6, .done)])])]), (3, .node [(1, .node [(5, .node [(6, .done)])])])]), (3, .node [(0, .node [(1, .node [(5, .node [(6, .done)])])])])])])]
def drTb11 : Tr := .node [(0, .node [(1, .node [(2, .node [(3, .node [(4, .done)])])])]), (1, .node [(0, .node [(2, .node [(3, .node [(4, .done)])])]), (2, .node [(0, .node [(3, .node [(4, .done)])])])])]
theorem fn_BigT (p : List (Int × Int)) : Fn Tryd.prog 34 [plA false p] (.bool false) := by
  refine Fn.intro [.tmp 2] Tryd.func34 rfl rfl (by decide) (by simp [Tryd.ntmps34]) ?_; rw [Tryd.ntmps34]
  repeat' (first | omega | ((try refine awC_sound _ _ _ _ ?_); simp only [go_sem, sevalprocAttr, ↓reduceIte, reduceCtorEq]) | (apply gspDI <;> (intro h_; (try simp only [h_]); revert h_)) | apply gspLI | apply condLI | apply gspI | apply And.intro | with_reducible intro h_ | trivial | (simp only [go_sem, List.length_append]; omega))
theorem fn_OfT : Fn Tryd.prog 32 [I (-2), .ro 1 5 (.ints [-1, 0, 0, 0, -1])] (plA false [(-2, -1), (2, -1)]) := by
  have h := fn_Of (-2) [-1, 0, 0, 0, -1] (by decide) (by decide) (by decide)
  rw [show tmI (-2) [-1, 0, 0, 0, -1] = [(-2, -1), (2, -1)] by decide] at h
  exact h
theorem fn_Of1 : Fn Tryd.prog 32 [I 0, .ro 1 1 (.ints [1])] (plA false [(0, 1)]) := by
  have h := fn_Of 0 [1] (by decide) (by decide) (by decide)
  rw [show tmI 0 [1] = [(0, 1)] by decide] at h
  exact h
theorem one_ok : PolyB [(0, 1)] (dpw 0) := ⟨⟨by decide, by decide⟩, fun e => by
  simp only [cfL, dpw, Int.add_zero]
  by_cases h : e = 0
  · rw [if_pos h.symm, if_pos h]
  · rw [if_neg (fun g => h g.symm), if_neg h]⟩
theorem fac_ok {q : List (Int × Int)} {j : Nat} (hj : j ≤ 20) (h : PolyB q (dpw j)) : ∃ r, PolyB r (dpw (j + 1)) ∧ Fn Tryd.prog 17 [plA false q, plA false [(-2, -1), (2, -1)]] (plA false r) := by
  have hl := dpw_list h
  exact mul_ok h (fun e he => dpw_sup (by omega) he) (fun e => by have := dpw_bnd hj e; omega) fun _ => by omega
theorem last_ok {m : List Int} {n : Nat} (hp : PmOk m n) (hn : n ≤ 9) (hn0 : 0 < n) {L : Nat} (hL : L ≤ 20) {q : List (Int × Int)} (hq : PolyB q (dpw L)) :
    Fn Tryd.prog 17 [plA false (listOf (brT m n 0 1)), plA false q] (plA false (brP m n L)) := by
  have hpp : PolyB (listOf (brT m n 0 1)) (brT m n 0 1) := listOf_ok fun e he => brT_sup hp hn (by omega) (Nat.le_refl _) he
  have hlast : ∀ {r : List (Int × Int)}, PolyB r (brT m n L 1) → r = brP m n L := fun h => h.eq fun e he => brT_sup hp hn hL (Nat.le_refl _) he
  have hl := dpw_list hq
  by_cases hp0 : 0 < (listOf (brT m n 0 1)).length
  · obtain ⟨r, h1, h2⟩ := mulG_ok hpp hq (fun e he => brT_sup hp hn (by omega) (Nat.le_refl _) he) (fun e he => dpw_sup (by omega) he) (fun e => by have := brT_bnd hp hn (L := 0) (by omega) (Nat.le_refl _) e; omega) (fun e => by have := dpw_bnd hL e; omega) (h := brT m n L 1) (fun e => by
      rw [cvL_dpw, brT_pow hp hn0 L e]
      exact dmn_congr hpp.cf L e) (fun e => by have := brT_bnd hp hn hL (Nat.le_refl _) e; omega) hp0 (by omega) (by
      have a := asc_rng hpp.asc hpp.cf (fun e he => brT_supp hp he)
      have a0 := a _ (getD_in (i := 0) hp0)
      have a1 := a _ (getD_in (i := (listOf (brT m n 0 1)).length - 1) (by omega))
      have h2 := cirS_two hp
      have e1 : lowE (listOf (brT m n 0 1)) = ((listOf (brT m n 0 1)).getD 0 (0, 0)).1 := rfl
      have e2 : highE (listOf (brT m n 0 1)) = ((listOf (brT m n 0 1)).getD ((listOf (brT m n 0 1)).length - 1) (0, 0)).1 := rfl
      rw [← e1] at a0
      rw [← e2] at a1
      generalize (listOf (brT m n 0 1)).length = x at *
      have : 4 * (1 : Int) * (L + 1) ≤ 4 * (x : Int) * q.length := Int.mul_le_mul (by omega) (by omega) (by omega) (by omega)
      omega)
    rw [hlast h1] at h2
    exact h2
  · have h0 : listOf (brT m n 0 1) = [] := List.length_eq_zero_iff.1 (by omega)
    have hz : ∀ e, brT m n 0 1 e = 0 := fun e => by rw [← hpp.cf, h0]; rfl
    have : brP m n L = [] := (hlast (PolyB.nil.congr fun e => by rw [brT_pow hp hn0 L e, dmn_congr hz L e, dmn_zero])).symm
    rw [h0, this]
    exact fn_Mul0 q
theorem one_last {L : Nat} (hL : L ≤ 20) {q : List (Int × Int)} (hq : PolyB q (dpw L)) : Fn Tryd.prog 17 [plA false [(0, 1)], plA false q] (plA false (brP [] 0 (L + 1))) := by
  have hl := dpw_list hq
  obtain ⟨r, h1, h2⟩ := mulG_ok one_ok hq (fun e he => dpw_sup (by omega) he) (fun e he => dpw_sup (by omega) he) (fun e => by have := dpw_bnd (j := 0) (by omega) e; omega) (fun e => by have := dpw_bnd hL e; omega) (h := dpw L) (fun e => by
    rw [cvL_dpw]
    have : ∀ e, cfL [(0, 1)] e = dpw 0 e := one_ok.cf
    rw [dmn_congr this L e]
    exact (dmn_congr (fun x => rfl) L e).trans (dmn_dp1 L e)) (fun e => by have := dpw_bnd hL e; omega) (by decide) (by omega) (by
    have e1 : highE [((0 : Int), (1 : Int))] = 0 := rfl
    have e2 : lowE [((0 : Int), (1 : Int))] = 0 := rfl
    rw [e1, e2, show ([((0 : Int), (1 : Int))] : List (Int × Int)).length = 1 from rfl]
    omega)
  have : r = brP [] 0 (L + 1) := by
    unfold brP
    rw [h1.eq (fun e he => dpw_sup (by omega) he)]
    congr 1
    funext e
    exact (brT_none L e).symm
  rw [this] at h2
  exact h2
theorem fn_TrBracket (s m : List Int) (L : Nat) (o : List Int) (hs : s.length ≤ 9) (hL : L ≤ 20) (hv : validB s m L = true) (hpb : permB o s.length = true) (hne : ¬ (s.length = 0 ∧ L = 0)) : Fn Tryd.prog 14 [dgA s m L, roI o] (.tup [plA false (brP m s.length L), I 0]) := by
  obtain ⟨hprm, hol⟩ := permB_prm hpb
  have hW := fn_Width s m L o (by omega) (by omega)
  have hp := (valid1 hv).prd
  have hpm := pmOk hv
  have hwd := wd_le hp.ok hp.inv hprm hol o.length (by omega)
  unfold widA at hW
  rw [if_pos hv, if_pos hpb] at hW
  generalize wdN m o o.length = wd at *
  have bw : decide (20 < wd) = false := by rw [decide_eq_false_iff_not]; omega
  have bL : decide (20 < (L : Int)) = false := by rw [decide_eq_false_iff_not]; omega
  have hbig := fn_BigT (brP m s.length L)
  have h1 := fn_Of1
  have hd := fn_OfT
  by_cases hn0 : s.length = 0
  · have b0 : ((s.length : Int) == 0) = true := by simpa using hn0
    have bl0 : ((L : Int) == 0) = false := by simp; omega
    refine Fn.introL [.cell 4 37, .tmp 5] Tryd.func14 rfl rfl (by decide) (by simp [Tryd.ntmps14]) ?_; rw [Tryd.ntmps14]
    repeat' (first | omega | ((try refine awC_sound _ _ _ _ ?_); simp only [go_sem, sevalprocAttr, ↓reduceIte, reduceCtorEq]) | (apply gspDI <;> (intro h_; (try simp only [h_]); revert h_)) | apply gspLI | apply condLI | apply gspI | apply And.intro | with_reducible intro h_ | trivial | (simp only [go_sem, List.length_append]; omega))
    refine ⟨CallB.fn rfl hW ?_⟩
    repeat' (first | omega | ((try refine awC_sound _ _ _ _ ?_); simp only [go_sem, sevalprocAttr, ↓reduceIte, reduceCtorEq, b0, bl0, bw, bL]) | (apply gspDI <;> (intro h_; (try simp only [h_]); revert h_)) | apply gspLI | apply condLI | apply gspI | apply And.intro | with_reducible intro h_ | trivial | (simp only [go_sem, List.length_append]; omega))
    refine DrawA.cut [(9, I L), (8, .ptr 3 0), (4, .ptr 1 0), (2, .ptr 0 0), (1, roI o)] [(3, .cells 37 (.lst [.bool false, tmA [(0, 1)]])), (1, .cells 37 (.lst [.bool false, .nils])), (0, .cells 24 (.lst [roI s, roI m, I L]))] ?_ ?_
    · repeat' (first | omega | ((first | refine awC_sound _ _ _ _ ?_ | (refine DrawA.introE (id := 8) (drTb10) (by decide +kernel) mixed ?_) | (refine DrawA.intro (id := 8) [[43,44,8],[43,44,8],[41,42,8],[41,42,8],[41,42,43,44],[43,44],[]] [[],[],[0,1],[0,1],[0,1,2,3],[2,3],[]] (by decide +kernel) mixed ?_) | (refine DrawA.introE (id := 18) (drTb11) (by decide +kernel) mixed ?_) | (refine DrawA.intro (id := 18) [[67,68],[66],[66],[],[]] [[],[0],[0],[],[]] (by decide +kernel) mixed ?_) | (refine DrawA.introT (id := 18) (drTb11) (by decide +kernel) mixed ?_) | skip); simp only [go_sem, sevalprocAttr, ↓reduceIte, reduceCtorEq, b0, bl0, bw, bL, drTb10, drTb11]) | (apply gspDI <;> (intro h_; (try simp only [h_]); revert h_)) | apply gspLI | apply condLI | apply gspI | apply And.intro | with_reducible intro h_ | trivial | (simp only [go_sem, List.length_append]; omega))
      all_goals first
        | (refine ⟨CallB.frz (ys := [I 0, .ro 1 1 (.ints [1])]) [2] rfl ?_ ?_ ?_ ?_ rfl rfl rfl (CallB.fn rfl h1 ?_)⟩
           · simp only [go_sem, sevalprocAttr, ↓reduceIte, reduceCtorEq, Nat.le_refl]
           · simp only [go_sem, sevalprocAttr, ↓reduceIte, reduceCtorEq, Nat.le_refl]
           · simp only [go_sem, sevalprocAttr, ↓reduceIte, reduceCtorEq, Nat.le_refl]
           · simp only [go_sem, sevalprocAttr, ↓reduceIte, reduceCtorEq, Nat.le_refl])
        | (refine ⟨CallB.frz (ys := [I 0, .ro 1 1 (.ints [1])]) [3] rfl ?_ ?_ ?_ ?_ rfl rfl rfl (CallB.fn rfl h1 ?_)⟩
           · simp only [go_sem, sevalprocAttr, ↓reduceIte, reduceCtorEq, Nat.le_refl]
           · simp only [go_sem, sevalprocAttr, ↓reduceIte, reduceCtorEq, Nat.le_refl]
           · simp only [go_sem, sevalprocAttr, ↓reduceIte, reduceCtorEq, Nat.le_refl]
           · simp only [go_sem, sevalprocAttr, ↓reduceIte, reduceCtorEq, Nat.le_refl])
      all_goals (repeat' (first | omega | ((first | refine awC_sound _ _ _ _ ?_ | (refine DrawA.introE (id := 8) (drTb10) (by decide +kernel) mixed ?_) | (refine DrawA.intro (id := 8) [[43,44,8],[43,44,8],[41,42,8],[41,42,8],[41,42,43,44],[43,44],[]] [[],[],[0,1],[0,1],[0,1,2,3],[2,3],[]] (by decide +kernel) mixed ?_) | (refine DrawA.introE (id := 18) (drTb11) (by decide +kernel) mixed ?_) | (refine DrawA.intro (id := 18) [[67,68],[66],[66],[],[]] [[],[0],[0],[],[]] (by decide +kernel) mixed ?_) | (refine DrawA.introT (id := 18) (drTb11) (by decide +kernel) mixed ?_) | skip); simp only [go_sem, sevalprocAttr, ↓reduceIte, reduceCtorEq, b0, bl0, bw, bL, drTb10, drTb11]) | (apply gspDI <;> (intro h_; (try simp only [h_]); revert h_)) | apply gspLI | apply condLI | apply gspI | apply And.intro | with_reducible intro h_ | trivial | (simp only [go_sem, List.length_append]; omega)))
      all_goals first
        | (refine Wk.sub ?_ ?_
           · simp only [go_sem, sevalprocAttr, ↓reduceIte, reduceCtorEq]
           · simp only [go_sem, sevalprocAttr, ↓reduceIte, reduceCtorEq, tmC_s3])
        | (refine Wk.subS (fr1 := [(9, I L), (8, .ptr 2 0), (4, .ptr 1 0), (2, .ptr 0 0), (1, roI o)]) (H1 := [(2, .cells 37 (.lst [.bool false, tmA [(0, 1)]])), (1, .cells 37 (.lst [.bool false, .nils])), (0, .cells 24 (.lst [roI s, roI m, I L]))]) 2 3 rfl rfl rfl rfl ?_ ?_
           · simp only [go_sem, sevalprocAttr, ↓reduceIte, reduceCtorEq]
           · simp only [go_sem, sevalprocAttr, ↓reduceIte, reduceCtorEq, tmC_s3])
    obtain rfl : s = [] := List.length_eq_zero_iff.1 hn0
    obtain rfl : m = [] := List.length_eq_zero_iff.1 (by have := hp.ok.1; simpa using this)
    obtain ⟨C, rfl⟩ : ∃ C, L = C + 1 := ⟨L - 1, by simp at hne; omega⟩
    have hC : (C : Int) + 1 - 1 = (C : Nat) := by omega
    repeat' (first | omega | ((try refine awC_sound _ _ _ _ ?_); simp only [go_sem, sevalprocAttr, ↓reduceIte, reduceCtorEq, b0, hC]) | (apply gspDI <;> (intro h_; (try simp only [h_]); revert h_)) | apply gspLI | apply condLI | apply gspI | apply And.intro | with_reducible intro h_ | trivial | (simp only [go_sem, List.length_append]; omega))
    refine ⟨CallB.frz [4] rfl (by simp only [go_sem, sevalprocAttr, ↓reduceIte, reduceCtorEq, Nat.le_refl]) (by simp only [go_sem, sevalprocAttr, ↓reduceIte, reduceCtorEq, Nat.le_refl]) (by simp only [go_sem, sevalprocAttr, ↓reduceIte, reduceCtorEq, Nat.le_refl]) (by simp only [go_sem, sevalprocAttr, ↓reduceIte, reduceCtorEq, Nat.le_refl]) rfl rfl rfl (CallB.fn rfl h1 ?_)⟩
    repeat' (first | omega | ((try refine awC_sound _ _ _ _ ?_); simp only [go_sem, sevalprocAttr, ↓reduceIte, reduceCtorEq, b0, hC]) | (apply gspDI <;> (intro h_; (try simp only [h_]); revert h_)) | apply gspLI | apply condLI | apply gspI | apply And.intro | with_reducible intro h_ | trivial | (simp only [go_sem, List.length_append]; omega))
    refine LoopA.intro (fun n' fr H => ∃ (j : Nat) (q : List (Int × Int)), j ≤ C ∧ PolyB q (dpw j) ∧ n' = C - j ∧ fr = [(64, I j), (63, I (C : Nat)), (12, .ptr 5 0), (8, .ptr 3 0), (4, .ptr 1 0)] ∧
      H = [(5, .cells 37 (.lst [.bool false, tmA q])), (3, .cells 37 (.lst [.bool false, tmA [(0, 1)]])), (1, .cells 37 (.lst [.bool false, .nils]))]) ?_ ?_
    · refine ⟨_, _, _, Wk.sub ?_ ?_, 0, [(0, 1)], by omega, one_ok, rfl, rfl, rfl⟩
      · (simp only [go_sem, sevalprocAttr, ↓reduceIte, reduceCtorEq, hC]) <;> rfl
      · (simp only [go_sem, sevalprocAttr, ↓reduceIte, reduceCtorEq, tmC_s3]) <;> rfl
    rintro n' fr H ⟨j, q, hj, hq, rfl, rfl, rfl⟩
    by_cases hjc : j < C
    · have bj : decide ((j : Int) < (C : Nat)) = true := by simp; omega
      obtain ⟨r, hr, hm⟩ := fac_ok (by omega) hq
      repeat' (first | omega | ((first | refine awC_sound _ _ _ _ ?_ | (refine DrawA.introE (id := 8) (drTb10) (by decide +kernel) mixed ?_) | (refine DrawA.intro (id := 8) [[43,44,8],[43,44,8],[41,42,8],[41,42,8],[41,42,43,44],[43,44],[]] [[],[],[0,1],[0,1],[0,1,2,3],[2,3],[]] (by decide +kernel) mixed ?_) | (refine DrawA.introE (id := 18) (drTb11) (by decide +kernel) mixed ?_) | (refine DrawA.intro (id := 18) [[67,68],[66],[66],[],[]] [[],[0],[0],[],[]] (by decide +kernel) mixed ?_) | (refine DrawA.introT (id := 18) (drTb11) (by decide +kernel) mixed ?_) | skip); simp only [go_sem, sevalprocAttr, ↓reduceIte, reduceCtorEq, bj, drTb10, drTb11]) | (apply gspDI <;> (intro h_; (try simp only [h_]); revert h_)) | apply gspLI | apply condLI | apply gspI | apply And.intro | with_reducible intro h_ | trivial | (simp only [go_sem, List.length_append]; omega))
      all_goals refine ⟨CallB.frz [6] rfl (by simp only [go_sem, sevalprocAttr, ↓reduceIte, reduceCtorEq, Nat.le_refl, tmC_frz, tmC_frzP]) (by simp only [go_sem, sevalprocAttr, ↓reduceIte, reduceCtorEq, Nat.le_refl, tmC_frz, tmC_frzP]) (by simp only [go_sem, sevalprocAttr, ↓reduceIte, reduceCtorEq, Nat.le_refl, tmC_frz, tmC_frzP]) (by simp only [go_sem, sevalprocAttr, ↓reduceIte, reduceCtorEq, Nat.le_refl, tmC_frz, tmC_frzP]) rfl rfl rfl (CallB.fn rfl hd ?_)⟩
      all_goals (repeat' (first | omega | ((first | refine awC_sound _ _ _ _ ?_ | (refine DrawA.introE (id := 8) (drTb10) (by decide +kernel) mixed ?_) | (refine DrawA.intro (id := 8) [[43,44,8],[43,44,8],[41,42,8],[41,42,8],[41,42,43,44],[43,44],[]] [[],[],[0,1],[0,1],[0,1,2,3],[2,3],[]] (by decide +kernel) mixed ?_) | (refine DrawA.introE (id := 18) (drTb11) (by decide +kernel) mixed ?_) | (refine DrawA.intro (id := 18) [[67,68],[66],[66],[],[]] [[],[0],[0],[],[]] (by decide +kernel) mixed ?_) | (refine DrawA.introT (id := 18) (drTb11) (by decide +kernel) mixed ?_) | skip); simp only [go_sem, sevalprocAttr, ↓reduceIte, reduceCtorEq, bj, drTb10, drTb11]) | (apply gspDI <;> (intro h_; (try simp only [h_]); revert h_)) | apply gspLI | apply condLI | apply gspI | apply And.intro | with_reducible intro h_ | trivial | (simp only [go_sem, List.length_append]; omega)))
      all_goals refine ⟨CallB.fn rfl hm ?_⟩
      all_goals (repeat' (first | omega | ((first | refine awC_sound _ _ _ _ ?_ | (refine DrawA.introE (id := 8) (drTb10) (by decide +kernel) mixed ?_) | (refine DrawA.intro (id := 8) [[43,44,8],[43,44,8],[41,42,8],[41,42,8],[41,42,43,44],[43,44],[]] [[],[],[0,1],[0,1],[0,1,2,3],[2,3],[]] (by decide +kernel) mixed ?_) | (refine DrawA.introE (id := 18) (drTb11) (by decide +kernel) mixed ?_) | (refine DrawA.intro (id := 18) [[67,68],[66],[66],[],[]] [[],[0],[0],[],[]] (by decide +kernel) mixed ?_) | (refine DrawA.introT (id := 18) (drTb11) (by decide +kernel) mixed ?_) | skip); simp only [go_sem, sevalprocAttr, ↓reduceIte, reduceCtorEq, bj, drTb10, drTb11]) | (apply gspDI <;> (intro h_; (try simp only [h_]); revert h_)) | apply gspLI | apply condLI | apply gspI | apply And.intro | with_reducible intro h_ | trivial | (simp only [go_sem, List.length_append]; omega)))
      all_goals (
        refine ⟨_, _, _, ?_, Wk.sub ?_ ?_, j + 1, r, by omega, hr, rfl, rfl, rfl⟩
        · omega
        · simp only [go_sem, sevalprocAttr, ↓reduceIte, reduceCtorEq]
        · (simp only [go_sem, sevalprocAttr, ↓reduceIte, reduceCtorEq, tmC_s3]) <;> rfl)
    · obtain rfl : C = j := by omega
      have bj : decide (((C : Nat) : Int) < (C : Nat)) = false := by simp
      have hl := one_last (by omega) hq
      repeat' (first | omega | ((first | refine awC_sound _ _ _ _ ?_ | (refine DrawA.introE (id := 8) (drTb10) (by decide +kernel) mixed ?_) | (refine DrawA.intro (id := 8) [[43,44,8],[43,44,8],[41,42,8],[41,42,8],[41,42,43,44],[43,44],[]] [[],[],[0,1],[0,1],[0,1,2,3],[2,3],[]] (by decide +kernel) mixed ?_) | (refine DrawA.introE (id := 18) (drTb11) (by decide +kernel) mixed ?_) | (refine DrawA.intro (id := 18) [[67,68],[66],[66],[],[]] [[],[0],[0],[],[]] (by decide +kernel) mixed ?_) | (refine DrawA.introT (id := 18) (drTb11) (by decide +kernel) mixed ?_) | skip); simp only [go_sem, sevalprocAttr, ↓reduceIte, reduceCtorEq, bj, drTb10, drTb11]) | (apply gspDI <;> (intro h_; (try simp only [h_]); revert h_)) | apply gspLI | apply condLI | apply gspI | apply And.intro | with_reducible intro h_ | trivial | (simp only [go_sem, List.length_append]; omega))
      all_goals refine ⟨CallB.fn rfl hl ?_⟩
      all_goals (repeat' (first | omega | ((first | refine awC_sound _ _ _ _ ?_ | (refine DrawA.introE (id := 8) (drTb10) (by decide +kernel) mixed ?_) | (refine DrawA.intro (id := 8) [[43,44,8],[43,44,8],[41,42,8],[41,42,8],[41,42,43,44],[43,44],[]] [[],[],[0,1],[0,1],[0,1,2,3],[2,3],[]] (by decide +kernel) mixed ?_) | (refine DrawA.introE (id := 18) (drTb11) (by decide +kernel) mixed ?_) | (refine DrawA.intro (id := 18) [[67,68],[66],[66],[],[]] [[],[0],[0],[],[]] (by decide +kernel) mixed ?_) | (refine DrawA.introT (id := 18) (drTb11) (by decide +kernel) mixed ?_) | skip); simp only [go_sem, sevalprocAttr, ↓reduceIte, reduceCtorEq, bj, drTb10, drTb11]) | (apply gspDI <;> (intro h_; (try simp only [h_]); revert h_)) | apply gspLI | apply condLI | apply gspI | apply And.intro | with_reducible intro h_ | trivial | (simp only [go_sem, List.length_append]; omega)))
      all_goals refine ⟨CallB.fn rfl hbig ?_⟩
      all_goals (repeat' (first | omega | ((first | refine awC_sound _ _ _ _ ?_ | (refine DrawA.introE (id := 8) (drTb10) (by decide +kernel) mixed ?_) | (refine DrawA.intro (id := 8) [[43,44,8],[43,44,8],[41,42,8],[41,42,8],[41,42,43,44],[43,44],[]] [[],[],[0,1],[0,1],[0,1,2,3],[2,3],[]] (by decide +kernel) mixed ?_) | (refine DrawA.introE (id := 18) (drTb11) (by decide +kernel) mixed ?_) | (refine DrawA.intro (id := 18) [[67,68],[66],[66],[],[]] [[],[0],[0],[],[]] (by decide +kernel) mixed ?_) | (refine DrawA.introT (id := 18) (drTb11) (by decide +kernel) mixed ?_) | skip); simp only [go_sem, sevalprocAttr, ↓reduceIte, reduceCtorEq, bj, drTb10, drTb11]) | (apply gspDI <;> (intro h_; (try simp only [h_]); revert h_)) | apply gspLI | apply condLI | apply gspI | apply And.intro | with_reducible intro h_ | trivial | (simp only [go_sem, List.length_append]; omega)))
      all_goals exact LeA.refl _
  · have b0 : ((s.length : Int) == 0) = false := by simpa using hn0
    have bl0 : True := trivial
    refine Fn.introL [.cell 4 37, .tmp 5] Tryd.func14 rfl rfl (by decide) (by simp [Tryd.ntmps14]) ?_; rw [Tryd.ntmps14]
    repeat' (first | omega | ((try refine awC_sound _ _ _ _ ?_); simp only [go_sem, sevalprocAttr, ↓reduceIte, reduceCtorEq]) | (apply gspDI <;> (intro h_; (try simp only [h_]); revert h_)) | apply gspLI | apply condLI | apply gspI | apply And.intro | with_reducible intro h_ | trivial | (simp only [go_sem, List.length_append]; omega))
    refine ⟨CallB.fn rfl hW ?_⟩
    repeat' (first | omega | ((try refine awC_sound _ _ _ _ ?_); simp only [go_sem, sevalprocAttr, ↓reduceIte, reduceCtorEq, b0, bl0, bw, bL]) | (apply gspDI <;> (intro h_; (try simp only [h_]); revert h_)) | apply gspLI | apply condLI | apply gspI | apply And.intro | with_reducible intro h_ | trivial | (simp only [go_sem, List.length_append]; omega))
    refine DrawA.cut [(9, I L), (8, .ptr 3 0), (4, .ptr 1 0), (2, .ptr 0 0), (1, roI o)] [(3, .cells 37 (.lst [.bool false, tmA [(0, 1)]])), (1, .cells 37 (.lst [.bool false, .nils])), (0, .cells 24 (.lst [roI s, roI m, I L]))] ?_ ?_
    · repeat' (first | omega | ((first | refine awC_sound _ _ _ _ ?_ | (refine DrawA.introE (id := 8) (drTb10) (by decide +kernel) mixed ?_) | (refine DrawA.intro (id := 8) [[43,44,8],[43,44,8],[41,42,8],[41,42,8],[41,42,43,44],[43,44],[]] [[],[],[0,1],[0,1],[0,1,2,3],[2,3],[]] (by decide +kernel) mixed ?_) | (refine DrawA.introE (id := 18) (drTb11) (by decide +kernel) mixed ?_) | (refine DrawA.intro (id := 18) [[67,68],[66],[66],[],[]] [[],[0],[0],[],[]] (by decide +kernel) mixed ?_) | (refine DrawA.introT (id := 18) (drTb11) (by decide +kernel) mixed ?_) | skip); simp only [go_sem, sevalprocAttr, ↓reduceIte, reduceCtorEq, b0, bl0, bw, bL, drTb10, drTb11]) | (apply gspDI <;> (intro h_; (try simp only [h_]); revert h_)) | apply gspLI | apply condLI | apply gspI | apply And.intro | with_reducible intro h_ | trivial | (simp only [go_sem, List.length_append]; omega))
      all_goals first
        | (refine ⟨CallB.frz (ys := [I 0, .ro 1 1 (.ints [1])]) [2] rfl ?_ ?_ ?_ ?_ rfl rfl rfl (CallB.fn rfl h1 ?_)⟩
           · simp only [go_sem, sevalprocAttr, ↓reduceIte, reduceCtorEq, Nat.le_refl]
           · simp only [go_sem, sevalprocAttr, ↓reduceIte, reduceCtorEq, Nat.le_refl]
           · simp only [go_sem, sevalprocAttr, ↓reduceIte, reduceCtorEq, Nat.le_refl]
           · simp only [go_sem, sevalprocAttr, ↓reduceIte, reduceCtorEq, Nat.le_refl])
        | (refine ⟨CallB.frz (ys := [I 0, .ro 1 1 (.ints [1])]) [3] rfl ?_ ?_ ?_ ?_ rfl rfl rfl (CallB.fn rfl h1 ?_)⟩
           · simp only [go_sem, sevalprocAttr, ↓reduceIte, reduceCtorEq, Nat.le_refl]
           · simp only [go_sem, sevalprocAttr, ↓reduceIte, reduceCtorEq, Nat.le_refl]
           · simp only [go_sem, sevalprocAttr, ↓reduceIte, reduceCtorEq, Nat.le_refl]
           · simp only [go_sem, sevalprocAttr, ↓reduceIte, reduceCtorEq, Nat.le_refl])
      all_goals (repeat' (first | omega | ((first | refine awC_sound _ _ _ _ ?_ | (refine DrawA.introE (id := 8) (drTb10) (by decide +kernel) mixed ?_) | (refine DrawA.intro (id := 8) [[43,44,8],[43,44,8],[41,42,8],[41,42,8],[41,42,43,44],[43,44],[]] [[],[],[0,1],[0,1],[0,1,2,3],[2,3],[]] (by decide +kernel) mixed ?_) | (refine DrawA.introE (id := 18) (drTb11) (by decide +kernel) mixed ?_) | (refine DrawA.intro (id := 18) [[67,68],[66],[66],[],[]] [[],[0],[0],[],[]] (by decide +kernel) mixed ?_) | (refine DrawA.introT (id := 18) (drTb11) (by decide +kernel) mixed ?_) | skip); simp only [go_sem, sevalprocAttr, ↓reduceIte, reduceCtorEq, b0, bl0, bw, bL, drTb10, drTb11]) | (apply gspDI <;> (intro h_; (try simp only [h_]); revert h_)) | apply gspLI | apply condLI | apply gspI | apply And.intro | with_reducible intro h_ | trivial | (simp only [go_sem, List.length_append]; omega)))
      all_goals first
        | (refine Wk.sub ?_ ?_
           · simp only [go_sem, sevalprocAttr, ↓reduceIte, reduceCtorEq]
           · simp only [go_sem, sevalprocAttr, ↓reduceIte, reduceCtorEq, tmC_s3])
        | (refine Wk.subS (fr1 := [(9, I L), (8, .ptr 2 0), (4, .ptr 1 0), (2, .ptr 0 0), (1, roI o)]) (H1 := [(2, .cells 37 (.lst [.bool false, tmA [(0, 1)]])), (1, .cells 37 (.lst [.bool false, .nils])), (0, .cells 24 (.lst [roI s, roI m, I L]))]) 2 3 rfl rfl rfl rfl ?_ ?_
           · simp only [go_sem, sevalprocAttr, ↓reduceIte, reduceCtorEq]
           · simp only [go_sem, sevalprocAttr, ↓reduceIte, reduceCtorEq, tmC_s3])
    have hcast : (o.map Int.toNat).map (Nat.cast : Nat → Int) = o := by
      rw [List.map_map]
      conv => rhs; rw [← List.map_id o]
      exact List.map_congr_left fun x hx => by
        have := hprm.rg x hx
        simp only [Function.comp, id]; omega
    have hnd : (o.map Int.toNat).Nodup := by
      rw [List.nodup_iff_pairwise_ne, List.pairwise_map]
      refine List.Pairwise.imp_of_mem (fun {a b} ha hb hne e => hne ?_) (List.nodup_iff_pairwise_ne.1 hprm.nd)
      have h1 := hprm.rg a ha
      have h2 := hprm.rg b hb
      omega
    have hsw := fn_sweep s m L hpm hnd (by rw [List.length_map, hol]) (fun c hc => by
      obtain ⟨x, hx, rfl⟩ := List.mem_map.1 hc
      have := hprm.rg x hx
      omega) (by omega) (by omega)
    rw [hcast] at hsw
    repeat' (first | omega | ((try refine awC_sound _ _ _ _ ?_); simp only [go_sem, sevalprocAttr, ↓reduceIte, reduceCtorEq, b0]) | (apply gspDI <;> (intro h_; (try simp only [h_]); revert h_)) | apply gspLI | apply condLI | apply gspI | apply And.intro | with_reducible intro h_ | trivial | (simp only [go_sem, List.length_append]; omega))
    refine ⟨CallB.fn rfl hsw ?_⟩
    repeat' (first | omega | ((try refine awC_sound _ _ _ _ ?_); simp only [go_sem, sevalprocAttr, ↓reduceIte, reduceCtorEq, b0]) | (apply gspDI <;> (intro h_; (try simp only [h_]); revert h_)) | apply gspLI | apply condLI | apply gspI | apply And.intro | with_reducible intro h_ | trivial | (simp only [go_sem, List.length_append]; omega))
    refine ⟨CallB.frz [5] rfl (by simp only [go_sem, sevalprocAttr, ↓reduceIte, reduceCtorEq, Nat.le_refl, tmC_frz, tmC_frzP]) (by simp only [go_sem, sevalprocAttr, ↓reduceIte, reduceCtorEq, Nat.le_refl, tmC_frz, tmC_frzP]) (by simp only [go_sem, sevalprocAttr, ↓reduceIte, reduceCtorEq, Nat.le_refl, tmC_frz, tmC_frzP]) (by simp only [go_sem, sevalprocAttr, ↓reduceIte, reduceCtorEq, Nat.le_refl, tmC_frz, tmC_frzP]) rfl rfl rfl (CallB.fn rfl h1 ?_)⟩
    repeat' (first | omega | ((try refine awC_sound _ _ _ _ ?_); simp only [go_sem, sevalprocAttr, ↓reduceIte, reduceCtorEq, b0]) | (apply gspDI <;> (intro h_; (try simp only [h_]); revert h_)) | apply gspLI | apply condLI | apply gspI | apply And.intro | with_reducible intro h_ | trivial | (simp only [go_sem, List.length_append]; omega))
    refine LoopA.intro (fun n' fr H => ∃ (j : Nat) (q : List (Int × Int)), j ≤ L ∧ PolyB q (dpw j) ∧ n' = L - j ∧ fr = [(64, I j), (63, I (L : Nat)), (12, .ptr 6 0), (8, .ptr 3 0), (4, .ptr 1 0)] ∧
      H = [(6, .cells 37 (.lst [.bool false, tmA q])), (3, .cells 37 (.lst [.bool false, tmA (listOf (brT m s.length 0 1))])), (1, .cells 37 (.lst [.bool false, .nils]))]) ?_ ?_
    · refine ⟨_, _, _, Wk.sub ?_ ?_, 0, [(0, 1)], by omega, one_ok, rfl, rfl, rfl⟩
      · (simp only [go_sem, sevalprocAttr, ↓reduceIte, reduceCtorEq, hol]) <;> rfl
      · (simp only [go_sem, sevalprocAttr, ↓reduceIte, reduceCtorEq, tmC_s3]) <;> rfl
    rintro n' fr H ⟨j, q, hj, hq, rfl, rfl, rfl⟩
    by_cases hjc : j < L
    · have bj : decide ((j : Int) < (L : Nat)) = true := by simp; omega
      obtain ⟨r, hr, hm⟩ := fac_ok (by omega) hq
      repeat' (first | omega | ((first | refine awC_sound _ _ _ _ ?_ | (refine DrawA.introE (id := 8) (drTb10) (by decide +kernel) mixed ?_) | (refine DrawA.intro (id := 8) [[43,44,8],[43,44,8],[41,42,8],[41,42,8],[41,42,43,44],[43,44],[]] [[],[],[0,1],[0,1],[0,1,2,3],[2,3],[]] (by decide +kernel) mixed ?_) | (refine DrawA.introE (id := 18) (drTb11) (by decide +kernel) mixed ?_) | (refine DrawA.intro (id := 18) [[67,68],[66],[66],[],[]] [[],[0],[0],[],[]] (by decide +kernel) mixed ?_) | (refine DrawA.introT (id := 18) (drTb11) (by decide +kernel) mixed ?_) | skip); simp only [go_sem, sevalprocAttr, ↓reduceIte, reduceCtorEq, bj, drTb10, drTb11]) | (apply gspDI <;> (intro h_; (try simp only [h_]); revert h_)) | apply gspLI | apply condLI | apply gspI | apply And.intro | with_reducible intro h_ | trivial | (simp only [go_sem, List.length_append]; omega))
      all_goals refine ⟨CallB.frz [7] rfl (by simp only [go_sem, sevalprocAttr, ↓reduceIte, reduceCtorEq, Nat.le_refl, tmC_frz, tmC_frzP]) (by simp only [go_sem, sevalprocAttr, ↓reduceIte, reduceCtorEq, Nat.le_refl, tmC_frz, tmC_frzP]) (by simp only [go_sem, sevalprocAttr, ↓reduceIte, reduceCtorEq, Nat.le_refl, tmC_frz, tmC_frzP]) (by simp only [go_sem, sevalprocAttr, ↓reduceIte, reduceCtorEq, Nat.le_refl, tmC_frz, tmC_frzP]) rfl rfl rfl (CallB.fn rfl hd ?_)⟩
      all_goals (repeat' (first | omega | ((first | refine awC_sound _ _ _ _ ?_ | (refine DrawA.introE (id := 8) (drTb10) (by decide +kernel) mixed ?_) | (refine DrawA.intro (id := 8) [[43,44,8],[43,44,8],[41,42,8],[41,42,8],[41,42,43,44],[43,44],[]] [[],[],[0,1],[0,1],[0,1,2,3],[2,3],[]] (by decide +kernel) mixed ?_) | (refine DrawA.introE (id := 18) (drTb11) (by decide +kernel) mixed ?_) | (refine DrawA.intro (id := 18) [[67,68],[66],[66],[],[]] [[],[0],[0],[],[]] (by decide +kernel) mixed ?_) | (refine DrawA.introT (id := 18) (drTb11) (by decide +kernel) mixed ?_) | skip); simp only [go_sem, sevalprocAttr, ↓reduceIte, reduceCtorEq, bj, drTb10, drTb11]) | (apply gspDI <;> (intro h_; (try simp only [h_]); revert h_)) | apply gspLI | apply condLI | apply gspI | apply And.intro | with_reducible intro h_ | trivial | (simp only [go_sem, List.length_append]; omega)))
      all_goals refine ⟨CallB.fn rfl hm ?_⟩
      all_goals (repeat' (first | omega | ((first | refine awC_sound _ _ _ _ ?_ | (refine DrawA.introE (id := 8) (drTb10) (by decide +kernel) mixed ?_) | (refine DrawA.intro (id := 8) [[43,44,8],[43,44,8],[41,42,8],[41,42,8],[41,42,43,44],[43,44],[]] [[],[],[0,1],[0,1],[0,1,2,3],[2,3],[]] (by decide +kernel) mixed ?_) | (refine DrawA.introE (id := 18) (drTb11) (by decide +kernel) mixed ?_) | (refine DrawA.intro (id := 18) [[67,68],[66],[66],[],[]] [[],[0],[0],[],[]] (by decide +kernel) mixed ?_) | (refine DrawA.introT (id := 18) (drTb11) (by decide +kernel) mixed ?_) | skip); simp only [go_sem, sevalprocAttr, ↓reduceIte, reduceCtorEq, bj, drTb10, drTb11]) | (apply gspDI <;> (intro h_; (try simp only [h_]); revert h_)) | apply gspLI | apply condLI | apply gspI | apply And.intro | with_reducible intro h_ | trivial | (simp only [go_sem, List.length_append]; omega)))
      all_goals (
        refine ⟨_, _, _, ?_, Wk.sub ?_ ?_, j + 1, r, by omega, hr, rfl, rfl, rfl⟩
        · omega
        · simp only [go_sem, sevalprocAttr, ↓reduceIte, reduceCtorEq]
        · (simp only [go_sem, sevalprocAttr, ↓reduceIte, reduceCtorEq, tmC_s3]) <;> rfl)
    · obtain rfl : L = j := by omega
      have bj : decide (((L : Nat) : Int) < (L : Nat)) = false := by simp
      have hl := last_ok hpm hs (by omega) hL hq
      repeat' (first | omega | ((first | refine awC_sound _ _ _ _ ?_ | (refine DrawA.introE (id := 8) (drTb10) (by decide +kernel) mixed ?_) | (refine DrawA.intro (id := 8) [[43,44,8],[43,44,8],[41,42,8],[41,42,8],[41,42,43,44],[43,44],[]] [[],[],[0,1],[0,1],[0,1,2,3],[2,3],[]] (by decide +kernel) mixed ?_) | (refine DrawA.introE (id := 18) (drTb11) (by decide +kernel) mixed ?_) | (refine DrawA.intro (id := 18) [[67,68],[66],[66],[],[]] [[],[0],[0],[],[]] (by decide +kernel) mixed ?_) | (refine DrawA.introT (id := 18) (drTb11) (by decide +kernel) mixed ?_) | skip); simp only [go_sem, sevalprocAttr, ↓reduceIte, reduceCtorEq, bj, drTb10, drTb11]) | (apply gspDI <;> (intro h_; (try simp only [h_]); revert h_)) | apply gspLI | apply condLI | apply gspI | apply And.intro | with_reducible intro h_ | trivial | (simp only [go_sem, List.length_append]; omega))
      all_goals refine ⟨CallB.fn rfl hl ?_⟩
      all_goals (repeat' (first | omega | ((first | refine awC_sound _ _ _ _ ?_ | (refine DrawA.introE (id := 8) (drTb10) (by decide +kernel) mixed ?_) | (refine DrawA.intro (id := 8) [[43,44,8],[43,44,8],[41,42,8],[41,42,8],[41,42,43,44],[43,44],[]] [[],[],[0,1],[0,1],[0,1,2,3],[2,3],[]] (by decide +kernel) mixed ?_) | (refine DrawA.introE (id := 18) (drTb11) (by decide +kernel) mixed ?_) | (refine DrawA.intro (id := 18) [[67,68],[66],[66],[],[]] [[],[0],[0],[],[]] (by decide +kernel) mixed ?_) | (refine DrawA.introT (id := 18) (drTb11) (by decide +kernel) mixed ?_) | skip); simp only [go_sem, sevalprocAttr, ↓reduceIte, reduceCtorEq, bj, drTb10, drTb11]) | (apply gspDI <;> (intro h_; (try simp only [h_]); revert h_)) | apply gspLI | apply condLI | apply gspI | apply And.intro | with_reducible intro h_ | trivial | (simp only [go_sem, List.length_append]; omega)))
      all_goals refine ⟨CallB.fn rfl hbig ?_⟩
      all_goals (repeat' (first | omega | ((first | refine awC_sound _ _ _ _ ?_ | (refine DrawA.introE (id := 8) (drTb10) (by decide +kernel) mixed ?_) | (refine DrawA.intro (id := 8) [[43,44,8],[43,44,8],[41,42,8],[41,42,8],[41,42,43,44],[43,44],[]] [[],[],[0,1],[0,1],[0,1,2,3],[2,3],[]] (by decide +kernel) mixed ?_) | (refine DrawA.introE (id := 18) (drTb11) (by decide +kernel) mixed ?_) | (refine DrawA.intro (id := 18) [[67,68],[66],[66],[],[]] [[],[0],[0],[],[]] (by decide +kernel) mixed ?_) | (refine DrawA.introT (id := 18) (drTb11) (by decide +kernel) mixed ?_) | skip); simp only [go_sem, sevalprocAttr, ↓reduceIte, reduceCtorEq, bj, drTb10, drTb11]) | (apply gspDI <;> (intro h_; (try simp only [h_]); revert h_)) | apply gspLI | apply condLI | apply gspI | apply And.intro | with_reducible intro h_ | trivial | (simp only [go_sem, List.length_append]; omega)))
      all_goals exact LeA.refl _
end Go.Proofs.YtebdkebfkpbmpaaDoor
