/- Plain: states by number. -/
import Derived.Test.YtmfdclbiljpmgaaDoorKb3
import Derived.Test.YtmfdclbiljpmgaaDoorBr8
import Derived.Test.YtmfdclbiljpmgaaDoorTx4
namespace Go.Proofs.YtmfdclbiljpmgaaDoor
set_option linter.unusedSimpArgs false
set_option linter.unusedVariables false
theorem chB_lt {k i : Nat} (h : k < 2 ^ i) : chB k i = false := by unfold chB; rw [Nat.div_eq_of_lt h]; rfl
theorem chB_add {k i c : Nat} (hc : c < i) : chB (2 ^ i + k) c = chB k c := by
  unfold chB
  obtain ⟨d, rfl⟩ : ∃ d, i = c + (d + 1) := ⟨i - c - 1, by omega⟩
  rw [Nat.pow_add, Nat.mul_add_div (Nat.pow_pos (by omega)), Nat.pow_succ]
  congr 1; omega
theorem chB_top {k i : Nat} (h : k < 2 ^ i) : chB (2 ^ i + k) i = true := by
  unfold chB
  have := Nat.mul_add_div (m := 2 ^ i) (Nat.pow_pos (by omega)) 1 k
  rw [Nat.mul_one, Nat.div_eq_of_lt h] at this
  rw [this]; rfl
theorem inj_le {l k : List Nat} (hn : l.Nodup) (Q : Nat → Nat → Prop) (h : ∀ x ∈ l, ∃ y ∈ k, Q x y) (hi : ∀ x x' y, x ∈ l → x' ∈ l → Q x y → Q x' y → x = x') : l.length ≤ k.length := by
  have hc : ∀ x : Nat, ∃ y, x ∈ l → y ∈ k ∧ Q x y := fun x => by
    by_cases hx : x ∈ l
    · obtain ⟨y, h1, h2⟩ := h x hx; exact ⟨y, fun _ => ⟨h1, h2⟩⟩
    · exact ⟨0, fun h => absurd h hx⟩
  have hf := fun x => Classical.choose_spec (hc x)
  have : l.length = (l.map fun x => Classical.choose (hc x)).length := by simp
  rw [this]
  refine nodup_le_of_subset (nodup_map_on (fun x hx y hy e => ?_) hn) fun y hy => ?_
  · have a := (hf x hx).2
    have b := (hf y hy).2
    rw [e] at a
    exact hi x y _ hx hy a b
  · obtain ⟨x, hx, rfl⟩ := List.mem_map.1 hy
    exact (hf x hx).1
theorem sm_prod (f : Nat → Int) (a : Nat) : ∀ b, sm f (a * b) = sm (fun k2 => sm (fun k1 => f (a * k2 + k1)) a) b
  | 0 => rfl
  | b + 1 => by rw [Nat.mul_succ, sm_split, sm_prod f a b]; rfl
theorem chB_low {k1 k2 i c : Nat} (hc : c < i) : chB (2 ^ i * k2 + k1) c = chB k1 c := by
  unfold chB
  obtain ⟨d, rfl⟩ : ∃ d, i = c + (d + 1) := ⟨i - c - 1, by omega⟩
  rw [Nat.pow_add, Nat.mul_assoc, Nat.mul_add_div (Nat.pow_pos (by omega)), Nat.pow_succ, Nat.mul_comm (2 ^ d) 2, Nat.mul_assoc, Nat.mul_add_mod]
theorem chB_hi {k1 k2 i c : Nat} (h : k1 < 2 ^ i) : chB (2 ^ i * k2 + k1) (i + c) = chB k2 c := by
  unfold chB
  rw [Nat.pow_add, ← Nat.div_div_eq_div_mul, Nat.mul_add_div (Nat.pow_pos (by omega)), Nat.div_eq_of_lt h, Nat.add_zero]
theorem difS_congr {b : Bool} {ch ch' : Nat → Bool} : ∀ {n : Nat}, (∀ c, c < n → ch c = ch' c) → difS b ch n = difS b ch' n
  | 0, _ => rfl
  | n + 1, h => by simp only [difS]; rw [difS_congr fun c hc => h c (by omega), h n (by omega)]
theorem difS_add (b : Bool) (ch : Nat → Bool) (n1 : Nat) : ∀ n2, difS b ch (n1 + n2) = difS b ch n1 + difS b (fun c => ch (n1 + c)) n2
  | 0 => rfl
  | n2 + 1 => by rw [← Nat.add_assoc]; simp only [difS]; rw [difS_add b ch n1 n2]; omega
theorem cntB_two {k1 k2 n1 n2 : Nat} (h : k1 < 2 ^ n1) : cntB (2 ^ n1 * k2 + k1) (n1 + n2) = cntB k1 n1 + cntB k2 n2 := by
  rw [cntB_dif, cntB_dif, cntB_dif, difS_add, difS_congr fun c hc => chB_low hc, difS_congr (n := n2) fun c _ => chB_hi h]
end Go.Proofs.YtmfdclbiljpmgaaDoor

/- Layer 15: the bracket of the chapter's examples. -/
set_option linter.unusedSimpArgs false
set_option linter.unusedVariables false
namespace Go.Proofs.YtmfdclbiljpmgaaDoor
open Go Go.RowKit
set_option maxRecDepth 100000
theorem brP_of {s m : List Int} {L : Nat} (hv : validB s m L = true) (hs : s.length ≤ 9) (hL : L ≤ 20) {p : List (Int × Int)} (ha : AscN p) (N : Nat) (hN : 5 * s.length + 2 * L ≤ N + 2) (hp : ∀ t ∈ p, -(N : Int) ≤ t.1 ∧ t.1 ≤ N)
    (h : ((List.range (2 * N + 1)).all fun i => decide (cfL p ((i : Int) - N) = brT m s.length L 1 ((i : Int) - N))) = true) : brP m s.length L = p := by
  have hq := pmOk hv
  have h1 := cirS_max hq (fun _ => true)
  have h2 := cirS_max hq (fun _ => false)
  have : PolyB p (brT m s.length L 1) := ⟨ha, fun e => by
    by_cases he : -(N : Int) ≤ e ∧ e ≤ N
    · have := List.all_eq_true.1 h (e + N).toNat (List.mem_range.2 (by omega))
      rw [decide_eq_true_iff, show (((e + (N : Int)).toNat : Nat) : Int) - N = e by omega] at this
      exact this
    · rw [cfL_none fun t ht => by have := hp t ht; omega]
      by_cases h0 : brT m s.length L 1 e = 0
      · exact h0.symm
      · have := brT_supp hq h0
        omega⟩
  exact (this.eq fun e he => brT_sup hq hs hL (by omega) he).symm
theorem ex1_br : Fn Tryd.prog 6 [dgA [1] [1, 0, 3, 2] 0] (.tup [plA false [(3, -1)], I 0]) := by
  have hv : validB [1] [1, 0, 3, 2] 0 = true := by decide +kernel
  have h := fn_Bracket [1] [1, 0, 3, 2] 0 hv (by decide) (by decide) (by decide)
  rw [brP_of (s := [1]) (m := [1, 0, 3, 2]) (L := 0) hv (by decide) (by decide) (p := [(3, -1)]) ⟨by decide, by decide⟩ 4 (by decide) (by decide) (by decide +kernel)] at h
  exact h
theorem ex3_br : Fn Tryd.prog 6 [dgA [1, 1, 1] [9, 4, 7, 10, 1, 8, 11, 2, 5, 0, 3, 6] 0] (.tup [plA false [(-7, 1), (-3, -1), (5, -1)], I 0]) := by
  have hv : validB [1, 1, 1] [9, 4, 7, 10, 1, 8, 11, 2, 5, 0, 3, 6] 0 = true := by decide +kernel
  have h := fn_Bracket [1, 1, 1] [9, 4, 7, 10, 1, 8, 11, 2, 5, 0, 3, 6] 0 hv (by decide) (by decide) (by decide)
  rw [brP_of (s := [1, 1, 1]) (m := [9, 4, 7, 10, 1, 8, 11, 2, 5, 0, 3, 6]) (L := 0) hv (by decide) (by decide) (p := [(-7, 1), (-3, -1), (5, -1)]) ⟨by decide, by decide⟩ 14 (by decide) (by decide) (by decide +kernel)] at h
  exact h
end Go.Proofs.YtmfdclbiljpmgaaDoor

/- Layer 15: the examples of the chapter. -/
set_option linter.unusedSimpArgs false
set_option linter.unusedVariables false
namespace Go.Proofs.YtmfdclbiljpmgaaDoor
open Go Go.RowKit
set_option maxRecDepth 100000
set_option maxHeartbeats 8000000
theorem fn_trefoil15 : Fn Tryd.prog 11 [] (dgA [1, 1, 1] [9, 4, 7, 10, 1, 8, 11, 2, 5, 0, 3, 6] 0) := by
  refine Fn.introL [.cell 0 24] Tryd.func11 rfl rfl (by decide) (by simp [Tryd.ntmps11]) ?_; rw [Tryd.ntmps11]
  repeat' (first | omega | ((first | refine awC_sound _ _ _ _ ?_ | skip); simp only [go_sem, Nat.reduceLT, Nat.reduceLeDiff, Nat.reduceEqDiff, Nat.reduceBEq, Nat.reduceBNe, Nat.reduceAdd, Nat.reduceMul, Nat.reduceSub, Nat.reduceDiv, Nat.reduceMod, Int.reduceToNat, Int.reduceAdd, Int.reduceLT, Int.reduceLE, Int.reduceEq, Int.reduceSub, Int.reduceMul, Int.reduceNeg, ↓reduceIte, reduceCtorEq]) | (refine gspDI ?_ ?_ <;> (intro _hh; (try simp only [_hh]); revert _hh)) | refine gspLI ?_ ?_ | refine condLI ?_ ?_ | refine gspI ?_ ?_ | refine And.intro ?_ ?_ | with_reducible intro _hh | trivial | (simp only [cl1, cl2, cl3, List.length_cons, List.length_nil, List.length_append]; omega))
  all_goals exact LeA.refl _
theorem fn_T1 : Fn Tryd.prog 12 [plA false [(3, -1)], .str ⟨#[65]⟩] (.str ⟨#[45, 65, 94, 51]⟩) := by
  have h := fn_Text [(3, -1)] ⟨#[65]⟩ (fun k hk => by
    match k, hk with
    | 0, _ => decide) (by decide) (by decide)
  rw [show (⟨#[65]⟩ : ByteArray).data.toList = [65] from rfl, show txtB [65] [(3, -1)] = [45, 65, 94, 51] by decide +kernel] at h
  exact h
theorem fn_T3 : Fn Tryd.prog 12 [plA false [(-7, 1), (-3, -1), (5, -1)], .str ⟨#[65]⟩] (.str ⟨#[65, 94, 45, 55, 45, 65, 94, 45, 51, 45, 65, 94, 53]⟩) := by
  have h := fn_Text [(-7, 1), (-3, -1), (5, -1)] ⟨#[65]⟩ (fun k hk => by
    match k, hk with
    | 0, _ => decide
    | 1, _ => decide
    | 2, _ => decide) (by decide) (by decide)
  rw [show (⟨#[65]⟩ : ByteArray).data.toList = [65] from rfl, show txtB [65] [(-7, 1), (-3, -1), (5, -1)] = [65, 94, 45, 55, 45, 65, 94, 45, 51, 45, 65, 94, 53] by decide +kernel] at h
  exact h
theorem fn_awake15 : Fn Tryd.prog 4 [] (.bool true) := by
  have h1 := ex1_br
  have h3 := ex3_br
  refine Fn.introL [.tmp 0] Tryd.func4 rfl rfl (by decide) (by simp [Tryd.ntmps4]) ?_; rw [Tryd.ntmps4]
  repeat' (first | omega | ((first | refine awC_sound _ _ _ _ ?_ | skip); simp only [go_sem, Nat.reduceLT, Nat.reduceLeDiff, Nat.reduceEqDiff, Nat.reduceBEq, Nat.reduceBNe, Nat.reduceAdd, Nat.reduceMul, Nat.reduceSub, Nat.reduceDiv, Nat.reduceMod, Int.reduceToNat, Int.reduceAdd, Int.reduceLT, Int.reduceLE, Int.reduceEq, Int.reduceSub, Int.reduceMul, Int.reduceNeg, ↓reduceIte, reduceCtorEq]) | (refine gspDI ?_ ?_ <;> (intro _hh; (try simp only [_hh]); revert _hh)) | refine gspLI ?_ ?_ | refine condLI ?_ ?_ | refine gspI ?_ ?_ | refine And.intro ?_ ?_ | with_reducible intro _hh | trivial | (simp only [cl1, cl2, cl3, List.length_cons, List.length_nil, List.length_append]; omega))
  refine ⟨CallB.frz [0, 1] rfl (by simp only [go_sem, Nat.reduceLT, Nat.reduceLeDiff, Nat.reduceEqDiff, Nat.reduceBEq, Nat.reduceBNe, Nat.reduceAdd, Nat.reduceMul, Nat.reduceSub, Nat.reduceDiv, Nat.reduceMod, Int.reduceToNat, Int.reduceAdd, Int.reduceLT, Int.reduceLE, Int.reduceEq, Int.reduceSub, Int.reduceMul, Int.reduceNeg, ↓reduceIte, reduceCtorEq]) (by simp only [go_sem, Nat.reduceLT, Nat.reduceLeDiff, Nat.reduceEqDiff, Nat.reduceBEq, Nat.reduceBNe, Nat.reduceAdd, Nat.reduceMul, Nat.reduceSub, Nat.reduceDiv, Nat.reduceMod, Int.reduceToNat, Int.reduceAdd, Int.reduceLT, Int.reduceLE, Int.reduceEq, Int.reduceSub, Int.reduceMul, Int.reduceNeg, ↓reduceIte, reduceCtorEq]) (by simp only [go_sem, Nat.reduceLT, Nat.reduceLeDiff, Nat.reduceEqDiff, Nat.reduceBEq, Nat.reduceBNe, Nat.reduceAdd, Nat.reduceMul, Nat.reduceSub, Nat.reduceDiv, Nat.reduceMod, Int.reduceToNat, Int.reduceAdd, Int.reduceLT, Int.reduceLE, Int.reduceEq, Int.reduceSub, Int.reduceMul, Int.reduceNeg, ↓reduceIte, reduceCtorEq]) (by simp only [go_sem, Nat.reduceLT, Nat.reduceLeDiff, Nat.reduceEqDiff, Nat.reduceBEq, Nat.reduceBNe, Nat.reduceAdd, Nat.reduceMul, Nat.reduceSub, Nat.reduceDiv, Nat.reduceMod, Int.reduceToNat, Int.reduceAdd, Int.reduceLT, Int.reduceLE, Int.reduceEq, Int.reduceSub, Int.reduceMul, Int.reduceNeg, ↓reduceIte, reduceCtorEq]) rfl rfl rfl (CallB.fn rfl h1 ?_)⟩
  repeat' (first | omega | ((first | refine awC_sound _ _ _ _ ?_ | skip); simp only [go_sem, Nat.reduceLT, Nat.reduceLeDiff, Nat.reduceEqDiff, Nat.reduceBEq, Nat.reduceBNe, Nat.reduceAdd, Nat.reduceMul, Nat.reduceSub, Nat.reduceDiv, Nat.reduceMod, Int.reduceToNat, Int.reduceAdd, Int.reduceLT, Int.reduceLE, Int.reduceEq, Int.reduceSub, Int.reduceMul, Int.reduceNeg, ↓reduceIte, reduceCtorEq]) | (refine gspDI ?_ ?_ <;> (intro _hh; (try simp only [_hh]); revert _hh)) | refine gspLI ?_ ?_ | refine condLI ?_ ?_ | refine gspI ?_ ?_ | refine And.intro ?_ ?_ | with_reducible intro _hh | trivial | (simp only [cl1, cl2, cl3, List.length_cons, List.length_nil, List.length_append]; omega))
  refine ⟨CallB.fn rfl fn_trefoil15 ?_⟩
  repeat' (first | omega | ((first | refine awC_sound _ _ _ _ ?_ | skip); simp only [go_sem, Nat.reduceLT, Nat.reduceLeDiff, Nat.reduceEqDiff, Nat.reduceBEq, Nat.reduceBNe, Nat.reduceAdd, Nat.reduceMul, Nat.reduceSub, Nat.reduceDiv, Nat.reduceMod, Int.reduceToNat, Int.reduceAdd, Int.reduceLT, Int.reduceLE, Int.reduceEq, Int.reduceSub, Int.reduceMul, Int.reduceNeg, ↓reduceIte, reduceCtorEq]) | (refine gspDI ?_ ?_ <;> (intro _hh; (try simp only [_hh]); revert _hh)) | refine gspLI ?_ ?_ | refine condLI ?_ ?_ | refine gspI ?_ ?_ | refine And.intro ?_ ?_ | with_reducible intro _hh | trivial | (simp only [cl1, cl2, cl3, List.length_cons, List.length_nil, List.length_append]; omega))
  refine ⟨CallB.fn rfl h3 ?_⟩
  repeat' (first | omega | ((first | refine awC_sound _ _ _ _ ?_ | skip); simp only [go_sem, Nat.reduceLT, Nat.reduceLeDiff, Nat.reduceEqDiff, Nat.reduceBEq, Nat.reduceBNe, Nat.reduceAdd, Nat.reduceMul, Nat.reduceSub, Nat.reduceDiv, Nat.reduceMod, Int.reduceToNat, Int.reduceAdd, Int.reduceLT, Int.reduceLE, Int.reduceEq, Int.reduceSub, Int.reduceMul, Int.reduceNeg, ↓reduceIte, reduceCtorEq]) | (refine gspDI ?_ ?_ <;> (intro _hh; (try simp only [_hh]); revert _hh)) | refine gspLI ?_ ?_ | refine condLI ?_ ?_ | refine gspI ?_ ?_ | refine And.intro ?_ ?_ | with_reducible intro _hh | trivial | (simp only [cl1, cl2, cl3, List.length_cons, List.length_nil, List.length_append]; omega))
  refine ⟨CallB.fn rfl fn_T1 ?_⟩
  repeat' (first | omega | ((first | refine awC_sound _ _ _ _ ?_ | skip); simp only [go_sem, Nat.reduceLT, Nat.reduceLeDiff, Nat.reduceEqDiff, Nat.reduceBEq, Nat.reduceBNe, Nat.reduceAdd, Nat.reduceMul, Nat.reduceSub, Nat.reduceDiv, Nat.reduceMod, Int.reduceToNat, Int.reduceAdd, Int.reduceLT, Int.reduceLE, Int.reduceEq, Int.reduceSub, Int.reduceMul, Int.reduceNeg, ↓reduceIte, reduceCtorEq]) | (refine gspDI ?_ ?_ <;> (intro _hh; (try simp only [_hh]); revert _hh)) | refine gspLI ?_ ?_ | refine condLI ?_ ?_ | refine gspI ?_ ?_ | refine And.intro ?_ ?_ | with_reducible intro _hh | trivial | (simp only [cl1, cl2, cl3, List.length_cons, List.length_nil, List.length_append]; omega))
  refine ⟨CallB.fn rfl fn_T3 ?_⟩
  repeat' (first | omega | ((first | refine awC_sound _ _ _ _ ?_ | skip); simp only [go_sem, Nat.reduceLT, Nat.reduceLeDiff, Nat.reduceEqDiff, Nat.reduceBEq, Nat.reduceBNe, Nat.reduceAdd, Nat.reduceMul, Nat.reduceSub, Nat.reduceDiv, Nat.reduceMod, Int.reduceToNat, Int.reduceAdd, Int.reduceLT, Int.reduceLE, Int.reduceEq, Int.reduceSub, Int.reduceMul, Int.reduceNeg, ↓reduceIte, reduceCtorEq]) | (refine gspDI ?_ ?_ <;> (intro _hh; (try simp only [_hh]); revert _hh)) | refine gspLI ?_ ?_ | refine condLI ?_ ?_ | refine gspI ?_ ?_ | refine And.intro ?_ ?_ | with_reducible intro _hh | trivial | (simp only [cl1, cl2, cl3, List.length_cons, List.length_nil, List.length_append]; omega))
  all_goals exact LeA.refl _
end Go.Proofs.YtmfdclbiljpmgaaDoor
