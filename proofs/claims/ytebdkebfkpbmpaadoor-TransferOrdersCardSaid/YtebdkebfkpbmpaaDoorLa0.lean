/- Layer 12: polynomials: terms. -/
import Derived.Test.YtebdkebfkpbmpaaDoorXg
import Derived.Test.YtebdkebfkpbmpaaDoorXe
import Derived.Test.YtebdkebfkpbmpaaDoorGd
set_option linter.unusedSimpArgs false
set_option linter.unusedVariables false
namespace Go.Proofs.YtebdkebfkpbmpaaDoor
open Go Go.RowKit
set_option maxRecDepth 100000
set_option maxHeartbeats 4000000
def tmC (p : List (Int × Int)) : List AV := p.flatMap fun t => [I t.1, I t.2]
abbrev tmA (p : List (Int × Int)) : AV := .ro 2 p.length (.lst (tmC p))
abbrev plA (b : Bool) (p : List (Int × Int)) : AV := .agg [.bool b, tmA p]
attribute [go_sem] tmA plA
theorem tmC_len (p : List (Int × Int)) : (tmC p).length = 2 * p.length := by
  unfold tmC; induction p with
  | nil => rfl
  | cons x p ih => simp [ih]; omega
theorem tmC_get0 (p : List (Int × Int)) (i : Nat) (h : i < p.length) : (tmC p).getD (i * 2) .any = I (p.getD i (0, 0)).1 := by
  unfold tmC; induction p generalizing i with
  | nil => simp at h
  | cons x p ih =>
    cases i with
    | zero => simp
    | succ i =>
      have := ih i (by simpa using h)
      simp only [List.flatMap_cons, List.getD_cons_succ]
      rw [show (i + 1) * 2 = i * 2 + 1 + 1 by omega]
      simpa using this
theorem tmC_get1 (p : List (Int × Int)) (i : Nat) (h : i < p.length) : (tmC p).getD (i * 2 + 1) .any = I (p.getD i (0, 0)).2 := by
  unfold tmC; induction p generalizing i with
  | nil => simp at h
  | cons x p ih =>
    cases i with
    | zero => simp
    | succ i =>
      have := ih i (by simpa using h)
      simp only [List.flatMap_cons, List.getD_cons_succ]
      rw [show (i + 1) * 2 + 1 = i * 2 + 1 + 1 + 1 by omega]
      simpa using this
theorem fn_within (v l : Int) (h0 : 0 ≤ l) (h1 : l ≤ 9000000000000000000) : Fn Tryd.prog 35 [I v, I l] (.bool (fitB v l)) := by
  unfold fitB
  refine Fn.intro [.tmp 4] Tryd.func35 rfl rfl (by decide) (by simp [Tryd.ntmps35]) ?_; rw [Tryd.ntmps35]
  repeat' (first | omega | ((try refine awC_sound _ _ _ _ ?_); simp only [go_sem, sevalprocAttr, ↓reduceIte, reduceCtorEq]) | (apply gspDI <;> (intro h_; (try simp only [h_]); revert h_)) | apply gspLI | apply condLI | apply gspI | apply And.intro | with_reducible intro h_ | trivial | (simp only [go_sem, List.length_append]; omega))
  all_goals simp_all
  all_goals omega
theorem tmC_mem {p : List (Int × Int)} {x : AV} (h : x ∈ tmC p) : ∃ n, x = I n := by
  unfold tmC at h
  obtain ⟨t, _, ht⟩ := List.mem_flatMap.1 h
  simp only [List.mem_cons, List.not_mem_nil, or_false] at ht
  rcases ht with e | e <;> exact ⟨_, e⟩
theorem tmC_p1 (p : List (Int × Int)) : (tmC p).all p1 = true := List.all_eq_true.2 fun x hx => by obtain ⟨n, rfl⟩ := tmC_mem hx; rfl
theorem tmC_s3 (H : Hp) (p : List (Int × Int)) : (tmC p).all (s3 H) = true := List.all_eq_true.2 fun x hx => by obtain ⟨n, rfl⟩ := tmC_mem hx; rfl
theorem tmC_ok (p : List (Int × Int)) : (tmC p).all okCell = true := List.all_eq_true.2 fun x hx => by obtain ⟨n, rfl⟩ := tmC_mem hx; rfl
theorem tmC_cut (i : Nat) (p : List (Int × Int)) : (tmC p).map (cutV i) = tmC p := by
  conv => rhs; rw [← List.map_id (tmC p)]
  exact List.map_congr_left fun x hx => by obtain ⟨n, rfl⟩ := tmC_mem hx; rfl
theorem tmC_snap (H : Hp) (n : Nat) (p : List (Int × Int)) : (tmC p).map (snap H (n + 1)) = tmC p := pc_snap (tmC_p1 p) H n
theorem tmC_snapP (H : Hp) (n : Nat) (p : List (Int × Int)) : (∀ x ∈ tmC p, snapP H (n + 1) x) = True := pc_snapP (tmC_p1 p) H n
theorem tmC_frz (H : Hp) (n : Nat) (p : List (Int × Int)) : (tmC p).map (frzV H (n + 1)) = tmC p := pc_frz (tmC_p1 p) H n
theorem tmC_frzP (H : Hp) (n : Nat) (p : List (Int × Int)) : (∀ x ∈ tmC p, frzP H (n + 1) x) = True := pc_frzP (tmC_p1 p) H n
theorem tmC_snoc (p : List (Int × Int)) (e c : Int) : tmC p ++ [AV.int .i64 e, AV.int .i64 c] = tmC (p ++ [(e, c)]) := by simp [tmC]
attribute [go_sem] tmC_s3 tmC_ok tmC_cut tmC_snap tmC_snapP tmC_frz tmC_frzP tmC_len
theorem unl_lft (fr : Fr) : unl (lft fr) = fr := by
  induction fr with
  | nil => rfl
  | cons q r ih =>
    obtain ⟨t, x⟩ := q
    simp only [lft, unl]
    rw [if_pos (by omega), ih, Nat.add_sub_cancel]
theorem fcut_lft (i : Nat) (fr : Fr) : fcut i (lft fr) = lft (fcut i fr) := by
  induction fr with
  | nil => rfl
  | cons q r ih => obtain ⟨t, x⟩ := q; simp only [lft, fcut, ih]
attribute [go_sem] unl_lft fcut_lft
theorem cfits_get {p : List (Int × Int)} (h : cfits p) {i : Nat} (hi : i < p.length) : -1125899906842624 ≤ (p.getD i (0, 0)).2 ∧ (p.getD i (0, 0)).2 ≤ 1125899906842624 := h _ (by simp [hi])
end Go.Proofs.YtebdkebfkpbmpaaDoor
