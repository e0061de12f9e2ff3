/- Layer 12: polynomials: terms. -/
import Derived.Test.YtebdkebfkpbmpaaGreatDoorXg
import Derived.Test.YtebdkebfkpbmpaaGreatDoorXe
import Derived.Test.YtebdkebfkpbmpaaGreatDoorGd
set_option linter.unusedSimpArgs false
set_option linter.unusedVariables false
namespace Go.Proofs.YtebdkebfkpbmpaaGreatDoor
open Go Go.RowKit
set_option maxRecDepth 100000
set_option maxHeartbeats 4000000
def tmC (p : List (Int × Int)) : List AV := p.flatMap fun t => [I t.1, I t.2]
abbrev tmA (p : List (Int × Int)) : AV := .ro 2 p.length (.lst (tmC p))
abbrev plA (b : Bool) (p : List (Int × Int)) : AV := .agg [.bool b, tmA p]
attribute [go_sem] tmA plA
theorem ybh (p : List (Int × Int)) : (tmC p).length = 2 * p.length := by
 unfold tmC; induction p with
 | nil => rfl
 | cons x p ih => simp [ih]; omega
theorem ycf (p : List (Int × Int)) (i : Nat) (h : i < p.length) : (tmC p).getD (i * 2) .any = I (p.getD i (0, 0)).1 := by
 unfold tmC; induction p generalizing i with
 | nil => simp at h
 | cons x p ih =>
   cases i with
   | zero => simp
   | succ i =>
     have := ih i (by simpa using h)
     simp only [List.flatMap_cons, List.getD_cons_succ]
     rw [show (i + 1) * 2 = i * 2 + 1 + 1 by omega]
     simpa using this
theorem ydc (p : List (Int × Int)) (i : Nat) (h : i < p.length) : (tmC p).getD (i * 2 + 1) .any = I (p.getD i (0, 0)).2 := by
 unfold tmC; induction p generalizing i with
 | nil => simp at h
 | cons x p ih =>
   cases i with
   | zero => simp
   | succ i =>
     have := ih i (by simpa using h)
     simp only [List.flatMap_cons, List.getD_cons_succ]
     rw [show (i + 1) * 2 + 1 = i * 2 + 1 + 1 + 1 by omega]
     simpa using this
theorem yo3 (v l : Int) (h0 : 0 <= l) (h1 : l <= 9000000000000000000) : Fn Tryz.prog 74 [I v, I l] (.bool (fitB v l)) := by
 unfold fitB
 refine Fn.intro [.tmp 4] Tryz.func74 rfl rfl (by decide) (by simp [Tryz.ntmps74]) ?_; rw [Tryz.ntmps74]
 repeat' (first | omega | ((try apply yaa); simp only [go_sem, sevalprocAttr]) | (apply yad <;> (intro h_; (try simp only [h_]); revert h_)) | apply yac | apply yab | apply gspI | apply And.intro | with_reducible intro h_ | trivial | (simp only [go_sem, la2]; omega))
 all_goals simp_all
 all_goals omega
theorem yg9 {p : List (Int × Int)} {x : AV} (h : x ∈ tmC p) : ∃ n, x = I n := by
 unfold tmC at h
 obtain ⟨t, _, ht⟩ := List.mem_flatMap.1 h
 simp only [List.mem_cons, List.not_mem_nil, or_false] at ht
 rcases ht with e | e <;> exact ⟨_, e⟩
theorem ym4 (p : List (Int × Int)) : (tmC p).all p1 = true := List.all_eq_true.2 fun x hx => by obtain ⟨n, rfl⟩ := yg9 hx; rfl
theorem yaj (H : Hp) (p : List (Int × Int)) : (tmC p).all (s3 H) = true := List.all_eq_true.2 fun x hx => by obtain ⟨n, rfl⟩ := yg9 hx; rfl
theorem y8y (p : List (Int × Int)) : (tmC p).all ybn = true := List.all_eq_true.2 fun x hx => by obtain ⟨n, rfl⟩ := yg9 hx; rfl
theorem y6y (i : Nat) (p : List (Int × Int)) : (tmC p).map (cutV i) = tmC p := by
 conv => rhs; rw [← List.map_id (tmC p)]
 exact List.map_congr_left fun x hx => by obtain ⟨n, rfl⟩ := yg9 hx; rfl
theorem y2q (H : Hp) (n : Nat) (p : List (Int × Int)) : (tmC p).map (snap H (n + 1)) = tmC p := ytn (ym4 p) H n
theorem yi5 (H : Hp) (n : Nat) (p : List (Int × Int)) : (∀ x ∈ tmC p, yao H (n + 1) x) = True := yqv (ym4 p) H n
theorem yb6 (H : Hp) (n : Nat) (p : List (Int × Int)) : (tmC p).map (frzV H (n + 1)) = tmC p := yyb (ym4 p) H n
theorem ybr (H : Hp) (n : Nat) (p : List (Int × Int)) : (∀ x ∈ tmC p, frzP H (n + 1) x) = True := yto (ym4 p) H n
theorem yib (p : List (Int × Int)) (e c : Int) : tmC p ++ [AV.int .i64 e, AV.int .i64 c] = tmC (p ++ [(e, c)]) := by simp [tmC]
attribute [go_sem] yaj y8y y6y y2q yi5 yb6 ybr ybh
theorem y6z (fr : Fr) : unl (lft fr) = fr := by
 induction fr with
 | nil => rfl
 | cons q r ih =>
   obtain ⟨t, x⟩ := q
   simp only [lft, unl]
   rw [if_pos (by omega), ih, Nat.add_sub_cancel]
theorem y2r (i : Nat) (fr : Fr) : fcut i (lft fr) = lft (fcut i fr) := by
 induction fr with
 | nil => rfl
 | cons q r ih => obtain ⟨t, x⟩ := q; simp only [lft, fcut, ih]
attribute [go_sem] y6z y2r
theorem yo4 {p : List (Int × Int)} (h : yms p) {i : Nat} (hi : i < p.length) : -1125899906842624 <= (p.getD i (0, 0)).2 /\ (p.getD i (0, 0)).2 <= 1125899906842624 := h _ (by simp [hi])
end Go.Proofs.YtebdkebfkpbmpaaGreatDoor
