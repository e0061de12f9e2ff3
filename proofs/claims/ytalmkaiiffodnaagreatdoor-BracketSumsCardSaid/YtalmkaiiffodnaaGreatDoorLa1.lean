/- Layer 12: polynomials: sums. -/
import Derived.Test.YtalmkaiiffodnaaGreatDoorXf
import Derived.Test.YtalmkaiiffodnaaGreatDoorXa
import Derived.Test.YtalmkaiiffodnaaGreatDoorGd
set_option linter.unusedSimpArgs false
set_option linter.unusedVariables false
namespace Go.Proofs.YtalmkaiiffodnaaGreatDoor
open Go Go.RowKit
set_option maxRecDepth 100000
set_option maxHeartbeats 4000000
def tmC (p : List (Int × Int)) : List AV := p.flatMap fun t => [I t.1, I t.2]
abbrev tmA (p : List (Int × Int)) : AV := .ro 2 p.length (.lst (tmC p))
abbrev plA (b : Bool) (p : List (Int × Int)) : AV := .agg [.bool b, tmA p]
attribute [go_sem] tmA plA
theorem tmC_len (p : List (Int × Int)) : (tmC p).length = 2 * p.length := by
  unfold tmC; induction p with
  | nil => rfl
  | cons x p ih => simp [ih]; omega
theorem tmC_get0 (p : List (Int × Int)) (i : Nat) (h : i < p.length) : (tmC p).getD (i * 2) .any = I (p.getD i (0, 0)).1 := by
  unfold tmC; induction p generalizing i with
  | nil => simp at h
  | cons x p ih =>
    cases i with
    | zero => simp
    | succ i =>
      have := ih i (by simpa using h)
      simp only [List.flatMap_cons, List.getD_cons_succ]
      rw [show (i + 1) * 2 = i * 2 + 1 + 1 by omega]
      simpa using this
theorem tmC_get1 (p : List (Int × Int)) (i : Nat) (h : i < p.length) : (tmC p).getD (i * 2 + 1) .any = I (p.getD i (0, 0)).2 := by
  unfold tmC; induction p generalizing i with
  | nil => simp at h
  | cons x p ih =>
    cases i with
    | zero => simp
    | succ i =>
      have := ih i (by simpa using h)
      simp only [List.flatMap_cons, List.getD_cons_succ]
      rw [show (i + 1) * 2 + 1 = i * 2 + 1 + 1 + 1 by omega]
      simpa using this
theorem fn_within (v l : Int) (h0 : 0 ≤ l) (h1 : l ≤ 9000000000000000000) : Fn Tryz.prog 58 [I v, I l] (.bool (fitB v l)) := by
  unfold fitB
  refine Fn.intro [.tmp 4] Tryz.func58 rfl rfl (by decide) (by simp [Tryz.ntmps58]) ?_; rw [Tryz.ntmps58]
  repeat' (first | omega | ((first | refine awC_sound _ _ _ _ ?_ | skip); simp only [go_sem, sevalprocAttr, ↓reduceIte, reduceCtorEq]) | (refine gspDI ?_ ?_ <;> (intro _hh; (try simp only [_hh]); revert _hh)) | refine gspLI ?_ ?_ | refine condLI ?_ ?_ | refine gspI ?_ ?_ | refine And.intro ?_ ?_ | with_reducible intro _hh | trivial | (simp only [cl1, cl2, cl3, List.length_cons, List.length_nil, List.length_append]; omega))
  all_goals simp_all
  all_goals omega
theorem tmC_mem {p : List (Int × Int)} {x : AV} (h : x ∈ tmC p) : ∃ n, x = I n := by
  unfold tmC at h
  obtain ⟨t, _, ht⟩ := List.mem_flatMap.1 h
  simp only [List.mem_cons, List.not_mem_nil, or_false] at ht
  rcases ht with e | e <;> exact ⟨_, e⟩
theorem tmC_p1 (p : List (Int × Int)) : (tmC p).all p1 = true := List.all_eq_true.2 fun x hx => by obtain ⟨n, rfl⟩ := tmC_mem hx; rfl
theorem tmC_s3 (H : Hp) (p : List (Int × Int)) : (tmC p).all (s3 H) = true := List.all_eq_true.2 fun x hx => by obtain ⟨n, rfl⟩ := tmC_mem hx; rfl
theorem tmC_ok (p : List (Int × Int)) : (tmC p).all okCell = true := List.all_eq_true.2 fun x hx => by obtain ⟨n, rfl⟩ := tmC_mem hx; rfl
theorem tmC_cut (i : Nat) (p : List (Int × Int)) : (tmC p).map (cutV i) = tmC p := by
  conv => rhs; rw [← List.map_id (tmC p)]
  exact List.map_congr_left fun x hx => by obtain ⟨n, rfl⟩ := tmC_mem hx; rfl
theorem tmC_snap (H : Hp) (n : Nat) (p : List (Int × Int)) : (tmC p).map (snap H (n + 1)) = tmC p := pc_snap (tmC_p1 p) H n
theorem tmC_snapP (H : Hp) (n : Nat) (p : List (Int × Int)) : (∀ x ∈ tmC p, snapP H (n + 1) x) = True := pc_snapP (tmC_p1 p) H n
theorem tmC_frz (H : Hp) (n : Nat) (p : List (Int × Int)) : (tmC p).map (frzV H (n + 1)) = tmC p := pc_frz (tmC_p1 p) H n
theorem tmC_frzP (H : Hp) (n : Nat) (p : List (Int × Int)) : (∀ x ∈ tmC p, frzP H (n + 1) x) = True := pc_frzP (tmC_p1 p) H n
theorem tmC_snoc (p : List (Int × Int)) (e c : Int) : tmC p ++ [AV.int .i64 e, AV.int .i64 c] = tmC (p ++ [(e, c)]) := by simp [tmC]
attribute [go_sem] tmC_s3 tmC_ok tmC_cut tmC_snap tmC_snapP tmC_frz tmC_frzP tmC_len
theorem unl_lft (fr : Fr) : unl (lft fr) = fr := by
  induction fr with
  | nil => rfl
  | cons q r ih =>
    obtain ⟨t, x⟩ := q
    simp only [lft, unl]
    rw [if_pos (by omega), ih, Nat.add_sub_cancel]
theorem fcut_lft (i : Nat) (fr : Fr) : fcut i (lft fr) = lft (fcut i fr) := by
  induction fr with
  | nil => rfl
  | cons q r ih => obtain ⟨t, x⟩ := q; simp only [lft, fcut, ih]
attribute [go_sem] unl_lft fcut_lft
abbrev cmbH (g : Nat) (p q acc : List (Int × Int)) (fits : Bool) : Hp := [(6, .cells 4 (.lst [.bool fits])), (5, .cells 29 (.lst [.bool false, .sl 2 4 0 acc.length])), (4, .cells 65 (.lst (tmC acc))), (3, .cells 29 (.lst [.bool false, .nils])), (2, .cells 82 (.lst [.fn g []])), (1, .cells 29 (.lst [.bool false, tmA q])), (0, .cells 29 (.lst [.bool false, tmA p]))]
theorem call_put (fr : Fr) (K : AV → Fr → Hp → Prop) (g : Nat) (p q acc : List (Int × Int)) (fits : Bool) (e a b c : Int) (hg : Fn Tryz.prog g [I a, I b] (I c)) (hl : acc.length ≤ 1000000)
    (hk0 : c = 0 → K (.tup []) fr (cmbH g p q acc (fits && fitB c 1125899906842624))) (hk1 : c ≠ 0 → K (.tup []) (fcut 4 fr) [(4, .cells 65 (.lst (tmC (acc ++ [(e, c)])))), (7, .cells 65 (.lst [I e, I c])), (6, .cells 4 (.lst [.bool (fits && fitB c 1125899906842624)])), (5, .cells 29 (.lst [.bool false, .sl 2 4 0 (acc.length + 1)])), (3, .cells 29 (.lst [.bool false, .nils])), (2, .cells 82 (.lst [.fn g []])), (1, .cells 29 (.lst [.bool false, tmA q])), (0, .cells 29 (.lst [.bool false, tmA p]))]) : CallI Tryz.prog 85 [I e, I a, I b, .ptr 2 0, .ptr 6 0, .ptr 5 0] fr (cmbH g p q acc fits) K := by
  unfold cmbH at *
  have hw := fn_within c 1125899906842624 (by omega) (by omega)
  refine CallI.intro [] Tryz.func85 rfl rfl (by decide) (by simp [Tryz.ntmps85]) ?_; rw [Tryz.ntmps85]
  repeat' (first | omega | ((first | refine awC_sound _ _ _ _ ?_ | skip); simp only [go_sem, sevalprocAttr, ↓reduceIte, reduceCtorEq]) | (refine gspDI ?_ ?_ <;> (intro _hh; (try simp only [_hh]); revert _hh)) | refine gspLI ?_ ?_ | refine condLI ?_ ?_ | refine gspI ?_ ?_ | refine And.intro ?_ ?_ | with_reducible intro _hh | trivial | (simp only [cl1, cl2, cl3, List.length_cons, List.length_nil, List.length_append]; omega))
  refine ⟨CallB.fn rfl hg ?_⟩
  cases fits
  · repeat' (first | omega | ((first | refine awC_sound _ _ _ _ ?_ | skip); simp only [go_sem, sevalprocAttr, ↓reduceIte, reduceCtorEq]) | (refine gspDI ?_ ?_ <;> (intro _hh; (try simp only [_hh]); revert _hh)) | refine gspLI ?_ ?_ | refine condLI ?_ ?_ | refine gspI ?_ ?_ | refine And.intro ?_ ?_ | with_reducible intro _hh | trivial | (simp only [cl1, cl2, cl3, List.length_cons, List.length_nil, List.length_append]; omega))
    · rw [tmC_snoc]; exact hk1 (by assumption)
    · exact hk0 (by assumption)
  · repeat' (first | omega | ((first | refine awC_sound _ _ _ _ ?_ | skip); simp only [go_sem, sevalprocAttr, ↓reduceIte, reduceCtorEq]) | (refine gspDI ?_ ?_ <;> (intro _hh; (try simp only [_hh]); revert _hh)) | refine gspLI ?_ ?_ | refine condLI ?_ ?_ | refine gspI ?_ ?_ | refine And.intro ?_ ?_ | with_reducible intro _hh | trivial | (simp only [cl1, cl2, cl3, List.length_cons, List.length_nil, List.length_append]; omega))
    refine ⟨CallB.fn rfl hw ?_⟩
    repeat' (first | omega | ((first | refine awC_sound _ _ _ _ ?_ | skip); simp only [go_sem, sevalprocAttr, ↓reduceIte, reduceCtorEq]) | (refine gspDI ?_ ?_ <;> (intro _hh; (try simp only [_hh]); revert _hh)) | refine gspLI ?_ ?_ | refine condLI ?_ ?_ | refine gspI ?_ ?_ | refine And.intro ?_ ?_ | with_reducible intro _hh | trivial | (simp only [cl1, cl2, cl3, List.length_cons, List.length_nil, List.length_append]; omega))
    · rw [tmC_snoc]; exact hk1 (by assumption)
    · exact hk0 (by assumption)
theorem cfits_get {p : List (Int × Int)} (h : cfits p) {i : Nat} (hi : i < p.length) : -1125899906842624 ≤ (p.getD i (0, 0)).2 ∧ (p.getD i (0, 0)).2 ≤ 1125899906842624 := h _ (by simp [hi])
theorem mrg_p {f : Int → Int → Int} {p q : List (Int × Int)} {i j : Nat} (hi : i < p.length) (h : j = q.length ∨ (p.getD i (0, 0)).1 < (q.getD j (0, 0)).1) (hj : j ≤ q.length) : mrg f (p.drop i) (q.drop j) = ((p.getD i (0, 0)).1, f (p.getD i (0, 0)).2 0) :: mrg f (p.drop (i + 1)) (q.drop j) := by
  rw [List.drop_eq_getElem_cons hi]
  have e : p.getD i (0, 0) = p[i] := by simp [hi]
  rw [e] at h ⊢
  rcases Nat.lt_or_ge j q.length with g | g
  · rw [List.drop_eq_getElem_cons g]
    have e2 : q.getD j (0, 0) = q[j] := by simp [g]
    rw [e2] at h
    conv => lhs; unfold mrg
    rw [if_pos (by omega)]
  · rw [List.drop_of_length_le g]
    conv => lhs; unfold mrg
theorem mrg_q {f : Int → Int → Int} {p q : List (Int × Int)} {i j : Nat} (hj : j < q.length) (h : i = p.length ∨ (q.getD j (0, 0)).1 < (p.getD i (0, 0)).1) (hi : i ≤ p.length) : mrg f (p.drop i) (q.drop j) = ((q.getD j (0, 0)).1, f 0 (q.getD j (0, 0)).2) :: mrg f (p.drop i) (q.drop (j + 1)) := by
  rw [List.drop_eq_getElem_cons hj]
  have e : q.getD j (0, 0) = q[j] := by simp [hj]
  rw [e] at h ⊢
  rcases Nat.lt_or_ge i p.length with g | g
  · rw [List.drop_eq_getElem_cons g]
    have e2 : p.getD i (0, 0) = p[i] := by simp [g]
    rw [e2] at h
    conv => lhs; unfold mrg
    rw [if_neg (by omega), if_pos (by omega)]
  · rw [List.drop_of_length_le g]
    conv => lhs; unfold mrg
theorem mrg_pq {f : Int → Int → Int} {p q : List (Int × Int)} {i j : Nat} (hi : i < p.length) (hj : j < q.length) (h : (q.getD j (0, 0)).1 = (p.getD i (0, 0)).1) : mrg f (p.drop i) (q.drop j) = ((p.getD i (0, 0)).1, f (p.getD i (0, 0)).2 (q.getD j (0, 0)).2) :: mrg f (p.drop (i + 1)) (q.drop (j + 1)) := by
  rw [List.drop_eq_getElem_cons hi, List.drop_eq_getElem_cons hj]
  have e : p.getD i (0, 0) = p[i] := by simp [hi]
  have e2 : q.getD j (0, 0) = q[j] := by simp [hj]
  rw [e, e2] at h ⊢
  conv => lhs; unfold mrg
  rw [if_neg (by omega), if_neg (by omega)]
theorem nz_snoc0 {c e : Int} (l : List (Int × Int)) (h : c = 0) : nz (l ++ [(e, c)]) = nz l := by unfold nz; rw [List.filter_append]; simp [h]
theorem nz_snoc1 {c e : Int} (l : List (Int × Int)) (h : c ≠ 0) : nz (l ++ [(e, c)]) = nz l ++ [(e, c)] := by unfold nz; rw [List.filter_append]; simp [h]
theorem cmbOk_snoc (l : List (Int × Int)) (e c : Int) : cmbOk (l ++ [(e, c)]) = (cmbOk l && fitB c 1125899906842624) := by unfold cmbOk; simp
end Go.Proofs.YtalmkaiiffodnaaGreatDoor
