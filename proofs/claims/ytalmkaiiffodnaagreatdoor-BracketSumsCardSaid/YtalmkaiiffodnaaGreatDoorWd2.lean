/- Layer 12: integers of 128 bits: products, and back to 64 bits. -/
import Derived.Test.YtalmkaiiffodnaaGreatDoorWd1
import Derived.Test.YtalmkaiiffodnaaGreatDoorGd
set_option linter.unusedSimpArgs false
set_option linter.unusedVariables false
namespace Go.Proofs.YtalmkaiiffodnaaGreatDoor
open Go Go.RowKit
set_option maxHeartbeats 4000000
set_option maxRecDepth 100000
theorem fn_mag (x : Int) (h0 : -4611686018427387904 ≤ x) (h1 : x ≤ 4611686018427387904) : Fn Tryz.prog 97 [I x] (.int .u64 (if x < 0 then -x else x)) := by
  by_cases h : x < 0
  · have b0 : decide (x < 0) = true := by simpa using h
    have e1 : IntKind.u64.wrap (0 - IntKind.u64.wrap x) = -x := by rw [IntKind.wrap_u64, IntKind.wrap_u64]; omega
    rw [if_pos h]
    refine Fn.intro [.tmp 2] Tryz.func97 rfl rfl (by decide) (by simp [Tryz.ntmps97]) ?_; rw [Tryz.ntmps97]
    repeat' (first | omega | ((first | refine awC_sound _ _ _ _ ?_ | skip); simp only [go_sem, sevalprocAttr, ↓reduceIte, reduceCtorEq, b0, e1]) | (refine gspDI ?_ ?_ <;> (intro _hh; (try simp only [_hh]); revert _hh)) | refine gspLI ?_ ?_ | refine condLI ?_ ?_ | refine gspI ?_ ?_ | refine And.intro ?_ ?_ | with_reducible intro _hh | trivial | (simp only [cl1, cl2, cl3, List.length_cons, List.length_nil, List.length_append]; omega))
  · have b0 : decide (x < 0) = false := by simpa using h
    have e1 : IntKind.u64.wrap x = x := by rw [IntKind.wrap_u64]; omega
    rw [if_neg h]
    refine Fn.intro [.tmp 2] Tryz.func97 rfl rfl (by decide) (by simp [Tryz.ntmps97]) ?_; rw [Tryz.ntmps97]
    repeat' (first | omega | ((first | refine awC_sound _ _ _ _ ?_ | skip); simp only [go_sem, sevalprocAttr, ↓reduceIte, reduceCtorEq, b0, e1]) | (refine gspDI ?_ ?_ <;> (intro _hh; (try simp only [_hh]); revert _hh)) | refine gspLI ?_ ?_ | refine condLI ?_ ?_ | refine gspI ?_ ?_ | refine And.intro ?_ ?_ | with_reducible intro _hh | trivial | (simp only [cl1, cl2, cl3, List.length_cons, List.length_nil, List.length_append]; omega))
theorem fn_Mul64 (a b : Nat) (ha : a < 18446744073709551616) (hb : b < 18446744073709551616) : Fn Tryz.prog 96 [.int .u64 a, .int .u64 b] (.tup [.int .u64 ((a * b / 18446744073709551616 : Nat) : Int), .int .u64 ((a * b % 18446744073709551616 : Nat) : Int)]) := by
  refine ⟨⟨_, Tryz.func96, rfl, by decide⟩, fun w Mx vs hMx hl hv => ?_⟩
  match vs, hl, hv with
  | [v0, v1], _, hv =>
    have e0 := (hv 0 v0 _ rfl rfl).int_inv
    have e1 := (hv 1 v1 _ rfl rfl).int_inv
    subst e0 e1
    refine (Tryz.bits_Mul64 a b ha hb w).mono ?_
    rintro e w' ⟨rfl, rfl⟩
    refine ⟨_, rfl, Below.refl _ _, .tup [.int .u64 _, .int .u64 _] _ rfl fun i u x hu hx => ?_⟩
    match i, hu, hx with
    | 0, hu, hx => cases hu; cases hx; exact .int _ _
    | 1, hu, hx => cases hu; cases hx; exact .int _ _
theorem fn_product (x y : Int) (h0 : -4611686018427387904 ≤ x) (h1 : x ≤ 4611686018427387904) (h2 : -4611686018427387904 ≤ y) (h3 : y ≤ 4611686018427387904) : Fn Tryz.prog 82 [I x, I y] (wdA (x * y)) := by
  have m1 := fn_mag x h0 h1
  have m2 := fn_mag y h2 h3
  obtain ⟨a, ha⟩ : ∃ a : Nat, (if x < 0 then -x else x) = a := ⟨(if x < 0 then -x else x).toNat, by split <;> omega⟩
  obtain ⟨b, hb⟩ : ∃ b : Nat, (if y < 0 then -y else y) = b := ⟨(if y < 0 then -y else y).toNat, by split <;> omega⟩
  rw [ha] at m1
  rw [hb] at m2
  have hab : a ≤ 4611686018427387904 := by split at ha <;> omega
  have hbb : b ≤ 4611686018427387904 := by split at hb <;> omega
  have hM := fn_Mul64 a b (by omega) (by omega)
  have hpb : a * b ≤ 4611686018427387904 * 4611686018427387904 := Nat.mul_le_mul hab hbb
  have e1 : ((a * b / 18446744073709551616 : Nat) : Int) = ((a * b : Nat) : Int) / 18446744073709551616 % 18446744073709551616 := by omega
  have e2 : ((a * b % 18446744073709551616 : Nat) : Int) = ((a * b : Nat) : Int) % 18446744073709551616 := by omega
  rw [e1, e2] at hM
  have hN := fn_wneg ((a * b : Nat) : Int)
  have hxy : x * y = if decide (x < 0) = decide (y < 0) then ((a * b : Nat) : Int) else -((a * b : Nat) : Int) := by
    rw [Int.natCast_mul, ← ha, ← hb]
    by_cases c1 : x < 0 <;> by_cases c2 : y < 0 <;> simp [c1, c2, Int.neg_mul, Int.mul_neg]
  obtain ⟨p, hp⟩ : ∃ p : Int, p = ((a * b : Nat) : Int) := ⟨_, rfl⟩
  rw [← hp] at hM hN hxy
  clear e1 e2
  by_cases hc : decide (x < 0) = decide (y < 0)
  · rw [if_pos hc] at hxy
    have b0 : (decide (x < 0) != decide (y < 0)) = false := by rw [hc]; simp
    rw [hxy]
    refine Fn.introL [.cell 4 95] Tryz.func82 rfl rfl (by decide) (by simp [Tryz.ntmps82]) ?_; rw [Tryz.ntmps82]
    repeat' (first | omega | ((first | refine awC_sound _ _ _ _ ?_ | skip); simp only [go_sem, sevalprocAttr, ↓reduceIte, reduceCtorEq]) | (refine gspDI ?_ ?_ <;> (intro _hh; (try simp only [_hh]); revert _hh)) | refine gspLI ?_ ?_ | refine condLI ?_ ?_ | refine gspI ?_ ?_ | refine And.intro ?_ ?_ | with_reducible intro _hh | trivial | (simp only [cl1, cl2, cl3, List.length_cons, List.length_nil, List.length_append]; omega))
    refine ⟨CallB.fn rfl m1 ?_⟩
    repeat' (first | omega | ((first | refine awC_sound _ _ _ _ ?_ | skip); simp only [go_sem, sevalprocAttr, ↓reduceIte, reduceCtorEq]) | (refine gspDI ?_ ?_ <;> (intro _hh; (try simp only [_hh]); revert _hh)) | refine gspLI ?_ ?_ | refine condLI ?_ ?_ | refine gspI ?_ ?_ | refine And.intro ?_ ?_ | with_reducible intro _hh | trivial | (simp only [cl1, cl2, cl3, List.length_cons, List.length_nil, List.length_append]; omega))
    refine ⟨CallB.fn rfl m2 ?_⟩
    repeat' (first | omega | ((first | refine awC_sound _ _ _ _ ?_ | skip); simp only [go_sem, sevalprocAttr, ↓reduceIte, reduceCtorEq]) | (refine gspDI ?_ ?_ <;> (intro _hh; (try simp only [_hh]); revert _hh)) | refine gspLI ?_ ?_ | refine condLI ?_ ?_ | refine gspI ?_ ?_ | refine And.intro ?_ ?_ | with_reducible intro _hh | trivial | (simp only [cl1, cl2, cl3, List.length_cons, List.length_nil, List.length_append]; omega))
    refine ⟨CallB.fn rfl hM ?_⟩
    repeat' (first | omega | ((first | refine awC_sound _ _ _ _ ?_ | skip); simp only [go_sem, sevalprocAttr, ↓reduceIte, reduceCtorEq, b0]) | (refine gspDI ?_ ?_ <;> (intro _hh; (try simp only [_hh]); revert _hh)) | refine gspLI ?_ ?_ | refine condLI ?_ ?_ | refine gspI ?_ ?_ | refine And.intro ?_ ?_ | with_reducible intro _hh | trivial | (simp only [cl1, cl2, cl3, List.length_cons, List.length_nil, List.length_append]; omega))
    all_goals exact LeA.refl _
  · rw [if_neg hc] at hxy
    have b0 : (decide (x < 0) != decide (y < 0)) = true := by simpa [bne] using hc
    rw [hxy]
    refine Fn.introL [.cell 4 95] Tryz.func82 rfl rfl (by decide) (by simp [Tryz.ntmps82]) ?_; rw [Tryz.ntmps82]
    repeat' (first | omega | ((first | refine awC_sound _ _ _ _ ?_ | skip); simp only [go_sem, sevalprocAttr, ↓reduceIte, reduceCtorEq]) | (refine gspDI ?_ ?_ <;> (intro _hh; (try simp only [_hh]); revert _hh)) | refine gspLI ?_ ?_ | refine condLI ?_ ?_ | refine gspI ?_ ?_ | refine And.intro ?_ ?_ | with_reducible intro _hh | trivial | (simp only [cl1, cl2, cl3, List.length_cons, List.length_nil, List.length_append]; omega))
    refine ⟨CallB.fn rfl m1 ?_⟩
    repeat' (first | omega | ((first | refine awC_sound _ _ _ _ ?_ | skip); simp only [go_sem, sevalprocAttr, ↓reduceIte, reduceCtorEq]) | (refine gspDI ?_ ?_ <;> (intro _hh; (try simp only [_hh]); revert _hh)) | refine gspLI ?_ ?_ | refine condLI ?_ ?_ | refine gspI ?_ ?_ | refine And.intro ?_ ?_ | with_reducible intro _hh | trivial | (simp only [cl1, cl2, cl3, List.length_cons, List.length_nil, List.length_append]; omega))
    refine ⟨CallB.fn rfl m2 ?_⟩
    repeat' (first | omega | ((first | refine awC_sound _ _ _ _ ?_ | skip); simp only [go_sem, sevalprocAttr, ↓reduceIte, reduceCtorEq]) | (refine gspDI ?_ ?_ <;> (intro _hh; (try simp only [_hh]); revert _hh)) | refine gspLI ?_ ?_ | refine condLI ?_ ?_ | refine gspI ?_ ?_ | refine And.intro ?_ ?_ | with_reducible intro _hh | trivial | (simp only [cl1, cl2, cl3, List.length_cons, List.length_nil, List.length_append]; omega))
    refine ⟨CallB.fn rfl hM ?_⟩
    repeat' (first | omega | ((first | refine awC_sound _ _ _ _ ?_ | skip); simp only [go_sem, sevalprocAttr, ↓reduceIte, reduceCtorEq, b0]) | (refine gspDI ?_ ?_ <;> (intro _hh; (try simp only [_hh]); revert _hh)) | refine gspLI ?_ ?_ | refine condLI ?_ ?_ | refine gspI ?_ ?_ | refine And.intro ?_ ?_ | with_reducible intro _hh | trivial | (simp only [cl1, cl2, cl3, List.length_cons, List.length_nil, List.length_append]; omega))
    refine ⟨CallB.fn rfl hN ?_⟩
    repeat' (first | omega | ((first | refine awC_sound _ _ _ _ ?_ | skip); simp only [go_sem, sevalprocAttr, ↓reduceIte, reduceCtorEq]) | (refine gspDI ?_ ?_ <;> (intro _hh; (try simp only [_hh]); revert _hh)) | refine gspLI ?_ ?_ | refine condLI ?_ ?_ | refine gspI ?_ ?_ | refine And.intro ?_ ?_ | with_reducible intro _hh | trivial | (simp only [cl1, cl2, cl3, List.length_cons, List.length_nil, List.length_append]; omega))
    all_goals exact LeA.refl _
theorem fn_split (z : Int) (h0 : -170141183460469231731687303715884105728 ≤ z) (h1 : z < 170141183460469231731687303715884105728) : Fn Tryz.prog 84 [wdA z] (.tup [wdA (if z < 0 then -z else z), .bool (decide (z < 0))]) := by
  have hN := fn_wneg z
  by_cases h : z < 0
  · have b0 : (z / 18446744073709551616 % 18446744073709551616 / 2 ^ (63 : Int).toNat == 1) = true := by
      rw [show (2 : Int) ^ (63 : Int).toNat = 9223372036854775808 by decide, beq_iff_eq]; omega
    have b1 : decide (z < 0) = true := by simpa using h
    rw [if_pos h, b1]
    refine Fn.introL [.cell 2 95, .tmp 3] Tryz.func84 rfl rfl (by decide) (by simp [Tryz.ntmps84]) ?_; rw [Tryz.ntmps84]
    repeat' (first | omega | ((first | refine awC_sound _ _ _ _ ?_ | skip); simp only [go_sem, sevalprocAttr, ↓reduceIte, reduceCtorEq, b0]) | (refine gspDI ?_ ?_ <;> (intro _hh; (try simp only [_hh]); revert _hh)) | refine gspLI ?_ ?_ | refine condLI ?_ ?_ | refine gspI ?_ ?_ | refine And.intro ?_ ?_ | with_reducible intro _hh | trivial | (simp only [cl1, cl2, cl3, List.length_cons, List.length_nil, List.length_append]; omega))
    refine ⟨CallB.fn rfl hN ?_⟩
    repeat' (first | omega | ((first | refine awC_sound _ _ _ _ ?_ | skip); simp only [go_sem, sevalprocAttr, ↓reduceIte, reduceCtorEq]) | (refine gspDI ?_ ?_ <;> (intro _hh; (try simp only [_hh]); revert _hh)) | refine gspLI ?_ ?_ | refine condLI ?_ ?_ | refine gspI ?_ ?_ | refine And.intro ?_ ?_ | with_reducible intro _hh | trivial | (simp only [cl1, cl2, cl3, List.length_cons, List.length_nil, List.length_append]; omega))
    all_goals exact LeA.refl _
  · have b0 : (z / 18446744073709551616 % 18446744073709551616 / 2 ^ (63 : Int).toNat == 1) = false := by
      rw [show (2 : Int) ^ (63 : Int).toNat = 9223372036854775808 by decide, beq_eq_false_iff_ne]; omega
    have b1 : decide (z < 0) = false := by simpa using h
    rw [if_neg h, b1]
    refine Fn.introL [.cell 2 95, .tmp 3] Tryz.func84 rfl rfl (by decide) (by simp [Tryz.ntmps84]) ?_; rw [Tryz.ntmps84]
    repeat' (first | omega | ((first | refine awC_sound _ _ _ _ ?_ | skip); simp only [go_sem, sevalprocAttr, ↓reduceIte, reduceCtorEq, b0]) | (refine gspDI ?_ ?_ <;> (intro _hh; (try simp only [_hh]); revert _hh)) | refine gspLI ?_ ?_ | refine condLI ?_ ?_ | refine gspI ?_ ?_ | refine And.intro ?_ ?_ | with_reducible intro _hh | trivial | (simp only [cl1, cl2, cl3, List.length_cons, List.length_nil, List.length_append]; omega))
    all_goals exact LeA.refl _
theorem fn_small (z : Int) (h0 : -1125899906842624 ≤ z) (h1 : z ≤ 1125899906842624) : Fn Tryz.prog 63 [wdA z] (.tup [I z, .bool true]) := by
  have hS := fn_split z (by omega) (by omega)
  have b0 : ((if z < 0 then -z else z) / 18446744073709551616 % 18446744073709551616 != 0) = false := by
    simp only [bne_eq_false_iff_eq]; split <;> omega
  have e1 : (if z < 0 then -z else z) % 18446744073709551616 = if z < 0 then -z else z := by split <;> omega
  obtain ⟨u, hu⟩ : ∃ u, u = (if z < 0 then -z else z) := ⟨_, rfl⟩
  rw [← hu] at hS b0 e1
  have u0 : 0 ≤ u ∧ u ≤ 1125899906842624 := by rw [hu]; split <;> omega
  have b1 : decide (1125899906842624 < u) = false := by simp; omega
  have e2 : IntKind.i64.wrap u = u := wrap_InI (by unfold InI; omega)
  by_cases h : z < 0
  · have b2 : decide (z < 0) = true := by simpa using h
    rw [b2] at hS
    have e3 : 0 - u = z := by rw [hu, if_pos h]; omega
    refine Fn.introL [.tmp 2, .tmp 3] Tryz.func63 rfl rfl (by decide) (by simp [Tryz.ntmps63]) ?_; rw [Tryz.ntmps63]
    repeat' (first | omega | ((first | refine awC_sound _ _ _ _ ?_ | skip); simp only [go_sem, sevalprocAttr, ↓reduceIte, reduceCtorEq]) | (refine gspDI ?_ ?_ <;> (intro _hh; (try simp only [_hh]); revert _hh)) | refine gspLI ?_ ?_ | refine condLI ?_ ?_ | refine gspI ?_ ?_ | refine And.intro ?_ ?_ | with_reducible intro _hh | trivial | (simp only [cl1, cl2, cl3, List.length_cons, List.length_nil, List.length_append]; omega))
    refine ⟨CallB.fn rfl hS ?_⟩
    repeat' (first | omega | ((first | refine awC_sound _ _ _ _ ?_ | skip); simp only [go_sem, sevalprocAttr, ↓reduceIte, reduceCtorEq, b0, b1, e1, e2]) | (refine gspDI ?_ ?_ <;> (intro _hh; (try simp only [_hh]); revert _hh)) | refine gspLI ?_ ?_ | refine condLI ?_ ?_ | refine gspI ?_ ?_ | refine And.intro ?_ ?_ | with_reducible intro _hh | trivial | (simp only [cl1, cl2, cl3, List.length_cons, List.length_nil, List.length_append]; omega))
    all_goals (first | omega | exact LeA.of (by rw [e3]))
  · have b2 : decide (z < 0) = false := by simpa using h
    rw [b2] at hS
    have e3 : u = z := by rw [hu, if_neg h]
    refine Fn.introL [.tmp 2, .tmp 3] Tryz.func63 rfl rfl (by decide) (by simp [Tryz.ntmps63]) ?_; rw [Tryz.ntmps63]
    repeat' (first | omega | ((first | refine awC_sound _ _ _ _ ?_ | skip); simp only [go_sem, sevalprocAttr, ↓reduceIte, reduceCtorEq]) | (refine gspDI ?_ ?_ <;> (intro _hh; (try simp only [_hh]); revert _hh)) | refine gspLI ?_ ?_ | refine condLI ?_ ?_ | refine gspI ?_ ?_ | refine And.intro ?_ ?_ | with_reducible intro _hh | trivial | (simp only [cl1, cl2, cl3, List.length_cons, List.length_nil, List.length_append]; omega))
    refine ⟨CallB.fn rfl hS ?_⟩
    repeat' (first | omega | ((first | refine awC_sound _ _ _ _ ?_ | skip); simp only [go_sem, sevalprocAttr, ↓reduceIte, reduceCtorEq, b0, b1, e1, e2]) | (refine gspDI ?_ ?_ <;> (intro _hh; (try simp only [_hh]); revert _hh)) | refine gspLI ?_ ?_ | refine condLI ?_ ?_ | refine gspI ?_ ?_ | refine And.intro ?_ ?_ | with_reducible intro _hh | trivial | (simp only [cl1, cl2, cl3, List.length_cons, List.length_nil, List.length_append]; omega))
    all_goals (first | omega | exact LeA.of (by rw [e3]))
end Go.Proofs.YtalmkaiiffodnaaGreatDoor
