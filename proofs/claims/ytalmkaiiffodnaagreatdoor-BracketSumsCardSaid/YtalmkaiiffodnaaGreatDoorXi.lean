/- The reference of layer 12: wide numbers. -/
import Derived.Test.YtalmkaiiffodnaaGreatDoorGd
import Derived.Test.YtalmkaiiffodnaaGreatDoorXf
set_option linter.unusedSimpArgs false
set_option linter.unusedVariables false
namespace Go.Proofs.YtalmkaiiffodnaaGreatDoor
open Go Go.RowKit
set_option maxRecDepth 100000
set_option maxHeartbeats 8000000
abbrev qwA (z : Int) : AV := .agg [I (z / 1125899906842624), I (z % 1125899906842624)]
attribute [go_sem] qwA
abbrev qwO (h l : Int) : AObj := .cells 108 (.lst [I h, I l])
theorem fn_norm (h l : Int) (h0 : -4611686018427387904 ≤ h ∧ h ≤ 4611686018427387904) (l0 : -1125899906842624 ≤ l ∧ l ≤ 4503599627370496) : Fn Tryz.prog 91 [.agg [I h, I l]] (qwA (h * 1125899906842624 + l)) := by
  refine Fn.introL [.cell 2 108] Tryz.func91 rfl rfl (by decide) (by simp [Tryz.ntmps91]) ?_; rw [Tryz.ntmps91]
  repeat' (first | omega | ((first | refine awC_sound _ _ _ _ ?_ | skip); simp only [go_sem, sevalprocAttr, ↓reduceIte, reduceCtorEq]) | (refine gspDI ?_ ?_ <;> (intro _hh; (try simp only [_hh]); revert _hh)) | refine gspLI ?_ ?_ | refine condLI ?_ ?_ | refine gspI ?_ ?_ | refine And.intro ?_ ?_ | with_reducible intro _hh | trivial | (simp only [cl1, cl2, cl3, List.length_cons, List.length_nil, List.length_append]; omega))
  refine LoopA.intro (fun n fr H => ∃ h' l' : Int, h' * 1125899906842624 + l' = h * 1125899906842624 + l ∧ -4611686018427387905 ≤ h' ∧ h' ≤ 4611686018427387904 ∧ -1125899906842624 ≤ l' ∧ l' ≤ 4503599627370496 ∧ n = (if l' < 0 then 1 else 0) ∧ fr = [(2, .ptr 1 0), (1, .ptr 0 0)] ∧ H = [(1, qwO 0 0), (0, qwO h' l')]) ?_ ?_
  · refine ⟨_, _, _, ?_, h, l, rfl, by omega, by omega, by omega, by omega, rfl, rfl, rfl⟩
    refine Wk.sub ?_ ?_ <;> simp only [go_sem, sevalprocAttr, ↓reduceIte, reduceCtorEq]
  rintro n fr H ⟨h', l', e, h1, h2, l1, l2, rfl, rfl, rfl⟩
  by_cases hl : l' < 0
  · have b0 : decide (l' < 0) = true := by simpa using hl
    repeat' (first | omega | ((first | refine awC_sound _ _ _ _ ?_ | skip); simp only [go_sem, sevalprocAttr, ↓reduceIte, reduceCtorEq, b0]) | (refine gspDI ?_ ?_ <;> (intro _hh; (try simp only [_hh]); revert _hh)) | refine gspLI ?_ ?_ | refine condLI ?_ ?_ | refine gspI ?_ ?_ | refine And.intro ?_ ?_ | with_reducible intro _hh | trivial | (simp only [cl1, cl2, cl3, List.length_cons, List.length_nil, List.length_append]; omega))
    refine ⟨_, _, _, ?_, ?_, h' - 1, l' + 1125899906842624, by omega, by omega, by omega, by omega, by omega, rfl, rfl, rfl⟩
    · rw [if_pos hl, if_neg (by omega)]; omega
    · refine Wk.sub ?_ ?_ <;> simp only [go_sem, sevalprocAttr, ↓reduceIte, reduceCtorEq]
  · have b0 : decide (l' < 0) = false := by simpa using hl
    have t1 := tdiv_nn (a := l') (b := 1125899906842624) (by omega)
    have t2 := tmod_nn (a := l') (b := 1125899906842624) (by omega)
    repeat' (first | omega | ((first | refine awC_sound _ _ _ _ ?_ | skip); simp only [go_sem, sevalprocAttr, ↓reduceIte, reduceCtorEq, b0, t1, t2]) | (refine gspDI ?_ ?_ <;> (intro _hh; (try simp only [_hh]); revert _hh)) | refine gspLI ?_ ?_ | refine condLI ?_ ?_ | refine gspI ?_ ?_ | refine And.intro ?_ ?_ | with_reducible intro _hh | trivial | (simp only [cl1, cl2, cl3, List.length_cons, List.length_nil, List.length_append]; omega))
    all_goals exact LeA.of (by congr 3 <;> first | (congr 1; omega) | skip)
theorem fn_qplus (x y : Int) (hx : -2596148429267413814265248164610048 ≤ x ∧ x ≤ 2596148429267413814265248164610048) (hy : -2596148429267413814265248164610048 ≤ y ∧ y ≤ 2596148429267413814265248164610048) :
    Fn Tryz.prog 90 [qwA x, qwA y] (qwA (x + y)) := by
  have hN := fn_norm (x / 1125899906842624 + y / 1125899906842624) (x % 1125899906842624 + y % 1125899906842624) (by omega) (by omega)
  rw [show (x / 1125899906842624 + y / 1125899906842624) * 1125899906842624 + (x % 1125899906842624 + y % 1125899906842624) = x + y by omega] at hN
  have r1 : -2305843009213693952 ≤ x / 1125899906842624 ∧ x / 1125899906842624 ≤ 2305843009213693952 := by omega
  have r2 : -2305843009213693952 ≤ y / 1125899906842624 ∧ y / 1125899906842624 ≤ 2305843009213693952 := by omega
  refine Fn.introL [.cell 4 108] Tryz.func90 rfl rfl (by decide) (by simp [Tryz.ntmps90]) ?_; rw [Tryz.ntmps90]
  repeat' (first | omega | ((first | refine awC_sound _ _ _ _ ?_ | skip); simp only [go_sem, sevalprocAttr, ↓reduceIte, reduceCtorEq]) | (refine gspDI ?_ ?_ <;> (intro _hh; (try simp only [_hh]); revert _hh)) | refine gspLI ?_ ?_ | refine condLI ?_ ?_ | refine gspI ?_ ?_ | refine And.intro ?_ ?_ | with_reducible intro _hh | trivial | (simp only [cl1, cl2, cl3, List.length_cons, List.length_nil, List.length_append]; omega))
  refine ⟨CallB.fn rfl hN ?_⟩
  repeat' (first | omega | ((first | refine awC_sound _ _ _ _ ?_ | skip); simp only [go_sem, sevalprocAttr, ↓reduceIte, reduceCtorEq]) | (refine gspDI ?_ ?_ <;> (intro _hh; (try simp only [_hh]); revert _hh)) | refine gspLI ?_ ?_ | refine condLI ?_ ?_ | refine gspI ?_ ?_ | refine And.intro ?_ ?_ | with_reducible intro _hh | trivial | (simp only [cl1, cl2, cl3, List.length_cons, List.length_nil, List.length_append]; omega))
  all_goals exact LeA.refl _
theorem fn_qsmall (z : Int) (h0 : -1125899906842624 ≤ z ∧ z ≤ 1125899906842624) : Fn Tryz.prog 92 [qwA z] (.tup [I z, .bool true]) := by
  have b0 : decide (z / 1125899906842624 < -2) = false := by simp; omega
  have b1 : decide (2 < z / 1125899906842624) = false := by simp; omega
  have e : z / 1125899906842624 * 1125899906842624 + z % 1125899906842624 = z := by omega
  have b2 : decide (-1125899906842624 ≤ z) = true := by simp; omega
  have b3 : decide (z ≤ 1125899906842624) = true := by simp; omega
  refine Fn.introL [.tmp 2, .tmp 3] Tryz.func92 rfl rfl (by decide) (by simp [Tryz.ntmps92]) ?_; rw [Tryz.ntmps92]
  repeat' (first | omega | ((first | refine awC_sound _ _ _ _ ?_ | skip); simp only [go_sem, sevalprocAttr, ↓reduceIte, reduceCtorEq, b0, b1, e, b2, b3]) | (refine gspDI ?_ ?_ <;> (intro _hh; (try simp only [_hh]); revert _hh)) | refine gspLI ?_ ?_ | refine condLI ?_ ?_ | refine gspI ?_ ?_ | refine And.intro ?_ ?_ | with_reducible intro _hh | trivial | (simp only [cl1, cl2, cl3, List.length_cons, List.length_nil, List.length_append]; omega))
  all_goals exact LeA.refl _
end Go.Proofs.YtalmkaiiffodnaaGreatDoor

/- The reference of layer 12: the product of two numbers. -/
set_option linter.unusedSimpArgs false
set_option linter.unusedVariables false
namespace Go.Proofs.YtalmkaiiffodnaaGreatDoor
open Go Go.RowKit
set_option maxRecDepth 100000
set_option maxHeartbeats 8000000
theorem mul_bnd {d b D B : Int} (h0 : 0 ≤ d) (h1 : d ≤ D) (h2 : -B ≤ b) (h3 : b ≤ B) : -(D * B) ≤ d * b ∧ d * b ≤ D * B := by
  have hB : 0 ≤ B := by omega
  have a1 := Int.mul_le_mul_of_nonneg_left h3 h0
  have a2 := Int.mul_le_mul_of_nonneg_left h2 h0
  have a3 := Int.mul_le_mul_of_nonneg_right h1 hB
  rw [Int.mul_neg] at a2
  omega
theorem dig_step (A i : Nat) (sg b : Int) : sg * ((A % 2 ^ (10 * i) : Nat) : Int) * b + sg * ((A / 2 ^ (10 * i) % 1024 : Nat) : Int) * b * 2 ^ (10 * i) = sg * ((A % 2 ^ (10 * (i + 1)) : Nat) : Int) * b := by
  have e : A % 2 ^ (10 * (i + 1)) = A % 2 ^ (10 * i) + 2 ^ (10 * i) * (A / 2 ^ (10 * i) % 1024) := by
    rw [show 10 * (i + 1) = 10 * i + 10 by omega, Nat.pow_add, Nat.mod_mul]
  rw [e, Int.natCast_add, Int.natCast_mul, Int.mul_add, Int.add_mul]
  have hc : ((2 ^ (10 * i) : Nat) : Int) = 2 ^ (10 * i) := by simp
  rw [hc]
  generalize (2 : Int) ^ (10 * i) = Q
  generalize ((A / 2 ^ (10 * i) % 1024 : Nat) : Int) = d
  congr 1
  rw [Int.mul_assoc sg d b, Int.mul_assoc sg (d * b) Q, Int.mul_assoc sg (Q * d) b, Int.mul_comm Q d, Int.mul_assoc d b Q, Int.mul_assoc d Q b, Int.mul_comm b Q]
theorem pow_bnd (p : Int) (k : Nat) (hk : k ≤ 50) (hp : -2305843009213693952 ≤ p ∧ p ≤ 2305843009213693952) : -2596148429267413814265248164610048 ≤ p * 2 ^ k ∧ p * 2 ^ k ≤ 2596148429267413814265248164610048 := by
  have h1 : 2 ^ k ≤ 1125899906842624 := Nat.le_trans (Nat.pow_le_pow_right (by omega) hk) (by decide : 2 ^ 50 ≤ 1125899906842624)
  have h2 : ((2 ^ k : Nat) : Int) = 2 ^ k := by simp
  generalize 2 ^ k = q at h1 h2
  have := mul_bnd (d := (q : Int)) (D := 1125899906842624) (by omega) (by omega) hp.1 hp.2
  rw [← h2, Int.mul_comm p]
  omega
theorem fn_qproduct (a b : Int) (ha : -2251799813685248 ≤ a ∧ a ≤ 2251799813685248) (hb : -2251799813685248 ≤ b ∧ b ≤ 2251799813685248) : Fn Tryz.prog 71 [I a, I b] (qwA (a * b)) := by
  obtain ⟨A, sg, hsg⟩ : ∃ (A : Nat) (sg : Int), (decide (a < 0) = true ∧ sg = -1 ∧ 0 - a = A) ∨ (decide (a < 0) = false ∧ sg = 1 ∧ a = A) := by
    by_cases h : a < 0
    · exact ⟨(-a).toNat, -1, .inl ⟨by simpa using h, rfl, by omega⟩⟩
    · exact ⟨a.toNat, 1, .inr ⟨by simpa using h, rfl, by omega⟩⟩
  have hA : A ≤ 2251799813685248 := by omega
  have hsA : sg * A = a := by rcases hsg with ⟨_, rfl, h⟩ | ⟨_, rfl, h⟩ <;> omega
  have hfin : A % 2 ^ (10 * 6) = A := Nat.mod_eq_of_lt (Nat.lt_of_le_of_lt hA (by decide))
  have hs1 : sg = 1 ∨ sg = -1 := by omega
  refine Fn.introL [.cell 4 108] Tryz.func71 rfl rfl (by decide) (by simp [Tryz.ntmps71]) ?_; rw [Tryz.ntmps71]
  rcases hsg with ⟨b0, hs, hn⟩ | ⟨b0, hs, hn⟩
  case' inl =>
    repeat' (first | omega | ((first | refine awC_sound _ _ _ _ ?_ | skip); simp only [go_sem, sevalprocAttr, ↓reduceIte, reduceCtorEq, b0, hn]) | (refine gspDI ?_ ?_ <;> (intro _hh; (try simp only [_hh]); revert _hh)) | refine gspLI ?_ ?_ | refine condLI ?_ ?_ | refine gspI ?_ ?_ | refine And.intro ?_ ?_ | with_reducible intro _hh | trivial | (simp only [cl1, cl2, cl3, List.length_cons, List.length_nil, List.length_append]; omega))
  case' inr =>
    repeat' (first | omega | ((first | refine awC_sound _ _ _ _ ?_ | skip); simp only [go_sem, sevalprocAttr, ↓reduceIte, reduceCtorEq, b0]) | (refine gspDI ?_ ?_ <;> (intro _hh; (try simp only [_hh]); revert _hh)) | refine gspLI ?_ ?_ | refine condLI ?_ ?_ | refine gspI ?_ ?_ | refine And.intro ?_ ?_ | with_reducible intro _hh | trivial | (simp only [cl1, cl2, cl3, List.length_cons, List.length_nil, List.length_append]; omega))
    rw [hn]
  all_goals
    refine LoopA.intro (fun n fr H => ∃ i : Nat, i ≤ 6 ∧ n = 6 - i ∧ fr = [(7, I (10 * (i : Int))), (6, .ptr 1 0), (5, I sg), (4, .ptr 0 0), (0, I A), (1, I b)] ∧ H = [(1, qwO (sg * ((A % 2 ^ (10 * i) : Nat) : Int) * b / 1125899906842624) (sg * ((A % 2 ^ (10 * i) : Nat) : Int) * b % 1125899906842624)), (0, qwO 0 0)]) ?_ ?_
    · refine ⟨_, _, _, ?_, 0, by omega, rfl, rfl, rfl⟩
      rw [show A % 2 ^ (10 * 0) = 0 from Nat.mod_one A]
      refine Wk.sub ?_ ?_ <;> (simp only [go_sem, sevalprocAttr, ↓reduceIte, reduceCtorEq, hs])
      all_goals simp
    rintro n fr H ⟨i, hi, rfl, rfl, rfl⟩
    by_cases hi6 : i < 6
    · have c1 : decide (10 * (i : Int) < 60) = true := by simp; omega
      have sh : IntKind.u64.wrap (10 * (i : Int)) = 10 * (i : Int) := by rw [IntKind.wrap_u64]; omega
      have tn : (10 * (i : Int)).toNat = 10 * i := by omega
      have e0 : (A : Int) / 2 ^ (10 * i) = ((A / 2 ^ (10 * i) : Nat) : Int) := by simp
      have e1 : ((A / 2 ^ (10 * i) : Nat) : Int).tmod 1024 = ((A / 2 ^ (10 * i) % 1024 : Nat) : Int) := by
        generalize A / 2 ^ (10 * i) = q
        rw [tmod_nn (by omega)]; omega
      have dd : A / 2 ^ (10 * i) ≤ A := Nat.div_le_self _ _
      have st := dig_step A i sg b
      have mA : A % 2 ^ (10 * i) ≤ A := Nat.mod_le _ _
      have mA2 : A % 2 ^ (10 * (i + 1)) ≤ A := Nat.mod_le _ _
      obtain ⟨v, hv⟩ : ∃ v, sg * ((A / 2 ^ (10 * i) % 1024 : Nat) : Int) = v := ⟨_, rfl⟩
      have hvb : -1023 ≤ v ∧ v ≤ 1023 := by rcases hs1 with h | h <;> rw [h] at hv <;> omega
      obtain ⟨p, hp⟩ : ∃ p, v * b = p := ⟨_, rfl⟩
      have hpb : -2305843009213693952 ≤ p ∧ p ≤ 2305843009213693952 := by
        rw [← hp]
        by_cases h : 0 ≤ v
        · have := mul_bnd h hvb.2 hb.1 hb.2; omega
        · have := mul_bnd (d := -v) (D := 1023) (by omega) (by omega) hb.1 hb.2
          rw [Int.neg_mul] at this; omega
      rw [hv, hp] at st
      obtain ⟨u, w, huw, tl1, tl2⟩ : ∃ u w : Int, (p.tdiv 1125899906842624 = u ∧ p.tmod 1125899906842624 = w ∧ p = u * 1125899906842624 + w) ∧ -1125899906842624 ≤ p.tmod 1125899906842624 ∧ p.tmod 1125899906842624 ≤ 4503599627370496 := by
        have h1 := Int.mul_tdiv_add_tmod p 1125899906842624
        have h2 := Int.lt_tmod_of_pos p (show (0 : Int) < 1125899906842624 by decide)
        have h3 := Int.tmod_lt_of_pos p (show (0 : Int) < 1125899906842624 by decide)
        exact ⟨_, _, ⟨rfl, rfl, by omega⟩, by omega, by omega⟩
      obtain ⟨S1, hS1⟩ : ∃ S1, sg * ((A % 2 ^ (10 * (i + 1)) : Nat) : Int) * b = S1 := ⟨_, rfl⟩
      rw [hS1] at st
      obtain ⟨hu1, hu2, hu3⟩ := huw
      rw [hu2] at tl1 tl2
      have hr := fn_norm 0 w (by omega) ⟨tl1, tl2⟩
      have e5 : (0 * 1125899906842624 + w) / 1125899906842624 + u = p / 1125899906842624 := by omega
      have e6 : (0 * 1125899906842624 + w) % 1125899906842624 = p % 1125899906842624 := by omega
      have e7 : -4611686018427387904 ≤ (0 * 1125899906842624 + w) / 1125899906842624 + u ∧ (0 * 1125899906842624 + w) / 1125899906842624 + u ≤ 4611686018427387904 := by omega
      rw [show (0 : Int) * 1125899906842624 + w = w by omega] at hr e5 e6 e7
      have pk := fun k hk => pow_bnd p k hk hpb
      have sb : -2596148429267413814265248164610048 ≤ sg * ((A % 2 ^ (10 * i) : Nat) : Int) * b ∧ sg * ((A % 2 ^ (10 * i) : Nat) : Int) * b ≤ 2596148429267413814265248164610048 := by
        generalize A % 2 ^ (10 * i) = q at *
        rcases hs1 with h | h
        · have := mul_bnd (d := (q : Int)) (D := 2251799813685248) (by omega) (by omega) hb.1 hb.2
          rw [h, Int.one_mul]; omega
        · have := mul_bnd (d := (q : Int)) (D := 2251799813685248) (by omega) (by omega) hb.1 hb.2
          rw [h, Int.neg_mul, Int.neg_mul, Int.one_mul]; omega
      have hP2 := fn_qplus _ _ sb (pk (10 * i) (by omega))
      rw [st] at hP2
      generalize sg * ((A % 2 ^ (10 * i) : Nat) : Int) * b = S0 at *
      repeat' (first | omega | ((first | refine awC_sound _ _ _ _ ?_ | skip); simp only [go_sem, sevalprocAttr, ↓reduceIte, reduceCtorEq, c1, sh, tn, e0, e1, hv, hp, hu1, hu2]) | (refine gspDI ?_ ?_ <;> (intro _hh; (try simp only [_hh]); revert _hh)) | refine gspLI ?_ ?_ | refine condLI ?_ ?_ | refine gspI ?_ ?_ | refine And.intro ?_ ?_ | with_reducible intro _hh | trivial | (simp only [cl1, cl2, cl3, List.length_cons, List.length_nil, List.length_append]; omega))
      refine ⟨CallB.fn rfl hr ?_⟩
      repeat' (first | omega | ((first | refine awC_sound _ _ _ _ ?_ | skip); simp only [go_sem, sevalprocAttr, ↓reduceIte, reduceCtorEq, c1, sh, tn, e0, e1, hv, hp, hu1, hu2, e5, e6]) | (refine gspDI ?_ ?_ <;> (intro _hh; (try simp only [_hh]); revert _hh)) | refine gspLI ?_ ?_ | refine condLI ?_ ?_ | refine gspI ?_ ?_ | refine And.intro ?_ ?_ | with_reducible intro _hh | trivial | (simp only [cl1, cl2, cl3, List.length_cons, List.length_nil, List.length_append]; omega))
      refine LoopA.intro (fun n fr H => ∃ k : Nat, k ≤ 10 * i ∧ n = 10 * i - k ∧ fr = [(10, I k), (9, .ptr 2 0), (7, I (10 * (i : Int))), (6, .ptr 1 0), (5, I sg), (4, .ptr 0 0), (0, I A), (1, I b)] ∧ H = [(2, qwO (p * 2 ^ k / 1125899906842624) (p * 2 ^ k % 1125899906842624)), (1, qwO (S0 / 1125899906842624) (S0 % 1125899906842624)), (0, qwO 0 0)]) ?_ ?_
      · refine ⟨_, _, _, ?_, 0, by omega, rfl, rfl, rfl⟩
        rw [Int.pow_zero, Int.mul_one]
        refine Wk.sub ?_ ?_ <;> simp only [go_sem, sevalprocAttr, ↓reduceIte, reduceCtorEq]
      rintro n fr H ⟨k, hk, rfl, rfl, rfl⟩
      by_cases hki : k < 10 * i
      · have c2 : decide ((k : Int) < 10 * (i : Int)) = true := by simp; omega
        have hP := fn_qplus _ _ (pk k (by omega)) (pk k (by omega))
        rw [show p * 2 ^ k + p * 2 ^ k = p * 2 ^ (k + 1) by rw [Int.pow_succ, ← Int.mul_assoc]; omega] at hP
        repeat' (first | omega | ((first | refine awC_sound _ _ _ _ ?_ | skip); simp only [go_sem, sevalprocAttr, ↓reduceIte, reduceCtorEq, c2]) | (refine gspDI ?_ ?_ <;> (intro _hh; (try simp only [_hh]); revert _hh)) | refine gspLI ?_ ?_ | refine condLI ?_ ?_ | refine gspI ?_ ?_ | refine And.intro ?_ ?_ | with_reducible intro _hh | trivial | (simp only [cl1, cl2, cl3, List.length_cons, List.length_nil, List.length_append]; omega))
        refine ⟨CallB.fn rfl hP ?_⟩
        repeat' (first | omega | ((first | refine awC_sound _ _ _ _ ?_ | skip); simp only [go_sem, sevalprocAttr, ↓reduceIte, reduceCtorEq, c2]) | (refine gspDI ?_ ?_ <;> (intro _hh; (try simp only [_hh]); revert _hh)) | refine gspLI ?_ ?_ | refine condLI ?_ ?_ | refine gspI ?_ ?_ | refine And.intro ?_ ?_ | with_reducible intro _hh | trivial | (simp only [cl1, cl2, cl3, List.length_cons, List.length_nil, List.length_append]; omega))
        refine ⟨_, _, _, ?_, ?_, ⟨k + 1, by omega, rfl, rfl, rfl⟩⟩
        · omega
        · refine Wk.sub ?_ ?_ <;> simp only [go_sem, sevalprocAttr, ↓reduceIte, reduceCtorEq]
      · obtain rfl : k = 10 * i := by omega
        have c2 : decide (((10 * i : Nat) : Int) < 10 * (i : Int)) = false := by simp
        repeat' (first | omega | ((first | refine awC_sound _ _ _ _ ?_ | skip); simp only [go_sem, sevalprocAttr, ↓reduceIte, reduceCtorEq, c2]) | (refine gspDI ?_ ?_ <;> (intro _hh; (try simp only [_hh]); revert _hh)) | refine gspLI ?_ ?_ | refine condLI ?_ ?_ | refine gspI ?_ ?_ | refine And.intro ?_ ?_ | with_reducible intro _hh | trivial | (simp only [cl1, cl2, cl3, List.length_cons, List.length_nil, List.length_append]; omega))
        refine ⟨CallB.fn rfl hP2 ?_⟩
        repeat' (first | omega | ((first | refine awC_sound _ _ _ _ ?_ | skip); simp only [go_sem, sevalprocAttr, ↓reduceIte, reduceCtorEq, c2]) | (refine gspDI ?_ ?_ <;> (intro _hh; (try simp only [_hh]); revert _hh)) | refine gspLI ?_ ?_ | refine condLI ?_ ?_ | refine gspI ?_ ?_ | refine And.intro ?_ ?_ | with_reducible intro _hh | trivial | (simp only [cl1, cl2, cl3, List.length_cons, List.length_nil, List.length_append]; omega))
        refine ⟨_, _, _, ?_, ?_, ⟨i + 1, by omega, rfl, rfl, rfl⟩⟩
        · omega
        · have e8 : 10 * (i : Int) + 10 = 10 * ((i : Int) + 1) := by omega
          refine Wk.sub ?_ ?_ <;> (simp only [go_sem, sevalprocAttr, ↓reduceIte, reduceCtorEq, hS1, e8])
    · obtain rfl : i = 6 := by omega
      rw [hfin, hsA]
      repeat' (first | omega | ((first | refine awC_sound _ _ _ _ ?_ | skip); simp only [go_sem, sevalprocAttr, ↓reduceIte, reduceCtorEq]) | (refine gspDI ?_ ?_ <;> (intro _hh; (try simp only [_hh]); revert _hh)) | refine gspLI ?_ ?_ | refine condLI ?_ ?_ | refine gspI ?_ ?_ | refine And.intro ?_ ?_ | with_reducible intro _hh | trivial | (simp only [cl1, cl2, cl3, List.length_cons, List.length_nil, List.length_append]; omega))
      all_goals (try rw [hn])
      all_goals exact LeA.refl _
end Go.Proofs.YtalmkaiiffodnaaGreatDoor
