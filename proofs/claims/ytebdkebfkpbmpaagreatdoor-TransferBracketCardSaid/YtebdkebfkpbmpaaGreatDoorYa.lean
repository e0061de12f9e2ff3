/- The reference of layer 12: wide numbers. -/
import Derived.Test.YtebdkebfkpbmpaaGreatDoorGd
import Derived.Test.YtebdkebfkpbmpaaGreatDoorXg
import Derived.Test.YtebdkebfkpbmpaaGreatDoorXd
import Derived.Test.YtebdkebfkpbmpaaGreatDoorOe1
import Derived.Test.YtebdkebfkpbmpaaGreatDoorYc
set_option linter.unusedSimpArgs false
set_option linter.unusedVariables false
namespace Go.Proofs.YtebdkebfkpbmpaaGreatDoor
open Go Go.RowKit
set_option maxRecDepth 100000
set_option maxHeartbeats 8000000
abbrev qwA (z : Int) : AV := .agg [I (z / 1125899906842624), I (z % 1125899906842624)]
attribute [go_sem] qwA
abbrev qwO (h l : Int) : AObj := .cells 130 (.lst [I h, I l])
theorem yu0 (h l : Int) (h0 : -4611686018427387904 <= h /\ h <= 4611686018427387904) (l0 : -1125899906842624 <= l /\ l <= 4503599627370496) : Fn Tryz.prog 144 [.agg [I h, I l]] (qwA (h * 1125899906842624 + l)) := by
 refine Fn.introL [.cell 2 130] Tryz.func144 rfl rfl (by decide) (by simp [Tryz.ntmps144]) ?_; rw [Tryz.ntmps144]
 repeat' (first | omega | ((try apply yaa); simp only [go_sem, sevalprocAttr]) | (apply yad <;> (intro h_; (try simp only [h_]); revert h_)) | apply yac | apply yab | apply gspI | apply And.intro | with_reducible intro h_ | trivial | (simp only [go_sem, la2]; omega))
 refine yah.intro (fun n fr H => ∃ h' l' : Int, h' * 1125899906842624 + l' = h * 1125899906842624 + l /\ -4611686018427387905 <= h' /\ h' <= 4611686018427387904 /\ -1125899906842624 <= l' /\ l' <= 4503599627370496 /\ n = (if l' < 0 then 1 else 0) /\ fr = [(2, .ptr 1 0), (1, .ptr 0 0)] /\ H = [(1, qwO 0 0), (0, qwO h' l')]) ?_ ?_
 ·refine ⟨_, _, _, ?_, h, l, rfl, by omega, by omega, by omega, by omega, rfl, rfl, rfl⟩
  refine Wk.sub ?_ ?_ <;> simp only [go_sem, sevalprocAttr]
 rintro n fr H ⟨h', l', e, h1, h2, l1, l2, rfl, rfl, rfl⟩
 by_cases hl : l' < 0
 ·have b0 : decide (l' < 0) = true := by simpa using hl
  repeat' (first | omega | ((try apply yaa); simp only [go_sem, sevalprocAttr, b0]) | (apply yad <;> (intro h_; (try simp only [h_]); revert h_)) | apply yac | apply yab | apply gspI | apply And.intro | with_reducible intro h_ | trivial | (simp only [go_sem, la2]; omega))
  refine ⟨_, _, _, ?_, ?_, h' - 1, l' + 1125899906842624, by omega, by omega, by omega, by omega, by omega, rfl, rfl, rfl⟩
  ·rw [if_pos hl, if_neg (by omega)]; omega
  ·refine Wk.sub ?_ ?_ <;> simp only [go_sem, sevalprocAttr]
 ·have b0 : decide (l' < 0) = false := by simpa using hl
  have t1 := ydi (a := l') (b := 1125899906842624) (by omega)
  have t2 := yjk (a := l') (b := 1125899906842624) (by omega)
  repeat' (first | omega | ((try apply yaa); simp only [go_sem, sevalprocAttr, b0, t1, t2]) | (apply yad <;> (intro h_; (try simp only [h_]); revert h_)) | apply yac | apply yab | apply gspI | apply And.intro | with_reducible intro h_ | trivial | (simp only [go_sem, la2]; omega))
  all_goals exact LeA.of (by congr 3 <;> first | (congr 1; omega) | skip)
theorem ylt (x y : Int) (hx : -2596148429267413814265248164610048 <= x /\ x <= 2596148429267413814265248164610048) (hy : -2596148429267413814265248164610048 <= y /\ y <= 2596148429267413814265248164610048) :
  Fn Tryz.prog 143 [qwA x, qwA y] (qwA (x + y)) := by
 have hN := yu0 (x / 1125899906842624 + y / 1125899906842624) (x % 1125899906842624 + y % 1125899906842624) (by omega) (by omega)
 rw [show (x / 1125899906842624 + y / 1125899906842624) * 1125899906842624 + (x % 1125899906842624 + y % 1125899906842624) = x + y by omega] at hN
 have r1 : -2305843009213693952 <= x / 1125899906842624 /\ x / 1125899906842624 <= 2305843009213693952 := by omega
 have r2 : -2305843009213693952 <= y / 1125899906842624 /\ y / 1125899906842624 <= 2305843009213693952 := by omega
 refine Fn.introL [.cell 4 130] Tryz.func143 rfl rfl (by decide) (by simp [Tryz.ntmps143]) ?_; rw [Tryz.ntmps143]
 repeat' (first | omega | ((try apply yaa); simp only [go_sem, sevalprocAttr]) | (apply yad <;> (intro h_; (try simp only [h_]); revert h_)) | apply yac | apply yab | apply gspI | apply And.intro | with_reducible intro h_ | trivial | (simp only [go_sem, la2]; omega))
 refine ⟨yaf.fn rfl hN ?_⟩
 repeat' (first | omega | ((try apply yaa); simp only [go_sem, sevalprocAttr]) | (apply yad <;> (intro h_; (try simp only [h_]); revert h_)) | apply yac | apply yab | apply gspI | apply And.intro | with_reducible intro h_ | trivial | (simp only [go_sem, la2]; omega))
 all_goals exact LeA.refl _
theorem yzw (z : Int) (h0 : -1125899906842624 <= z /\ z <= 1125899906842624) : Fn Tryz.prog 145 [qwA z] (.tup [I z, .bool true]) := by
 have b0 : decide (z / 1125899906842624 < -2) = false := by simp; omega
 have b1 : decide (2 < z / 1125899906842624) = false := by simp; omega
 have e : z / 1125899906842624 * 1125899906842624 + z % 1125899906842624 = z := by omega
 have b2 : decide (-1125899906842624 <= z) = true := by simp; omega
 have b3 : decide (z <= 1125899906842624) = true := by simp; omega
 refine Fn.introL [.tmp 2, .tmp 3] Tryz.func145 rfl rfl (by decide) (by simp [Tryz.ntmps145]) ?_; rw [Tryz.ntmps145]
 repeat' (first | omega | ((try apply yaa); simp only [go_sem, sevalprocAttr, b0, b1, e, b2, b3]) | (apply yad <;> (intro h_; (try simp only [h_]); revert h_)) | apply yac | apply yab | apply gspI | apply And.intro | with_reducible intro h_ | trivial | (simp only [go_sem, la2]; omega))
 all_goals exact LeA.refl _
end Go.Proofs.YtebdkebfkpbmpaaGreatDoor
set_option linter.unusedSimpArgs false
set_option linter.unusedVariables false
namespace Go.Proofs.YtebdkebfkpbmpaaGreatDoor
open Go Go.RowKit
set_option maxRecDepth 100000
set_option maxHeartbeats 8000000
theorem yhh {d b D B : Int} (h0 : 0 <= d) (h1 : d <= D) (h2 : -B <= b) (h3 : b <= B) : -(D * B) <= d * b /\ d * b <= D * B := by
 have hB : 0 <= B := by omega
 have a1 := Int.mul_le_mul_of_nonneg_left h3 h0
 have a2 := Int.mul_le_mul_of_nonneg_left h2 h0
 have a3 := Int.mul_le_mul_of_nonneg_right h1 hB
 rw [Int.mul_neg] at a2
 omega
theorem y3e (A i : Nat) (sg b : Int) : sg * ((A % 2 ^ (10 * i) : Nat) : Int) * b + sg * ((A / 2 ^ (10 * i) % 1024 : Nat) : Int) * b * 2 ^ (10 * i) = sg * ((A % 2 ^ (10 * (i + 1)) : Nat) : Int) * b := by
 have e : A % 2 ^ (10 * (i + 1)) = A % 2 ^ (10 * i) + 2 ^ (10 * i) * (A / 2 ^ (10 * i) % 1024) := by
  rw [show 10 * (i + 1) = 10 * i + 10 by omega, Nat.pow_add, Nat.mod_mul]
 rw [e, Int.natCast_add, Int.natCast_mul, Int.mul_add, Int.add_mul]
 have hc : ((2 ^ (10 * i) : Nat) : Int) = 2 ^ (10 * i) := by simp
 rw [hc]
 generalize (2 : Int) ^ (10 * i) = Q
 generalize ((A / 2 ^ (10 * i) % 1024 : Nat) : Int) = d
 congr 1
 rw [Int.mul_assoc sg d b, Int.mul_assoc sg (d * b) Q, Int.mul_assoc sg (Q * d) b, Int.mul_comm Q d, Int.mul_assoc d b Q, Int.mul_assoc d Q b, Int.mul_comm b Q]
theorem y7j (p : Int) (k : Nat) (hk : k <= 50) (hp : -2305843009213693952 <= p /\ p <= 2305843009213693952) : -2596148429267413814265248164610048 <= p * 2 ^ k /\ p * 2 ^ k <= 2596148429267413814265248164610048 := by
 have h1 : 2 ^ k <= 1125899906842624 := Nat.le_trans (Nat.pow_le_pow_right (by omega) hk) (by decide : 2 ^ 50 <= 1125899906842624)
 have h2 : ((2 ^ k : Nat) : Int) = 2 ^ k := by simp
 generalize 2 ^ k = q at h1 h2
 have := yhh (d := (q : Int)) (D := 1125899906842624) (by omega) (by omega) hp.1 hp.2
 rw [← h2, Int.mul_comm p]
 omega
theorem ygp (a b : Int) (ha : -2251799813685248 <= a /\ a <= 2251799813685248) (hb : -2251799813685248 <= b /\ b <= 2251799813685248) : Fn Tryz.prog 109 [I a, I b] (qwA (a * b)) := by
 obtain ⟨A, sg, hsg⟩ : ∃ (A : Nat) (sg : Int), (decide (a < 0) = true /\ sg = -1 /\ 0 - a = A) \/ (decide (a < 0) = false /\ sg = 1 /\ a = A) := by
  by_cases h : a < 0
  ·exact ⟨(-a).toNat, -1, .inl ⟨by simpa using h, rfl, by omega⟩⟩
  ·exact ⟨a.toNat, 1, .inr ⟨by simpa using h, rfl, by omega⟩⟩
 have hA : A <= 2251799813685248 := by omega
 have hsA : sg * A = a := by rcases hsg with ⟨_, rfl, h⟩ | ⟨_, rfl, h⟩ <;> omega
 have hfin : A % 2 ^ (10 * 6) = A := Nat.mod_eq_of_lt (Nat.lt_of_le_of_lt hA (by decide))
 have hs1 : sg = 1 \/ sg = -1 := by omega
 refine Fn.introL [.cell 4 130] Tryz.func109 rfl rfl (by decide) (by simp [Tryz.ntmps109]) ?_; rw [Tryz.ntmps109]
 rcases hsg with ⟨b0, hs, hn⟩ | ⟨b0, hs, hn⟩
 case' inl =>
  repeat' (first | omega | ((try apply yaa); simp only [go_sem, sevalprocAttr, b0, hn]) | (apply yad <;> (intro h_; (try simp only [h_]); revert h_)) | apply yac | apply yab | apply gspI | apply And.intro | with_reducible intro h_ | trivial | (simp only [go_sem, la2]; omega))
 case' inr =>
  repeat' (first | omega | ((try apply yaa); simp only [go_sem, sevalprocAttr, b0]) | (apply yad <;> (intro h_; (try simp only [h_]); revert h_)) | apply yac | apply yab | apply gspI | apply And.intro | with_reducible intro h_ | trivial | (simp only [go_sem, la2]; omega))
  rw [hn]
 all_goals
  refine yah.intro (fun n fr H => ∃ i : Nat, i <= 6 /\ n = 6 - i /\ fr = [(7, I (10 * (i : Int))), (6, .ptr 1 0), (5, I sg), (4, .ptr 0 0), (0, I A), (1, I b)] /\ H = [(1, qwO (sg * ((A % 2 ^ (10 * i) : Nat) : Int) * b / 1125899906842624) (sg * ((A % 2 ^ (10 * i) : Nat) : Int) * b % 1125899906842624)), (0, qwO 0 0)]) ?_ ?_
  ·refine ⟨_, _, _, ?_, 0, by omega, rfl, rfl, rfl⟩
   rw [show A % 2 ^ (10 * 0) = 0 from Nat.mod_one A]
   refine Wk.sub ?_ ?_ <;> (simp only [go_sem, sevalprocAttr, hs])
   all_goals simp
  rintro n fr H ⟨i, hi, rfl, rfl, rfl⟩
  by_cases hi6 : i < 6
  ·have c1 : decide (10 * (i : Int) < 60) = true := by simp; omega
   have sh : IntKind.u64.wrap (10 * (i : Int)) = 10 * (i : Int) := by rw [IntKind.wrap_u64]; omega
   have tn : (10 * (i : Int)).toNat = 10 * i := by omega
   have e0 : (A : Int) / 2 ^ (10 * i) = ((A / 2 ^ (10 * i) : Nat) : Int) := by simp
   have e1 : ((A / 2 ^ (10 * i) : Nat) : Int).tmod 1024 = ((A / 2 ^ (10 * i) % 1024 : Nat) : Int) := by
    generalize A / 2 ^ (10 * i) = q
    rw [yjk (by omega)]; omega
   have dd : A / 2 ^ (10 * i) <= A := Nat.div_le_self _ _
   have st := y3e A i sg b
   have mA : A % 2 ^ (10 * i) <= A := Nat.mod_le _ _
   have mA2 : A % 2 ^ (10 * (i + 1)) <= A := Nat.mod_le _ _
   obtain ⟨v, hv⟩ : ∃ v, sg * ((A / 2 ^ (10 * i) % 1024 : Nat) : Int) = v := ⟨_, rfl⟩
   have hvb : -1023 <= v /\ v <= 1023 := by rcases hs1 with h | h <;> rw [h] at hv <;> omega
   obtain ⟨p, hp⟩ : ∃ p, v * b = p := ⟨_, rfl⟩
   have hpb : -2305843009213693952 <= p /\ p <= 2305843009213693952 := by
    rw [← hp]
    by_cases h : 0 <= v
    ·have := yhh h hvb.2 hb.1 hb.2; omega
    ·have := yhh (d := -v) (D := 1023) (by omega) (by omega) hb.1 hb.2
     rw [Int.neg_mul] at this; omega
   rw [hv, hp] at st
   obtain ⟨u, w, huw, tl1, tl2⟩ : ∃ u w : Int, (p.tdiv 1125899906842624 = u /\ p.tmod 1125899906842624 = w /\ p = u * 1125899906842624 + w) /\ -1125899906842624 <= p.tmod 1125899906842624 /\ p.tmod 1125899906842624 <= 4503599627370496 := by
    have h1 := Int.mul_tdiv_add_tmod p 1125899906842624
    have h2 := Int.lt_tmod_of_pos p (show (0 : Int) < 1125899906842624 by decide)
    have h3 := Int.tmod_lt_of_pos p (show (0 : Int) < 1125899906842624 by decide)
    exact ⟨_, _, ⟨rfl, rfl, by omega⟩, by omega, by omega⟩
   obtain ⟨S1, hS1⟩ : ∃ S1, sg * ((A % 2 ^ (10 * (i + 1)) : Nat) : Int) * b = S1 := ⟨_, rfl⟩
   rw [hS1] at st
   obtain ⟨hu1, hu2, hu3⟩ := huw
   rw [hu2] at tl1 tl2
   have hr := yu0 0 w (by omega) ⟨tl1, tl2⟩
   have e5 : (0 * 1125899906842624 + w) / 1125899906842624 + u = p / 1125899906842624 := by omega
   have e6 : (0 * 1125899906842624 + w) % 1125899906842624 = p % 1125899906842624 := by omega
   have e7 : -4611686018427387904 <= (0 * 1125899906842624 + w) / 1125899906842624 + u /\ (0 * 1125899906842624 + w) / 1125899906842624 + u <= 4611686018427387904 := by omega
   rw [show (0 : Int) * 1125899906842624 + w = w by omega] at hr e5 e6 e7
   have pk := fun k hk => y7j p k hk hpb
   have sb : -2596148429267413814265248164610048 <= sg * ((A % 2 ^ (10 * i) : Nat) : Int) * b /\ sg * ((A % 2 ^ (10 * i) : Nat) : Int) * b <= 2596148429267413814265248164610048 := by
    generalize A % 2 ^ (10 * i) = q at *
    rcases hs1 with h | h
    ·have := yhh (d := (q : Int)) (D := 2251799813685248) (by omega) (by omega) hb.1 hb.2
     rw [h, Int.one_mul]; omega
    ·have := yhh (d := (q : Int)) (D := 2251799813685248) (by omega) (by omega) hb.1 hb.2
     rw [h, Int.neg_mul, Int.neg_mul, Int.one_mul]; omega
   have hP2 := ylt _ _ sb (pk (10 * i) (by omega))
   rw [st] at hP2
   generalize sg * ((A % 2 ^ (10 * i) : Nat) : Int) * b = S0 at *
   repeat' (first | omega | ((try apply yaa); simp only [go_sem, sevalprocAttr, c1, sh, tn, e0, e1, hv, hp, hu1, hu2]) | (apply yad <;> (intro h_; (try simp only [h_]); revert h_)) | apply yac | apply yab | apply gspI | apply And.intro | with_reducible intro h_ | trivial | (simp only [go_sem, la2]; omega))
   refine ⟨yaf.fn rfl hr ?_⟩
   repeat' (first | omega | ((try apply yaa); simp only [go_sem, sevalprocAttr, c1, sh, tn, e0, e1, hv, hp, hu1, hu2, e5, e6]) | (apply yad <;> (intro h_; (try simp only [h_]); revert h_)) | apply yac | apply yab | apply gspI | apply And.intro | with_reducible intro h_ | trivial | (simp only [go_sem, la2]; omega))
   refine yah.intro (fun n fr H => ∃ k : Nat, k <= 10 * i /\ n = 10 * i - k /\ fr = [(10, I k), (9, .ptr 2 0), (7, I (10 * (i : Int))), (6, .ptr 1 0), (5, I sg), (4, .ptr 0 0), (0, I A), (1, I b)] /\ H = [(2, qwO (p * 2 ^ k / 1125899906842624) (p * 2 ^ k % 1125899906842624)), (1, qwO (S0 / 1125899906842624) (S0 % 1125899906842624)), (0, qwO 0 0)]) ?_ ?_
   ·refine ⟨_, _, _, ?_, 0, by omega, rfl, rfl, rfl⟩
    rw [Int.pow_zero, Int.mul_one]
    refine Wk.sub ?_ ?_ <;> simp only [go_sem, sevalprocAttr]
   rintro n fr H ⟨k, hk, rfl, rfl, rfl⟩
   by_cases hki : k < 10 * i
   ·have c2 : decide ((k : Int) < 10 * (i : Int)) = true := by simp; omega
    have hP := ylt _ _ (pk k (by omega)) (pk k (by omega))
    rw [show p * 2 ^ k + p * 2 ^ k = p * 2 ^ (k + 1) by rw [Int.pow_succ, ← Int.mul_assoc]; omega] at hP
    repeat' (first | omega | ((try apply yaa); simp only [go_sem, sevalprocAttr, c2]) | (apply yad <;> (intro h_; (try simp only [h_]); revert h_)) | apply yac | apply yab | apply gspI | apply And.intro | with_reducible intro h_ | trivial | (simp only [go_sem, la2]; omega))
    refine ⟨yaf.fn rfl hP ?_⟩
    repeat' (first | omega | ((try apply yaa); simp only [go_sem, sevalprocAttr, c2]) | (apply yad <;> (intro h_; (try simp only [h_]); revert h_)) | apply yac | apply yab | apply gspI | apply And.intro | with_reducible intro h_ | trivial | (simp only [go_sem, la2]; omega))
    refine ⟨_, _, _, ?_, ?_, ⟨k + 1, by omega, rfl, rfl, rfl⟩⟩
    ·omega
    ·refine Wk.sub ?_ ?_ <;> simp only [go_sem, sevalprocAttr]
   ·obtain rfl : k = 10 * i := by omega
    have c2 : decide (((10 * i : Nat) : Int) < 10 * (i : Int)) = false := by simp
    repeat' (first | omega | ((try apply yaa); simp only [go_sem, sevalprocAttr, c2]) | (apply yad <;> (intro h_; (try simp only [h_]); revert h_)) | apply yac | apply yab | apply gspI | apply And.intro | with_reducible intro h_ | trivial | (simp only [go_sem, la2]; omega))
    refine ⟨yaf.fn rfl hP2 ?_⟩
    repeat' (first | omega | ((try apply yaa); simp only [go_sem, sevalprocAttr, c2]) | (apply yad <;> (intro h_; (try simp only [h_]); revert h_)) | apply yac | apply yab | apply gspI | apply And.intro | with_reducible intro h_ | trivial | (simp only [go_sem, la2]; omega))
    refine ⟨_, _, _, ?_, ?_, ⟨i + 1, by omega, rfl, rfl, rfl⟩⟩
    ·omega
    ·have e8 : 10 * (i : Int) + 10 = 10 * ((i : Int) + 1) := by omega
     refine Wk.sub ?_ ?_ <;> (simp only [go_sem, sevalprocAttr, hS1, e8])
  ·obtain rfl : i = 6 := by omega
   rw [hfin, hsA]
   repeat' (first | omega | ((try apply yaa); simp only [go_sem, sevalprocAttr]) | (apply yad <;> (intro h_; (try simp only [h_]); revert h_)) | apply yac | apply yab | apply gspI | apply And.intro | with_reducible intro h_ | trivial | (simp only [go_sem, la2]; omega))
   all_goals (try rw [hn])
   all_goals exact LeA.refl _
end Go.Proofs.YtebdkebfkpbmpaaGreatDoor
set_option linter.unusedSimpArgs false
set_option linter.unusedVariables false
namespace Go.Proofs.YtebdkebfkpbmpaaGreatDoor
open Go Go.RowKit
set_option maxRecDepth 100000
set_option maxHeartbeats 8000000
def yhi : List (List Nat) := [[44,45,46,47,48,49,50],[43,45,46,47,48,49,50],[43,44,46,49],[43,44,45,49],[43,44,49],[43,44,49],[43,44,45,46,47,48],[43,44],[],[]]
def yhj : List (List Nat) := [[55,56,57,59,60,62,63,64],[54,56,59,60,62,63,64],[54,55,59,60,62,63,64],[54,59,60,62,63,64],[59,60,62,63,64],[54,55,56,57,58,62,63,64],[54,55,56,57,58,62,63,64],[62,63,64],[54,55,56,57,58,59,60,61,63],[54,55,56,57,58,59,60,61,62],[54,55,56,57,58,59,60,61],[],[]]
def yd6 : List (List Nat) := [[],[0],[0,1],[0],[],[0,1,2,3,4],[0,1,2,3,4],[],[0,1,2,3,4,5,6,7],[0,1,2,3,4,5,6,7,8],[0,1,2,3,4,5,6,7],[],[]]
def yhk : List (List Nat) := [[67,68,69,71,72,74,75,76],[66,68,71,72,74,75,76],[66,67,71,72,74,75,76],[66,71,72,74,75,76],[71,72,74,75,76],[66,67,68,69,70,74,75,76],[66,67,68,69,70,74,75,76],[74,75,76],[66,67,68,69,70,71,72,73,75],[66,67,68,69,70,71,72,73,74],[66,67,68,69,70,71,72,73],[],[]]
def ym7 : Tr := .node [(0, .node [(1, .node [(2, .node [(3, .node [(4, .node [(5, .node [(6, .node [(7, .node [(8, .node [(9, .done)])])])]), (6, .node [(5, .node [(7, .node [(8, .node [(9, .done)])])])])]), (6, .node [(4, .node [(5, .node [(7, .node [(8, .node [(9, .done)])])])])])])])])])]
def ym8 : Tr := .node [(1, .node [(2, .node [(3, .node [(5, .node [(8, .node [(9, .node [(10, .node [(0, .node [(4, .node [(6, .node [(7, .node [(11, .node [(12, .done)])])])]), (6, .node [(4, .node [(7, .node [(11, .node [(12, .done)])])])])]), (6, .node [(0, .node [(4, .node [(7, .node [(11, .node [(12, .done)])])])])])])])])])])])])]
def ym9 : Tr := .node [(1, .node [(2, .node [(3, .node [(8, .node [(9, .node [(10, .node [(0, .node [(4, .node [(5, .node [(6, .node [(7, .node [(11, .node [(12, .done)])])])])]), (5, .node [(4, .node [(6, .node [(7, .node [(11, .node [(12, .done)])])])]), (6, .node [(4, .node [(7, .node [(11, .node [(12, .done)])])])])])]), (5, .node [(0, .node [(4, .node [(6, .node [(7, .node [(11, .node [(12, .done)])])])]), (6, .node [(4, .node [(7, .node [(11, .node [(12, .done)])])])])]), (6, .node [(0, .node [(4, .node [(7, .node [(11, .node [(12, .done)])])])])])])])])])])])])]
def qwC (S : List (Int × Int)) : List AV := S.flatMap fun t => [I (t.2 / 1125899906842624), I (t.2 % 1125899906842624)]
theorem ydm (S : List (Int × Int)) : (qwC S).length = 2 * S.length := by
 induction S with
 | nil => rfl
 | cons t S ih => rw [show qwC (t :: S) = I (t.2 / 1125899906842624) :: I (t.2 % 1125899906842624) :: qwC S from rfl]; simp [ih]; omega
theorem ylu : ∀ (S : List (Int × Int)) (i : Nat), i < S.length -> (qwC S).getD (i * 2) .any = I ((S.getD i (0, 0)).2 / 1125899906842624)
 | t :: S, 0, _ => rfl
 | t :: S, i + 1, h => by
   have := ylu S i (by simpa using h)
   rw [show qwC (t :: S) = I (t.2 / 1125899906842624) :: I (t.2 % 1125899906842624) :: qwC S from rfl, show (i + 1) * 2 = i * 2 + 1 + 1 by omega]
   simpa using this
theorem ylv : ∀ (S : List (Int × Int)) (i : Nat), i < S.length -> (qwC S).getD (i * 2 + 1) .any = I ((S.getD i (0, 0)).2 % 1125899906842624)
 | t :: S, 0, _ => rfl
 | t :: S, i + 1, h => by
   have := ylv S i (by simpa using h)
   rw [show qwC (t :: S) = I (t.2 / 1125899906842624) :: I (t.2 % 1125899906842624) :: qwC S from rfl, show (i + 1) * 2 + 1 = i * 2 + 1 + 1 + 1 by omega]
   simpa using this
theorem yj6 {S : List (Int × Int)} {x : AV} (h : x ∈ qwC S) : ∃ n, x = I n := by
 unfold qwC at h
 obtain ⟨t, _, h⟩ := List.mem_flatMap.1 h
 simp only [List.mem_cons, List.not_mem_nil, or_false] at h
 rcases h with h | h <;> exact ⟨_, h⟩
theorem ya8 (H : Hp) (S : List (Int × Int)) : (qwC S).all (s3 H) = true := List.all_eq_true.2 fun x hx => by obtain ⟨n, rfl⟩ := yj6 hx; rfl
theorem yzx (S : List (Int × Int)) : (qwC S).all p1 = true := List.all_eq_true.2 fun x hx => by obtain ⟨n, rfl⟩ := yj6 hx; rfl
theorem yhl (i : Nat) (S : List (Int × Int)) : (qwC S).map (cutV i) = qwC S := by
 conv => rhs; rw [← List.map_id (qwC S)]
 exact List.map_congr_left fun x hx => by obtain ⟨n, rfl⟩ := yj6 hx; rfl
theorem ylw (H : Hp) (n : Nat) (S : List (Int × Int)) : (qwC S).map (snap H (n + 1)) = qwC S := ytn (yzx S) H n
theorem yi9 (H : Hp) (n : Nat) (S : List (Int × Int)) : (∀ x ∈ qwC S, yao H (n + 1) x) = True := yqv (yzx S) H n
theorem yu1 (S T : List (Int × Int)) : qwC (S ++ T) = qwC S ++ qwC T := by simp [qwC]
theorem yf8 : ∀ (S : List (Int × Int)) (i : Nat), (qwC S).take (i * 2) = qwC (S.take i)
 | [], i => by simp [qwC]
 | t :: S, 0 => by simp [qwC]
 | t :: S, i + 1 => by
   rw [show qwC (t :: S) = I (t.2 / 1125899906842624) :: I (t.2 % 1125899906842624) :: qwC S from rfl, show (i + 1) * 2 = i * 2 + 1 + 1 by omega, List.take_succ_cons, List.take_succ_cons, yf8 S i]; rfl
theorem yf9 : ∀ (S : List (Int × Int)) (i : Nat), (qwC S).drop (i * 2) = qwC (S.drop i)
 | [], i => by simp [qwC]
 | t :: S, 0 => by simp [qwC]
 | t :: S, i + 1 => by
   rw [show qwC (t :: S) = I (t.2 / 1125899906842624) :: I (t.2 % 1125899906842624) :: qwC S from rfl, show (i + 1) * 2 = i * 2 + 1 + 1 by omega, List.drop_succ_cons, List.drop_succ_cons, yf9 S i]; rfl
theorem yu2 : ∀ (S : List (Int × Int)) (i : Nat) (e z : Int), ((qwC S).set (i * 2) (.int .i64 (z / 1125899906842624))).set (i * 2 + 1) (.int .i64 (z % 1125899906842624)) = qwC (S.set i (e, z))
 | [], i, e, z => by simp [qwC]
 | t :: S, 0, e, z => by simp [qwC]
 | t :: S, i + 1, e, z => by
   have := yu2 S i e z
   rw [show qwC (t :: S) = I (t.2 / 1125899906842624) :: I (t.2 % 1125899906842624) :: qwC S from rfl, show (i + 1) * 2 + 1 = (i * 2 + 1) + 1 + 1 by omega, show (i + 1) * 2 = i * 2 + 1 + 1 by omega, List.set_cons_succ, List.set_cons_succ, List.set_cons_succ, List.set_cons_succ, this]; rfl
theorem yhm (S : List (Int × Int)) (f : AV -> Bool) (h : ∀ n, f (.int .i64 n) = true) : (qwC S).all f = true := List.all_eq_true.2 fun x hx => by obtain ⟨n, rfl⟩ := yj6 hx; exact h n
theorem yna (S : List (Int × Int)) (i : Nat) : (qwC (S.drop i)).take ((S.length - i) * 2) = qwC (S.drop i) := List.take_of_length_le (by rw [ydm, List.length_drop]; omega)
theorem yzy {S : List (Int × Int)} {i : Nat} (h : i <= S.length) : (qwC (S.take i)).length = i * 2 := by rw [ydm, List.length_take]; omega
theorem yzz {S : List (Int × Int)} {i : Nat} (h : i <= S.length) : (S.take i).length = i := by rw [List.length_take]; omega
structure Ins (S : List (Int × Int)) (i : Nat) (e z : Int) (R : List (Int × Int)) : Prop where
 len : R.length = i + 1 + (S.length - i)
 q1 : qwC (S.take i) ++ [.int .i64 (z / 1125899906842624), .int .i64 (z % 1125899906842624)] = qwC (S.take i ++ [(e, z)])
 q2 : qwC (S.take i ++ [(e, z)]) ++ qwC (S.drop i) = qwC R
 q3 : (S.drop i).take (S.length - i) = S.drop i
 q4 : ((S.map fun x => x.1).drop i).take (S.length - i) = (S.map fun x => x.1).drop i
 q5 : (S.map fun x => x.1).take i ++ [e] ++ (S.map fun x => x.1).drop i = R.map fun x => x.1
 q6 : (qwC R).take ((i + 1 + (S.length - i)) * 2) = qwC R
 q7 : (R.map fun x => x.1).take (i + 1 + (S.length - i)) = R.map fun x => x.1
 q8 : (qwC R).length = (i + 1 + (S.length - i)) * 2
 q9 : (qwC (S.drop i)).length = (S.length - i) * 2
 qa : (qwC (S.take i ++ [(e, z)])).length = (i + 1) * 2
theorem yz0 {S : List (Int × Int)} {i : Nat} (h : i <= S.length) (e z : Int) : Ins S i e z (S.take i ++ [(e, z)] ++ S.drop i) := by
 have hl : (S.take i ++ [(e, z)] ++ S.drop i).length = i + 1 + (S.length - i) := by simp; omega
 have h8 : (qwC (S.take i ++ [(e, z)] ++ S.drop i)).length = (i + 1 + (S.length - i)) * 2 := by rw [ydm, hl]; omega
 refine ⟨hl, ?_, ?_, List.take_of_length_le (by simp), List.take_of_length_le (by simp), by simp, List.take_of_length_le (by omega), List.take_of_length_le (by rw [List.length_map]; omega), h8, by rw [ydm, List.length_drop]; omega, by rw [ydm, List.length_append, List.length_take]; simp only [List.length_cons, List.length_nil]; omega⟩
 ·rw [yu1]; rfl
 ·rw [← yu1]
abbrev qeA (S : List (Int × Int)) : AV := .ro 1 S.length (.ints (S.map (·.1)))
abbrev qsA (S : List (Int × Int)) : AV := .ro 2 S.length (.lst (qwC S))
attribute [go_sem] qeA qsA
def ltI (e : Int) : List (Int × Int) -> Nat
 | [] => 0
 | t :: S => if t.1 < e then ltI e S + 1 else 0
theorem yz1 (e : Int) : ∀ S : List (Int × Int), ltI e S <= S.length
 | [] => Nat.le_refl _
 | t :: S => by have := yz1 e S; simp only [ltI, List.length_cons]; split <;> omega
theorem yz2 (e : Int) : ∀ (S : List (Int × Int)) (i : Nat), i < ltI e S -> (S.getD i (0, 0)).1 < e
 | [], i, h => by simp [ltI] at h
 | t :: S, i, h => by
   simp only [ltI] at h
   split at h
   ·cases i with
    | zero => simpa using ‹t.1 < e›
    | succ i => simpa using yz2 e S i (by omega)
   ·omega
theorem yz3 (e : Int) : ∀ (S : List (Int × Int)), ltI e S < S.length -> e <= (S.getD (ltI e S) (0, 0)).1
 | [], h => by simp at h
 | t :: S, h => by
   simp only [ltI] at h ⊢
   split
   ·rename_i ht
    rw [if_pos ht] at h
    simpa using yz3 e S (by simpa using h)
   ·rename_i ht; simp; omega
def putS (e z : Int) (S : List (Int × Int)) : List (Int × Int) :=
 if ltI e S < S.length /\ (S.getD (ltI e S) (0, 0)).1 = e then S.set (ltI e S) (e, (S.getD (ltI e S) (0, 0)).2 + z) else S.take (ltI e S) ++ [(e, z)] ++ S.drop (ltI e S)
theorem yod (S : List (Int × Int)) (i : Nat) (h : i < S.length) : (S.map (·.1)).getD i 0 = (S.getD i (0, 0)).1 := by
 simp [List.getD_eq_getElem?_getD, h]
theorem ysc (S : List (Int × Int)) (e z : Int) (hl : S.length <= 100000) (hz : -2596148429267413814265248164610048 <= z /\ z <= 2596148429267413814265248164610048) (hS : ∀ t ∈ S, -2596148429267413814265248164610048 <= t.2 /\ t.2 <= 2596148429267413814265248164610048) :
  Fn Tryz.prog 108 [qeA S, qsA S, I e, qwA z] (.tup [qeA (putS e z S), qsA (putS e z S)]) := by
 have hle := yz1 e S
 refine Fn.introL [.tmp 8, .tmp 9] Tryz.func108 rfl rfl (by decide) (by simp [Tryz.ntmps108]) ?_; rw [Tryz.ntmps108]
 repeat' (first | omega | ((try apply yaa); simp only [go_sem, sevalprocAttr]) | (apply yad <;> (intro h_; (try simp only [h_]); revert h_)) | apply yac | apply yab | apply gspI | apply And.intro | with_reducible intro h_ | trivial | (simp only [go_sem, la2]; omega))
 refine yah.intro (fun n fr H => ∃ i : Nat, i <= ltI e S /\ n = ltI e S - i /\ fr = [(10, I i), (7, .ptr 0 0), (2, I e), (1, qsA S), (0, qeA S)] /\ H = [(0, qwO (z / 1125899906842624) (z % 1125899906842624))]) ?_ ?_
 ·refine ⟨_, _, _, ?_, 0, by omega, rfl, rfl, rfl⟩
  refine Wk.sub ?_ ?_ <;> (simp only [go_sem, sevalprocAttr, ya8])
 rintro n fr H ⟨i, hi, rfl, rfl, rfl⟩
 by_cases hil : i < ltI e S
 ·have c0 : decide ((i : Int) < S.length) = true := by simp; omega
  have c1 : decide ((S.getD i (0, 0)).1 < e) = true := by simpa using yz2 e S i hil
  have mg := yod S i (by omega)
  repeat' (first | omega | ((try apply yaa); simp only [go_sem, sevalprocAttr, c0, c1, mg, List.length_map]) | (apply yad <;> (intro h_; (try simp only [h_]); revert h_)) | apply yac | apply yab | apply gspI | apply And.intro | with_reducible intro h_ | trivial | (simp only [go_sem, la2]; omega))
  refine ⟨_, _, _, ?_, ?_, ⟨i + 1, by omega, rfl, rfl, rfl⟩⟩
  ·omega
  ·refine Wk.sub ?_ ?_ <;> (simp only [go_sem, sevalprocAttr, ya8])
 obtain rfl : i = ltI e S := by omega
 generalize hI : ltI e S = i at *
 by_cases hin : i < S.length
 ·have c0 : decide ((i : Int) < S.length) = true := by simp; omega
  have hge := yz3 e S (by omega)
  rw [hI] at hge
  have c1 : decide ((S.getD i (0, 0)).1 < e) = false := by rw [decide_eq_false_iff_not]; omega
  have mg := yod S i (by omega)
  have hlen := ydm S
  have hti := hS _ (ybg hin)
  by_cases he : (S.getD i (0, 0)).1 = e
  ·have c2 : ((S.getD i (0, 0)).1 == e) = true := by simpa using he
   have ep : putS e z S = S.set i (e, (S.getD i (0, 0)).2 + z) := by unfold putS; rw [hI, if_pos ⟨hin, he⟩]
   have em : (S.set i (e, (S.getD i (0, 0)).2 + z)).map (·.1) = S.map (·.1) := by
    rw [List.map_set]
    refine List.ext_getElem (by simp) fun j h1 h2 => ?_
    rw [List.getElem_set]
    split
    ·rename_i hij; subst hij
     have : (S[i]'hin).1 = e := by simpa [List.getD_eq_getElem?_getD, hin] using he
     simpa using this.symm
    ·rfl
   have g0 := ylu S i hin
   have g1 := ylv S i hin
   have hP := ylt _ _ hti hz
   rw [ep]
   have el : (S.set i (e, (S.getD i (0, 0)).2 + z)).length = S.length := by simp
   rw [el, em]
   have eset := yu2 S i e ((S.getD i (0, 0)).2 + z)
   repeat' (first | omega | ((first | apply yaa | (refine yae.intro (id := 6) yhi [[],[0],[0,1],[0,1,2],[0,1],[0,1],[0,1,2,3,4,5],[0,1],[],[]] (by decide +kernel) mixed ?_) | (refine yae.intro (id := 8) yhj yd6 (by decide +kernel) mixed ?_) | (refine yae.intro (id := 9) yhk yd6 (by decide +kernel) mixed ?_) | skip); simp only [go_sem, sevalprocAttr, c0, c1, c2, mg, List.length_map, yhm, Nat.sub_zero, yf8, yf9, yna, yhl, g0, g1, hlen, ↓reduceIte, reduceCtorEq, yhi, yhj, yd6, yhk]) | (apply yad <;> (intro h_; (try simp only [h_]); revert h_)) | apply yac | apply yab | apply gspI | apply And.intro | with_reducible intro h_ | trivial | (simp only [go_sem, la2]; omega))
   all_goals first | exact ya8 _ _ | skip
   refine ⟨yau.fn rfl hP ?_⟩
   simp only [go_sem, sevalprocAttr, c0, c1, c2, mg, List.length_map, yhm, ya8, Nat.sub_zero, yf8, yf9, yna, yhl, g0, g1, hlen]
   have hlen2 := ydm (S.set i (e, (S.getD i (0, 0)).2 + z))
   rw [el] at hlen2
   have htk : (qwC (S.set i (e, (S.getD i (0, 0)).2 + z))).take (S.length * 2) = qwC (S.set i (e, (S.getD i (0, 0)).2 + z)) := List.take_of_length_le (by omega)
   repeat' (first | omega | ((try apply yaa); simp only [go_sem, sevalprocAttr, eset, el, yhm, ya8, yhl, ylw, yi9, hlen, hlen2, htk]) | (apply yad <;> (intro h_; (try simp only [h_]); revert h_)) | apply yac | apply yab | apply gspI | apply And.intro | with_reducible intro h_ | trivial | (simp only [go_sem, la2]; omega))
   all_goals exact LeA.refl _
  ·have c2 : ((S.getD i (0, 0)).1 == e) = false := by rw [beq_eq_false_iff_ne]; exact he
   have ep : putS e z S = S.take i ++ [(e, z)] ++ S.drop i := by unfold putS; rw [hI, if_neg fun h => he h.2]
   rw [ep]
   have hR := yz0 hle e z
   generalize S.take i ++ [(e, z)] ++ S.drop i = R at hR ⊢
   obtain ⟨r0, r1, r2, r3, r4, r5, r6, r7, r8, r9, ra⟩ := hR
   rw [r0]
   have tl := yzy hle
   have tk := yzz hle
   repeat' (first | omega | ((first | apply yaa | (refine yae.introE (id := 6) (ym7) (by decide +kernel) mixed ?_) | (refine yae.intro (id := 6) yhi [[],[0],[0,1],[0,1,2],[0,1],[0,1],[0,1,2,3,4,5],[0,1],[],[]] (by decide +kernel) mixed ?_) | (refine yae.introE (id := 8) (ym8) (by decide +kernel) mixed ?_) | (refine yae.intro (id := 8) yhj yd6 (by decide +kernel) mixed ?_) | (refine yae.introE (id := 9) (ym9) (by decide +kernel) mixed ?_) | (refine yae.intro (id := 9) yhk yd6 (by decide +kernel) mixed ?_) | skip); simp only [go_sem, sevalprocAttr, tl, tk, r1, r2, r3, r4, r5, r6, r7, r8, r9, ra, ylw, yi9, ya8, c0, c1, c2, mg, List.length_map, yhm, Nat.sub_zero, yf8, yf9, yna, yhl, hlen, ↓reduceIte, reduceCtorEq, yhi, yhj, yd6, yhk, ym7, ym8, ym9]) | (apply yad <;> (intro h_; (try simp only [h_]); revert h_)) | apply yac | apply yab | apply gspI | apply And.intro | with_reducible intro h_ | trivial | (simp only [go_sem, la2]; omega))
   all_goals exact LeA.refl _
 ·have c0 : decide ((i : Int) < S.length) = false := by simp; omega
  have hlen := ydm S
  have ep : putS e z S = S.take i ++ [(e, z)] ++ S.drop i := by unfold putS; rw [hI, if_neg fun h => hin h.1]
  rw [ep]
  have hR := yz0 hle e z
  generalize S.take i ++ [(e, z)] ++ S.drop i = R at hR ⊢
  obtain ⟨r0, r1, r2, r3, r4, r5, r6, r7, r8, r9, ra⟩ := hR
  rw [r0]
  have tl := yzy hle
  have tk := yzz hle
  repeat' (first | omega | ((first | apply yaa | (refine yae.introE (id := 6) (ym7) (by decide +kernel) mixed ?_) | (refine yae.intro (id := 6) yhi [[],[0],[0,1],[0,1,2],[0,1],[0,1],[0,1,2,3,4,5],[0,1],[],[]] (by decide +kernel) mixed ?_) | (refine yae.introE (id := 8) (ym8) (by decide +kernel) mixed ?_) | (refine yae.intro (id := 8) yhj yd6 (by decide +kernel) mixed ?_) | (refine yae.introE (id := 9) (ym9) (by decide +kernel) mixed ?_) | (refine yae.intro (id := 9) yhk yd6 (by decide +kernel) mixed ?_) | skip); simp only [go_sem, sevalprocAttr, tl, tk, r1, r2, r3, r4, r5, r6, r7, r8, r9, ra, ylw, yi9, ya8, c0, List.length_map, yhm, Nat.sub_zero, yf8, yf9, yna, yhl, hlen, ↓reduceIte, reduceCtorEq, yhi, yhj, yd6, yhk, ym7, ym8, ym9]) | (apply yad <;> (intro h_; (try simp only [h_]); revert h_)) | apply yac | apply yab | apply gspI | apply And.intro | with_reducible intro h_ | trivial | (simp only [go_sem, la2]; omega))
  all_goals exact LeA.refl _
end Go.Proofs.YtebdkebfkpbmpaaGreatDoor
set_option linter.unusedSimpArgs false
set_option linter.unusedVariables false
namespace Go.Proofs.YtebdkebfkpbmpaaGreatDoor
open Go Go.RowKit
set_option maxRecDepth 100000
set_option maxHeartbeats 8000000
def ynb : List (List Nat) := [[48,49,50,51,52,53,54],[48,49,50,51,52,53,54],[46,47,49,52],[46,47,48,52],[46,47,52],[46,47,52],[46,47,48,49,50,51],[46,47],[46,47],[],[],[]]
theorem yen : eq2 Tryz.prog 130 = true := by decide +kernel
def nzS (S : List (Int × Int)) : List (Int × Int) := S.filter fun t => !(t.2 == 0)
theorem y7k (S : List (Int × Int)) : (nzS S).length <= S.length := List.length_filter_le _ _
theorem ywg (S : List (Int × Int)) (hl : S.length <= 100000) (hS : ∀ t ∈ S, -1125899906842624 <= t.2 /\ t.2 <= 1125899906842624) (hE : ∀ t ∈ S, -1048576 <= t.1 /\ t.1 <= 1048576) :
  Fn Tryz.prog 110 [qeA S, qsA S] (rpA (nzS S)) := by
 refine Fn.introL [.cell 4 38] Tryz.func110 rfl rfl (by decide) (by simp [Tryz.ntmps110]) ?_; rw [Tryz.ntmps110]
 repeat' (first | omega | ((try apply yaa); simp only [go_sem, sevalprocAttr]) | (apply yad <;> (intro h_; (try simp only [h_]); revert h_)) | apply yac | apply yab | apply gspI | apply And.intro | with_reducible intro h_ | trivial | (simp only [go_sem, la2]; omega))
 refine yah.intro (fun n fr H => ∃ i : Nat, i <= S.length /\ n = S.length - i /\ fr = [(6, I i), (5, .ptr 1 0), (4, .ptr 0 0), (1, qsA S), (0, qeA S)] /\ ((nzS (S.take i) = [] /\ H = [(1, .cells 38 (.lst [.nils, .bool false])), (0, .cells 38 (.lst [.nils, .bool false]))]) \/ H = [(3, .cells 82 (.lst (tmC (nzS (S.take i))))), (1, .cells 38 (.lst [.sl 2 3 0 (nzS (S.take i)).length, .bool false])), (0, .cells 38 (.lst [.nils, .bool false]))])) ?_ ?_
 ·refine ⟨_, _, _, ?_, 0, by omega, rfl, rfl, .inl ⟨rfl, rfl⟩⟩
  refine Wk.sub ?_ ?_ <;> (simp only [go_sem, sevalprocAttr, ya8])
 rintro n fr H ⟨i, hi, rfl, rfl, hcase⟩
 have hll := y7k (S.take i)
 have htl : (S.take i).length = i := by rw [List.length_take]; omega
 by_cases hil : i < S.length
 ·have bi : decide ((i : Int) < S.length) = true := by simp; omega
  have hsn : S.take (i + 1) = S.take i ++ [S.getD i (0, 0)] := by rw [List.take_add_one, List.getD_eq_getElem?_getD, List.getElem?_eq_getElem hil]; rfl
  have hts : nzS (S.take (i + 1)) = nzS (S.take i) ++ nzS [S.getD i (0, 0)] := by rw [hsn]; simp [nzS]
  have hm := ybg hil
  have hz := hS _ hm
  have he := hE _ hm
  have mg := yod S i hil
  have hlen := ydm S
  have g0 := ylu S i hil
  have g1 := ylv S i hil
  have hsm := yzw _ hz
  generalize S.getD i (0, 0) = t at *
  obtain ⟨e, z⟩ := t
  simp only at hz he mg g0 g1 hsm
  have c3 : decide (e < -1048576) = false := by rw [decide_eq_false_iff_not]; omega
  have c4 : decide (1048576 < e) = false := by rw [decide_eq_false_iff_not]; omega
  by_cases h0 : z = 0
  ·have b0 : ((z / 1125899906842624 == 0) && (z % 1125899906842624 == 0)) = true := by subst h0; rfl
   have hts' : nzS (S.take (i + 1)) = nzS (S.take i) := by rw [hts, show nzS [(e, z)] = [] by subst h0; rfl, List.append_nil]
   rcases hcase with ⟨hnil, rfl⟩ | rfl
   ·repeat' (first | omega | ((try apply yaa); simp only [go_sem, sevalprocAttr, bi, b0, mg, g0, g1, hlen, yen, List.length_map]) | (apply yad <;> (intro h_; (try simp only [h_]); revert h_)) | apply yac | apply yab | apply gspI | apply And.intro | with_reducible intro h_ | trivial | (simp only [go_sem, la2]; omega))
    refine ⟨_, _, _, ?_, ?_, ⟨i + 1, by omega, rfl, rfl, .inl ⟨by rw [hts']; exact hnil, rfl⟩⟩⟩
    ·omega
    ·refine Wk.sub ?_ ?_ <;> (simp only [go_sem, sevalprocAttr, ya8])
   ·repeat' (first | omega | ((try apply yaa); simp only [go_sem, sevalprocAttr, bi, b0, mg, g0, g1, hlen, yen, List.length_map]) | (apply yad <;> (intro h_; (try simp only [h_]); revert h_)) | apply yac | apply yab | apply gspI | apply And.intro | with_reducible intro h_ | trivial | (simp only [go_sem, la2]; omega))
    refine ⟨_, _, _, ?_, ?_, ⟨i + 1, by omega, rfl, rfl, .inr rfl⟩⟩
    ·omega
    ·rw [hts']
     refine Wk.sub ?_ ?_ <;> (simp only [go_sem, sevalprocAttr, ya8, yaj])
  ·have b0 : ((z / 1125899906842624 == 0) && (z % 1125899906842624 == 0)) = false := by
    rw [Bool.and_eq_false_iff, beq_eq_false_iff_ne, beq_eq_false_iff_ne]
    omega
   have hts' : nzS (S.take (i + 1)) = nzS (S.take i) ++ [(e, z)] := by
    rw [hts]; congr 1
    have : (z == 0) = false := by simpa using h0
    simp [nzS, this]
   rcases hcase with ⟨hnil, rfl⟩ | rfl
   ·rw [hnil, List.nil_append] at hts'
    have e5 : tmC [(e, z)] = [I e, I z] := rfl
    repeat' (first | omega | ((try apply yaa); simp only [go_sem, sevalprocAttr, bi, b0, mg, g0, g1, hlen, yen, List.length_map]) | (apply yad <;> (intro h_; (try simp only [h_]); revert h_)) | apply yac | apply yab | apply gspI | apply And.intro | with_reducible intro h_ | trivial | (simp only [go_sem, la2]; omega))
    all_goals refine ⟨yaf.fn rfl hsm ?_⟩
    repeat' (first | omega | ((first | apply yaa | (refine yae.intro (id := 9) ynb [[],[],[0,1],[0,1,2],[0,1],[0,1],[0,1,2,3,4,5],[0,1],[0,1],[],[],[]] (by decide +kernel) mixed ?_) | skip); simp only [go_sem, sevalprocAttr, bi, b0, c3, c4, mg, g0, g1, hlen, yen, List.length_map, ↓reduceIte, reduceCtorEq, ynb]) | (apply yad <;> (intro h_; (try simp only [h_]); revert h_)) | apply yac | apply yab | apply gspI | apply And.intro | with_reducible intro h_ | trivial | (simp only [go_sem, la2]; omega))
    all_goals (refine ⟨_, _, _, ?_, ?_, ⟨i + 1, by omega, rfl, rfl, .inr rfl⟩⟩)
    all_goals first | omega | skip
    all_goals rw [hts']
    all_goals (refine Wk.subS 3 11 (fr1 := [(6, I ((i + 1 : Nat) : Int)), (5, .ptr 1 0), (4, .ptr 0 0), (1, qsA S), (0, qeA S)]) (H1 := [(11, .cells 82 (.lst (tmC [(e, z)]))), (1, .cells 38 (.lst [.sl 2 11 0 [(e, z)].length, .bool false])), (0, .cells 38 (.lst [.nils, .bool false]))]) rfl rfl rfl rfl ?_ ?_ <;> (simp only [go_sem, sevalprocAttr, e5, ya8]))
   ·have e5 := yib (nzS (S.take i)) e z
    have e6 : (nzS (S.take i) ++ [(e, z)]).length = (nzS (S.take i)).length + 1 := by simp
    have e7 := ybh (nzS (S.take i))
    repeat' (first | omega | ((try apply yaa); simp only [go_sem, sevalprocAttr, bi, b0, mg, g0, g1, hlen, yen, List.length_map]) | (apply yad <;> (intro h_; (try simp only [h_]); revert h_)) | apply yac | apply yab | apply gspI | apply And.intro | with_reducible intro h_ | trivial | (simp only [go_sem, la2]; omega))
    all_goals refine ⟨yaf.fn rfl hsm ?_⟩
    repeat' (first | omega | ((first | apply yaa | (refine yae.intro (id := 9) ynb [[],[],[0,1],[0,1,2],[0,1],[0,1],[0,1,2,3,4,5],[0,1],[0,1],[],[],[]] (by decide +kernel) mixed ?_) | skip); simp only [go_sem, sevalprocAttr, bi, b0, c3, c4, mg, g0, g1, hlen, yen, List.length_map, ↓reduceIte, reduceCtorEq, ynb]) | (apply yad <;> (intro h_; (try simp only [h_]); revert h_)) | apply yac | apply yab | apply gspI | apply And.intro | with_reducible intro h_ | trivial | (simp only [go_sem, la2]; omega))
    all_goals (refine ⟨_, _, _, ?_, ?_, ⟨i + 1, by omega, rfl, rfl, .inr rfl⟩⟩)
    all_goals first | omega | skip
    all_goals rw [hts']
    all_goals (refine Wk.subS 3 13 (fr1 := [(6, I ((i + 1 : Nat) : Int)), (5, .ptr 1 0), (4, .ptr 0 0), (1, qsA S), (0, qeA S)]) (H1 := [(13, .cells 82 (.lst (tmC (nzS (S.take i) ++ [(e, z)])))), (1, .cells 38 (.lst [.sl 2 13 0 (nzS (S.take i) ++ [(e, z)]).length, .bool false])), (0, .cells 38 (.lst [.nils, .bool false]))]) rfl (by simp only [swH, swO, List.map_cons, List.map_nil, ypo]; rfl) rfl (by simp only [swH, swO, List.map_cons, List.map_nil, ypo]; rfl) ?_ ?_ <;> (simp only [go_sem, sevalprocAttr, e5, e6, ya8, yaj]))
 ·obtain rfl : i = S.length := by omega
  have bi : decide ((S.length : Int) < S.length) = false := by simp
  rw [List.take_length] at hcase hll
  rcases hcase with ⟨hnil, rfl⟩ | rfl
  ·rw [hnil]
   repeat' (first | omega | ((try apply yaa); simp only [go_sem, sevalprocAttr, bi, List.length_map]) | (apply yad <;> (intro h_; (try simp only [h_]); revert h_)) | apply yac | apply yab | apply gspI | apply And.intro | with_reducible intro h_ | trivial | (simp only [go_sem, la2]; omega))
   all_goals exact LeA.aggL (.cons (LeA.nils (by omega) rfl) (.cons (LeA.refl _) .nil))
  ·have e := ybh (nzS S)
   repeat' (first | omega | ((try apply yaa); simp only [go_sem, sevalprocAttr, bi, List.length_map]) | (apply yad <;> (intro h_; (try simp only [h_]); revert h_)) | apply yac | apply yab | apply gspI | apply And.intro | with_reducible intro h_ | trivial | (simp only [go_sem, la2]; omega))
   all_goals (rw [List.take_of_length_le (by omega)]; exact LeA.refl _)
end Go.Proofs.YtebdkebfkpbmpaaGreatDoor
