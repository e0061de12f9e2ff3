/- The state sum by the numbers of B-smoothings and of circles. -/
import Derived.Test.YtebdkebfkpbmpaaGreatDoorXd
set_option linter.unusedSimpArgs false
set_option linter.unusedVariables false
namespace Go.Proofs.YtebdkebfkpbmpaaGreatDoor
set_option maxRecDepth 100000
def tvB (m : List Int) (n L K b c : Nat) : Int := sm (fun k => if cN m n L k = c /\ cntB k n = b then 1 else 0) K
def trmB (m : List Int) (n L b c : Nat) (e : Int) : Int := tvB m n L (2 ^ n) b c * dpw (c - 1) (e - ((n : Int) - 2 * b))
def inB (m : List Int) (n L b j : Nat) (e : Int) : Int := sm (fun i => trmB m n L b (i + 1) e) j
def psB (m : List Int) (n L b j : Nat) (e : Int) : Int := sm (fun x => inB m n L x (2 * n + L + 1) e) b + inB m n L b j e
theorem y9d (m : List Int) (n L b j : Nat) (e : Int) : psB m n L b (j + 1) e = psB m n L b j e + trmB m n L b (j + 1) e := by
 unfold psB inB
 simp only [sm]; omega
theorem y7m (m : List Int) (n L b : Nat) (e : Int) : psB m n L (b + 1) 0 e = psB m n L b (2 * n + L + 1) e := by
 unfold psB
 simp only [sm, inB]; omega
theorem yj7 {m : List Int} {n L : Nat} (hp : PmOk m n) (e : Int) : psB m n L (n + 1) 0 e = brT m n L 1 e := by
 have h0 : psB m n L (n + 1) 0 e = sm (fun b => sm (fun j => sm (fun k => if cN m n L k = j + 1 /\ cntB k n = b then dpw j (e - ((n : Int) - 2 * b)) else 0) (2 ^ n)) (2 * n + L + 1)) (n + 1) := by
  unfold psB
  rw [show inB m n L (n + 1) 0 e = 0 from rfl, Int.add_zero]
  refine ya9 fun b _ => ya9 fun j _ => ?_
  unfold trmB tvB
  rw [Int.mul_comm, ← yym]
  refine ya9 fun k _ => ?_
  split
  ·rw [Nat.add_sub_cancel, Int.mul_one]
  ·rw [Int.mul_zero]
 rw [h0]
 have h1 : sm (fun b => sm (fun j => sm (fun k => if cN m n L k = j + 1 /\ cntB k n = b then dpw j (e - ((n : Int) - 2 * b)) else 0) (2 ^ n)) (2 * n + L + 1)) (n + 1) = sm (fun b => sm (fun k => sm (fun j => if cN m n L k = j + 1 /\ cntB k n = b then dpw j (e - ((n : Int) - 2 * b)) else 0) (2 * n + L + 1)) (2 ^ n)) (n + 1) := ya9 fun b _ => ynx _ _ _
 rw [h1, ynx]
 unfold brT hrT
 refine ya9 fun k _ => ?_
 have hb := yg3 k n
 have hc := ymx hp (L := L) k
 rw [yrd (a := cntB k n) (by omega) fun x _ hne => by
  rw [ya9 (g := fun _ => 0) fun j _ => if_neg fun h => hne h.2.symm, ycd]; omega]
 by_cases h : 1 <= cN m n L k
 ·rw [if_pos h, yrd (a := cN m n L k - 1) (by omega) fun x _ hne => if_neg fun g => by omega]
  rw [if_pos ⟨by omega, rfl⟩]
  rfl
 ·rw [if_neg h, ya9 (g := fun _ => 0) fun j _ => if_neg fun g => by omega, ycd]; omega
theorem yoe (m : List Int) (n L b c : Nat) : ∀ K, 0 <= tvB m n L K b c /\ tvB m n L K b c <= K
 | 0 => by simp [tvB, sm]
 | K + 1 => by
   have := yoe m n L b c K
   unfold tvB at *
   simp only [sm]
   split <;> omega
theorem ysi {n N : Nat} (h : n <= N) : 2 ^ n <= 2 ^ N := Nat.pow_le_pow_right (by omega) h
theorem y3i {a b A B : Int} (ha : -A <= a /\ a <= A) (hb : -B <= b /\ b <= B) : -(A * B) <= a * b /\ a * b <= A * B := by
 have h : (a * b).natAbs <= A.natAbs * B.natAbs := by rw [Int.natAbs_mul]; exact Nat.mul_le_mul (by omega) (by omega)
 have h2 : ((A.natAbs * B.natAbs : Nat) : Int) = A * B := by rw [Int.natCast_mul, Int.natAbs_of_nonneg (by omega), Int.natAbs_of_nonneg (by omega)]
 omega
theorem ypp {j : Nat} (hj : j <= 28) (e : Int) : -268435456 <= dpw j e /\ dpw j e <= 268435456 := by
 have h1 := yg2 j e
 have h2 : ((2 ^ j : Nat) : Int) <= 268435456 := by
  have := ysi hj
  rw [show (2 : Nat) ^ 28 = 268435456 by decide] at this
  omega
 omega
theorem y39 {m : List Int} {n L b c : Nat} (hn : n <= 9) : 0 <= tvB m n L (2 ^ n) b c /\ tvB m n L (2 ^ n) b c <= 512 := by
 have h1 := yoe m n L b c (2 ^ n)
 have h2 := ysi hn
 rw [show (2 : Nat) ^ 9 = 512 by decide] at h2
 omega
theorem yz6 {m : List Int} {n L b c : Nat} (hn : n <= 9) (hc : c <= 29) (e : Int) : -137438953472 <= trmB m n L b c e /\ trmB m n L b c e <= 137438953472 := by
 have h1 := y39 (m := m) (L := L) (b := b) (c := c) hn
 exact y3i (A := 512) (B := 268435456) (by omega) (ypp (by omega) _)
theorem yz7 {m : List Int} {n L b c : Nat} (hn : n <= 9) (hb : b <= n) (hc : c <= 29) {e : Int} (h : trmB m n L b c e ≠ 0) : -100 <= e /\ e <= 100 := by
 have h1 : dpw (c - 1) (e - ((n : Int) - 2 * b)) ≠ 0 := fun g => h (by unfold trmB; rw [g, Int.mul_zero])
 have := ybz _ _ h1
 omega
theorem y4a {m : List Int} {n L b j : Nat} (hn : n <= 9) (hj : j <= 29) (e : Int) : -3985729650688 <= inB m n L b j e /\ inB m n L b j e <= 3985729650688 := by
 have := ymu (f := fun i => trmB m n L b (i + 1) e) (b := 137438953472) (n := j) fun k hk => yz6 hn (by omega) e
 unfold inB
 omega
theorem y4b {m : List Int} {n L b j : Nat} (hn : n <= 9) (hb : b <= n) (hj : j <= 29) {e : Int} (h : inB m n L b j e ≠ 0) : -100 <= e /\ e <= 100 := by
 obtain ⟨k, hk, h1⟩ := ypn h
 exact yz7 hn hb (by omega) h1
theorem y4c {m : List Int} {n L b j : Nat} (hn : n <= 9) (hL : L <= 10) (hb : b <= n + 1) (hj : j <= 29) (e : Int) : -562949953421312 <= psB m n L b j e /\ psB m n L b j e <= 562949953421312 := by
 have h1 := ymu (f := fun x => inB m n L x (2 * n + L + 1) e) (b := 3985729650688) (n := b) fun k hk => y4a hn (by omega) e
 have h2 := y4a (m := m) (L := L) (b := b) (j := j) hn hj e
 unfold psB
 omega
theorem y4d {m : List Int} {n L b j : Nat} (hn : n <= 9) (hL : L <= 10) (hb : b <= n \/ b = n + 1 /\ j = 0) (hj : j <= 29) {e : Int} (h : psB m n L b j e ≠ 0) : -100 <= e /\ e <= 100 := by
 by_cases h1 : sm (fun x => inB m n L x (2 * n + L + 1) e) b = 0
 ·have h2 : inB m n L b j e ≠ 0 := fun g => h (by unfold psB; rw [h1, g]; rfl)
  rcases hb with hb | ⟨rfl, rfl⟩
  ·exact y4b hn hb hj h2
  ·exact absurd rfl h2
 ·obtain ⟨x, hx, h3⟩ := ypn h1
  exact y4b hn (by omega) (by omega) h3
def tabB (m : List Int) (n L K : Nat) : List Int := (List.range ((n + 1) * (2 * n + L + 2))).map fun i => sm (fun k => if cntB k n * (2 * n + L + 2) + cN m n L k = i then 1 else 0) K
theorem ysj (m : List Int) (n L K : Nat) : (tabB m n L K).length = (n + 1) * (2 * n + L + 2) := by simp [tabB]
theorem y9e (m : List Int) (n L : Nat) : tabB m n L 0 = List.replicate ((n + 1) * (2 * n + L + 2)) 0 := by
 apply List.ext_getElem?
 intro i
 by_cases h : i < (n + 1) * (2 * n + L + 2) <;> simp [tabB, h, sm]
theorem yu5 (m : List Int) (n L K i : Nat) (h : i < (n + 1) * (2 * n + L + 2)) : (tabB m n L K).getD i 0 = sm (fun k => if cntB k n * (2 * n + L + 2) + cN m n L k = i then 1 else 0) K := by
 simp [tabB, List.getD_eq_getElem?_getD, h]
theorem tabI {n b c W : Nat} (hb : b <= n) (hc : c < W) : b * W + c < (n + 1) * W := by
 have := Nat.mul_le_mul_right W (show b + 1 <= n + 1 by omega)
 rw [Nat.succ_mul] at this
 omega
theorem y3j {m : List Int} {n L : Nat} (hp : PmOk m n) (K : Nat) : (tabB m n L K).set (cntB K n * (2 * n + L + 2) + cN m n L K) ((tabB m n L K).getD (cntB K n * (2 * n + L + 2) + cN m n L K) 0 + 1) = tabB m n L (K + 1) := by
 have hb := yg3 K n
 have hc := ymx hp (L := L) K
 have hi := tabI (W := 2 * n + L + 2) hb (show cN m n L K < 2 * n + L + 2 by omega)
 rw [yu5 _ _ _ _ _ hi]
 generalize hI : cntB K n * (2 * n + L + 2) + cN m n L K = I0 at *
 apply List.ext_getElem?
 intro i
 rw [List.getElem?_set, ysj]
 by_cases e : I0 = i
 ·subst e
  simp [tabB, hi, sm, hI]
 ·rw [if_neg e]
  by_cases hil : i < (n + 1) * (2 * n + L + 2)
  ·simp only [tabB, List.getElem?_map, List.getElem?_range hil, Option.map_some, sm, hI]
   rw [if_neg e, Int.add_zero]
  ·simp [tabB, hil]
theorem ysk {m : List Int} {n L : Nat} (hp : PmOk m n) (K : Nat) {b c : Nat} (hb : b <= n) (hc : c <= 2 * n + L + 1) : (tabB m n L K).getD (b * (2 * n + L + 2) + c) 0 = tvB m n L K b c := by
 rw [yu5 _ _ _ _ _ (tabI hb (by omega))]
 unfold tvB
 refine ya9 fun k _ => ?_
 have hck := ymx hp (L := L) k
 by_cases h : cN m n L k = c /\ cntB k n = b
 ·rw [if_pos h, if_pos (by rw [h.1, h.2])]
 ·rw [if_neg h, if_neg fun g => h ?_]
  have h1 : (cntB k n * (2 * n + L + 2) + cN m n L k) / (2 * n + L + 2) = (b * (2 * n + L + 2) + c) / (2 * n + L + 2) := by rw [g]
  rw [Nat.mul_comm, Nat.mul_comm b, Nat.mul_add_div (by omega), Nat.mul_add_div (by omega), Nat.div_eq_of_lt (show cN m n L k < 2 * n + L + 2 by omega), Nat.div_eq_of_lt (show c < 2 * n + L + 2 by omega)] at h1
  have h2 : cntB k n = b := by omega
  rw [h2] at g
  exact ⟨by omega, h2⟩
end Go.Proofs.YtebdkebfkpbmpaaGreatDoor
