/- Layer 15, the reference: joined, Circles. -/
import Derived.Test.YtebdkebfkpbmpaaGreatDoorXc
import Derived.Test.YtebdkebfkpbmpaaGreatDoorXl
import Derived.Test.YtebdkebfkpbmpaaGreatDoorXd
set_option linter.unusedSimpArgs false
set_option linter.unusedVariables false
namespace Go.Proofs.YtebdkebfkpbmpaaGreatDoor
open Go Go.RowKit
set_option maxHeartbeats 8000000
set_option maxRecDepth 100000
theorem yz8 (h : Int) (b : Bool) (h0 : 0 <= h) (h1 : h <= 100000) : Fn Tryz.prog 142 [I h, .bool b] (I (jnB b h)) := by
 have t1 := ylr h 1 h0 h1
 have t2 := ylr h (-1) h0 h1
 have e : h.tmod 2 = h % 2 := Int.tmod_eq_emod_of_nonneg h0
 unfold jnB
 by_cases hp : h % 2 = 1
 ·have b1 : (h % 2 == 1) = true := by simpa using hp
  have b0 : (h % 2 == 0) = false := by rw [beq_eq_false_iff_ne]; omega
  rw [decide_eq_true hp]
  cases b
  ·rw [if_neg (by simp)]
   refine Fn.intro [.tmp 4] Tryz.func142 rfl rfl (by decide) (by simp [Tryz.ntmps142]) ?_; rw [Tryz.ntmps142]
   repeat' (first | omega | ((try apply yaa); simp only [go_sem, sevalprocAttr, e, b0, b1]) | (apply yad <;> (intro h_; (try simp only [h_]); revert h_)) | apply yac | apply yab | apply gspI | apply And.intro | with_reducible intro h_ | trivial | (simp only [go_sem, la2]; omega))
   refine ⟨yaf.fn rfl t2 ?_⟩
   repeat' (first | omega | ((try apply yaa); simp only [go_sem, sevalprocAttr]) | (apply yad <;> (intro h_; (try simp only [h_]); revert h_)) | apply yac | apply yab | apply gspI | apply And.intro | with_reducible intro h_ | trivial | (simp only [go_sem, la2]; omega))
  ·rw [if_pos rfl]
   refine Fn.intro [.tmp 4] Tryz.func142 rfl rfl (by decide) (by simp [Tryz.ntmps142]) ?_; rw [Tryz.ntmps142]
   repeat' (first | omega | ((try apply yaa); simp only [go_sem, sevalprocAttr, e, b0, b1]) | (apply yad <;> (intro h_; (try simp only [h_]); revert h_)) | apply yac | apply yab | apply gspI | apply And.intro | with_reducible intro h_ | trivial | (simp only [go_sem, la2]; omega))
   refine ⟨yaf.fn rfl t1 ?_⟩
   repeat' (first | omega | ((try apply yaa); simp only [go_sem, sevalprocAttr]) | (apply yad <;> (intro h_; (try simp only [h_]); revert h_)) | apply yac | apply yab | apply gspI | apply And.intro | with_reducible intro h_ | trivial | (simp only [go_sem, la2]; omega))
 ·have b1 : (h % 2 == 1) = false := by rw [beq_eq_false_iff_ne]; exact hp
  have b0 : (h % 2 == 0) = true := by rw [beq_iff_eq]; omega
  rw [decide_eq_false hp]
  cases b
  ·rw [if_pos rfl]
   refine Fn.intro [.tmp 4] Tryz.func142 rfl rfl (by decide) (by simp [Tryz.ntmps142]) ?_; rw [Tryz.ntmps142]
   repeat' (first | omega | ((try apply yaa); simp only [go_sem, sevalprocAttr, e, b0, b1]) | (apply yad <;> (intro h_; (try simp only [h_]); revert h_)) | apply yac | apply yab | apply gspI | apply And.intro | with_reducible intro h_ | trivial | (simp only [go_sem, la2]; omega))
   refine ⟨yaf.fn rfl t1 ?_⟩
   repeat' (first | omega | ((try apply yaa); simp only [go_sem, sevalprocAttr]) | (apply yad <;> (intro h_; (try simp only [h_]); revert h_)) | apply yac | apply yab | apply gspI | apply And.intro | with_reducible intro h_ | trivial | (simp only [go_sem, la2]; omega))
  ·rw [if_neg (by simp)]
   refine Fn.intro [.tmp 4] Tryz.func142 rfl rfl (by decide) (by simp [Tryz.ntmps142]) ?_; rw [Tryz.ntmps142]
   repeat' (first | omega | ((try apply yaa); simp only [go_sem, sevalprocAttr, e, b0, b1]) | (apply yad <;> (intro h_; (try simp only [h_]); revert h_)) | apply yac | apply yab | apply gspI | apply And.intro | with_reducible intro h_ | trivial | (simp only [go_sem, la2]; omega))
   refine ⟨yaf.fn rfl t2 ?_⟩
   repeat' (first | omega | ((try apply yaa); simp only [go_sem, sevalprocAttr]) | (apply yad <;> (intro h_; (try simp only [h_]); revert h_)) | apply yac | apply yab | apply gspI | apply And.intro | with_reducible intro h_ | trivial | (simp only [go_sem, la2]; omega))
abbrev mtF (m : List Int) (x : Int) : Int := m.getD x.toNat 0
abbrev jnF (st : List Bool) (x : Int) : Int := jnB (st.getD (x / 4).toNat false) x
def ngR (N k : Nat) : List Int := (List.range N).map fun x => if x < k then (-1 : Int) else 0
theorem yu6 (N k : Nat) : (ngR N k).length = N := by simp [ngR]
theorem ngR_0 (N : Nat) : ngR N 0 = List.replicate N 0 := by
 apply List.ext_getElem?
 intro i
 by_cases h : i < N <;> simp [ngR, h]
theorem y7n (N k : Nat) (h : k < N) : (ngR N k).set k (-1) = ngR N (k + 1) := by
 apply List.ext_getElem?
 intro i
 rw [List.getElem?_set, yu6]
 by_cases e : k = i
 ·subst e; simp [ngR, h]
 ·rw [if_neg e]
  by_cases hi : i < N
  ·simp only [ngR, List.getElem?_map, List.getElem?_range hi, Option.map_some]
   by_cases h2 : i < k
   ·rw [if_pos h2, if_pos (by omega)]
   ·rw [if_neg h2, if_neg (by omega)]
  ·simp [ngR, hi]
theorem y3l (N : Nat) : ngR N N = List.replicate N (-1) := by
 apply List.ext_getElem?
 intro i
 by_cases h : i < N <;> simp [ngR, h]
theorem yu7 (mt jn : Int -> Int) (h : Int) : ∀ f out g, (crW mt jn h f out g).length = out.length
 | 0, _, _ => rfl
 | f + 1, out, g => by
   simp only [crW]; split
   ·rw [yu7]; simp
   ·rfl
theorem yj8 (mt jn : Int -> Int) (N : Nat) : ∀ k, (crN mt jn N k).length = N
 | 0 => by simp [crN]
 | k + 1 => by
   simp only [crN]; split
   ·exact yj8 mt jn N k
   ·rw [yu7]; exact yj8 mt jn N k
theorem ys5 (l : List Int) (i : Nat) (h : Int) (h0 : 0 <= h) : negs (l.set i h) <= negs l := by
 unfold negs
 induction l generalizing i with
 | nil => simp
 | cons x l ih =>
   cases i with
   | zero =>
     simp only [List.set_cons_zero, List.countP_cons, decide_eq_true_eq]
     rw [if_neg (show ¬ h < 0 by omega)]; omega
   | succ i =>
     simp only [List.set_cons_succ, List.countP_cons]
     have := ih i
     omega
theorem ywh (s m : List Int) (L : Int) (st : List Bool) (hs : s.length <= 1000) (hm : ya6 m s.length) (hst : st.length = s.length) :
  Fn Tryz.prog 107 [dgA s m L, roB st] (roI (crN (mtF m) (jnF st) m.length m.length)) := by
 have hml := hm.1
 refine Fn.introL [.tmp 4] Tryz.func107 rfl rfl (by decide) (by simp [Tryz.ntmps107]) ?_; rw [Tryz.ntmps107]
 repeat' (first | omega | ((try apply yaa); simp only [go_sem, sevalprocAttr]) | (apply yad <;> (intro h_; (try simp only [h_]); revert h_)) | apply yac | apply yab | apply gspI | apply And.intro | with_reducible intro h_ | trivial | (simp only [go_sem, la2]; omega))
 refine yah.intro (fun n fr H => ∃ k : Nat, k <= m.length /\ n = m.length - k /\ fr = [(6, I k), (5, .sl 1 1 0 m.length), (2, .ptr 0 0), (1, roB st)] /\ H = [(1, .cells 3 (.ints (ngR m.length k))), (0, .cells 24 (.lst [roI s, roI m, I L]))]) ?_ ?_
 ·refine ⟨_, _, _, ?_, 0, by omega, rfl, rfl, rfl⟩
  rw [ngR_0]
  refine Wk.sub ?_ ?_ <;> simp only [go_sem, sevalprocAttr]
  all_goals simp_all
 rintro n fr H ⟨k, hk, rfl, rfl, rfl⟩
 have il := yu6 m.length k
 by_cases hkl : k < m.length
 ·repeat' (first | omega | ((try apply yaa); simp only [go_sem, sevalprocAttr]) | (apply yad <;> (intro h_; (try simp only [h_]); revert h_)) | apply yac | apply yab | apply gspI | apply And.intro | with_reducible intro h_ | trivial | (simp only [go_sem, la2]; omega))
  rw [y7n m.length k hkl]
  refine ⟨_, _, _, ?_, ?_, ⟨k + 1, by omega, rfl, rfl, rfl⟩⟩
  ·omega
  ·refine Wk.sub ?_ ?_ <;> simp only [go_sem, sevalprocAttr]
   all_goals simp_all
 obtain rfl : k = m.length := by omega
 repeat' (first | omega | ((try apply yaa); simp only [go_sem, sevalprocAttr]) | (apply yad <;> (intro h_; (try simp only [h_]); revert h_)) | apply yac | apply yab | apply gspI | apply And.intro | with_reducible intro h_ | trivial | (simp only [go_sem, la2]; omega))
 refine yah.intro (fun n fr H => ∃ k : Nat, k <= m.length /\ n = m.length - k /\ fr = [(7, I k), (5, .sl 1 1 0 m.length), (2, .ptr 0 0), (1, roB st)] /\ H = [(1, .cells 3 (.ints (crN (mtF m) (jnF st) m.length k))), (0, .cells 24 (.lst [roI s, roI m, I L]))]) ?_ ?_
 ·refine ⟨_, _, _, ?_, 0, by omega, rfl, rfl, rfl⟩
  rw [y3l]
  refine Wk.sub ?_ ?_ <;> simp only [go_sem, sevalprocAttr]
  all_goals simp_all [crN]
 clear hk il hkl
 rintro n fr H ⟨k, hk, rfl, rfl, rfl⟩
 have cl := yj8 (mtF m) (jnF st) m.length k
 by_cases hkl : k < m.length
 ·by_cases hpos : 0 <= (crN (mtF m) (jnF st) m.length k).getD k 0
  ·have b0 : decide (0 <= (crN (mtF m) (jnF st) m.length k).getD k 0) = true := by simpa using hpos
   have eC : crN (mtF m) (jnF st) m.length (k + 1) = crN (mtF m) (jnF st) m.length k := by simp only [crN, if_pos hpos]
   repeat' (first | omega | ((try apply yaa); simp only [go_sem, sevalprocAttr, b0]) | (apply yad <;> (intro h_; (try simp only [h_]); revert h_)) | apply yac | apply yab | apply gspI | apply And.intro | with_reducible intro h_ | trivial | (simp only [go_sem, la2]; omega))
   refine ⟨_, _, _, ?_, ?_, ⟨k + 1, by omega, rfl, rfl, rfl⟩⟩
   ·omega
   ·rw [eC]
    refine Wk.sub ?_ ?_ <;> simp only [go_sem, sevalprocAttr]
    all_goals simp_all
  ·have b0 : decide (0 <= (crN (mtF m) (jnF st) m.length k).getD k 0) = false := by simpa using hpos
   have eC : crN (mtF m) (jnF st) m.length (k + 1) = crW (mtF m) (jnF st) k (m.length + 1) (crN (mtF m) (jnF st) m.length k) k := by simp only [crN, if_neg hpos]
   generalize crN (mtF m) (jnF st) m.length k = C at *
   have hng := ynj C
   repeat' (first | omega | ((try apply yaa); simp only [go_sem, sevalprocAttr, b0]) | (apply yad <;> (intro h_; (try simp only [h_]); revert h_)) | apply yac | apply yab | apply gspI | apply And.intro | with_reducible intro h_ | trivial | (simp only [go_sem, la2]; omega))
   refine yah.intro (fun n fr H => ∃ (out : List Int) (g f : Nat), out.length = m.length /\ g < m.length /\ n = negs out /\ negs out < f /\ crW (mtF m) (jnF st) k f out g = crN (mtF m) (jnF st) m.length (k + 1) /\ fr = [(8, I g), (7, I k), (5, .sl 1 1 0 m.length), (2, .ptr 0 0), (1, roB st)] /\ H = [(1, .cells 3 (.ints out)), (0, .cells 24 (.lst [roI s, roI m, I L]))]) ?_ ?_
   ·refine ⟨_, _, _, ?_, C, k, m.length + 1, cl, hkl, rfl, by omega, eC.symm, rfl, rfl⟩
    refine Wk.sub ?_ ?_ <;> simp only [go_sem, sevalprocAttr]
    all_goals simp_all
   rintro n fr H ⟨out, g, f, ol, hg, rfl, hf, hW, rfl, rfl⟩
   obtain ⟨f, rfl⟩ : ∃ f', f = f' + 1 := ⟨f - 1, by omega⟩
   by_cases hneg : out.getD g 0 < 0
   ·have b1 : decide (out.getD g 0 < 0) = true := by simpa using hneg
    have hmr := hm.2 g (by omega)
    obtain ⟨y, hy⟩ : ∃ y : Nat, m.getD g 0 = y := ⟨(m.getD g 0).toNat, by omega⟩
    rw [hy] at hmr
    have hq : ((y : Int)).tdiv 4 = ((y / 4 : Nat) : Int) := by rw [ydi (by omega)]; omega
    have hJ := yz8 y (st.getD (y / 4) false) (by omega) (by omega)
    have hjd := yed (st.getD (y / 4) false) y
    obtain ⟨z, hzz⟩ : ∃ z : Nat, jnB (st.getD (y / 4) false) y = z := ⟨(jnB (st.getD (y / 4) false) y).toNat, by omega⟩
    rw [hzz] at hJ hjd
    have hW2 : crW (mtF m) (jnF st) k (f + 1) out g = crW (mtF m) (jnF st) k f ((out.set g k).set y k) z := by
     have e1 : mtF m g = y := by simp only [mtF, Int.toNat_natCast]; exact hy
     have e2 : jnF st (y : Int) = z := by simp only [jnF]; rw [show ((y : Int) / 4).toNat = y / 4 by omega]; exact hzz
     simp only [crW, Int.toNat_natCast]
     rw [if_pos hneg, e1, e2, Int.toNat_natCast]
    rw [hW2] at hW
    have hs1 := yhz (l := out) (i := g) (p := (k : Int)) (by omega) hneg (by omega)
    have hs2 := ys5 (out.set g k) y k (by omega)
    repeat' (first | omega | ((try apply yaa); simp only [go_sem, sevalprocAttr, b1, hy, hq]) | (apply yad <;> (intro h_; (try simp only [h_]); revert h_)) | apply yac | apply yab | apply gspI | apply And.intro | with_reducible intro h_ | trivial | (simp only [go_sem, la2]; omega))
    refine ⟨yaf.fn rfl hJ ?_⟩
    repeat' (first | omega | ((try apply yaa); simp only [go_sem, sevalprocAttr]) | (apply yad <;> (intro h_; (try simp only [h_]); revert h_)) | apply yac | apply yab | apply gspI | apply And.intro | with_reducible intro h_ | trivial | (simp only [go_sem, la2]; omega))
    refine ⟨_, _, _, ?_, ?_, ⟨(out.set g k).set y k, z, f, by simp [ol], by omega, rfl, by omega, hW, rfl, rfl⟩⟩
    ·omega
    ·refine Wk.sub ?_ ?_ <;> simp only [go_sem, sevalprocAttr]
     all_goals simp_all
   ·have b1 : decide (out.getD g 0 < 0) = false := by simpa using hneg
    have hW2 : crW (mtF m) (jnF st) k (f + 1) out g = out := by
     simp only [crW, Int.toNat_natCast]
     rw [if_neg hneg]
    rw [hW2] at hW
    repeat' (first | omega | ((try apply yaa); simp only [go_sem, sevalprocAttr, b1]) | (apply yad <;> (intro h_; (try simp only [h_]); revert h_)) | apply yac | apply yab | apply gspI | apply And.intro | with_reducible intro h_ | trivial | (simp only [go_sem, la2]; omega))
    refine ⟨_, _, _, ?_, ?_, ⟨k + 1, by omega, rfl, rfl, rfl⟩⟩
    ·omega
    ·rw [← hW]
     refine Wk.sub ?_ ?_ <;> simp only [go_sem, sevalprocAttr]
     all_goals simp_all
 ·obtain rfl : k = m.length := by omega
  repeat' (first | omega | ((try apply yaa); simp only [go_sem, sevalprocAttr]) | (apply yad <;> (intro h_; (try simp only [h_]); revert h_)) | apply yac | apply yab | apply gspI | apply And.intro | with_reducible intro h_ | trivial | (simp only [go_sem, la2]; omega))
  all_goals exact LeA.of (by rw [cl, List.take_of_length_le (by omega)])
end Go.Proofs.YtebdkebfkpbmpaaGreatDoor
set_option linter.unusedSimpArgs false
set_option linter.unusedVariables false
namespace Go.Proofs.YtebdkebfkpbmpaaGreatDoor
open Go Go.RowKit
set_option maxHeartbeats 8000000
set_option maxRecDepth 100000
def rtN (R : List Int) : Nat -> Nat
 | 0 => 0
 | k + 1 => rtN R k + if R.getD k 0 = (k : Int) then 1 else 0
theorem yz9 (R : List Int) : ∀ k, rtN R k = (List.range k).countP fun x => R.getD x 0 == (x : Int)
 | 0 => rfl
 | k + 1 => by
   rw [List.range_succ, List.countP_append, ← yz9 R k]
   simp only [rtN, List.countP_cons, List.countP_nil, beq_iff_eq]
   omega
theorem y0a (R : List Int) : ∀ k, rtN R k <= k
 | 0 => Nat.le_refl _
 | k + 1 => by have := y0a R k; simp only [rtN]; split <;> omega
theorem y0b (s m : List Int) (L : Int) (st : List Bool) (hs : s.length <= 1000) (hL : 0 <= L /\ L <= 1000) (hm : ya6 m s.length) (hst : st.length = s.length) :
  Fn Tryz.prog 59 [dgA s m L, roB st] (I ((roots (crN (mtF m) (jnF st) m.length m.length) : Int) + L)) := by
 have hC := ywh s m L st hs hm hst
 have cl := yj8 (mtF m) (jnF st) m.length m.length
 have hml := hm.1
 have hrt : roots (crN (mtF m) (jnF st) m.length m.length) = rtN (crN (mtF m) (jnF st) m.length m.length) m.length := by rw [yz9, roots, cl]
 rw [hrt]
 generalize crN (mtF m) (jnF st) m.length m.length = R at *
 refine Fn.introL [.tmp 4] Tryz.func59 rfl rfl (by decide) (by simp [Tryz.ntmps59]) ?_; rw [Tryz.ntmps59]
 repeat' (first | omega | ((try apply yaa); simp only [go_sem, sevalprocAttr]) | (apply yad <;> (intro h_; (try simp only [h_]); revert h_)) | apply yac | apply yab | apply gspI | apply And.intro | with_reducible intro h_ | trivial | (simp only [go_sem, la2]; omega))
 refine ⟨yaf.fn rfl hC ?_⟩
 repeat' (first | omega | ((try apply yaa); simp only [go_sem, sevalprocAttr]) | (apply yad <;> (intro h_; (try simp only [h_]); revert h_)) | apply yac | apply yab | apply gspI | apply And.intro | with_reducible intro h_ | trivial | (simp only [go_sem, la2]; omega))
 refine yah.intro (fun n fr H => ∃ k : Nat, k <= R.length /\ n = R.length - k /\ fr = [(7, I k), (6, I ((rtN R k : Int) + L)), (5, roI R)] /\ H = []) ?_ ?_
 ·refine ⟨_, _, _, ?_, 0, by omega, rfl, rfl, rfl⟩
  refine Wk.sub ?_ ?_ <;> simp only [go_sem, sevalprocAttr]
  all_goals simp_all [rtN]
 rintro n fr H ⟨k, hk, rfl, rfl, rfl⟩
 have hle := y0a R k
 by_cases hkl : k < R.length
 ·by_cases hq : R.getD k 0 = (k : Int)
  ·have b0 : (R.getD k 0 == (k : Int)) = true := by simpa using hq
   have e1 : (rtN R k : Int) + L + 1 = (rtN R (k + 1) : Int) + L := by simp only [rtN, if_pos hq]; omega
   repeat' (first | omega | ((try apply yaa); simp only [go_sem, sevalprocAttr, b0, e1]) | (apply yad <;> (intro h_; (try simp only [h_]); revert h_)) | apply yac | apply yab | apply gspI | apply And.intro | with_reducible intro h_ | trivial | (simp only [go_sem, la2]; omega))
   refine ⟨_, _, _, ?_, ?_, ⟨k + 1, by omega, rfl, rfl, rfl⟩⟩
   ·omega
   ·refine Wk.sub ?_ ?_ <;> simp only [go_sem, sevalprocAttr]
    all_goals simp_all
  ·have b0 : (R.getD k 0 == (k : Int)) = false := by rw [beq_eq_false_iff_ne]; exact hq
   have e1 : rtN R (k + 1) = rtN R k := by simp only [rtN, if_neg hq]; rfl
   repeat' (first | omega | ((try apply yaa); simp only [go_sem, sevalprocAttr, b0]) | (apply yad <;> (intro h_; (try simp only [h_]); revert h_)) | apply yac | apply yab | apply gspI | apply And.intro | with_reducible intro h_ | trivial | (simp only [go_sem, la2]; omega))
   refine ⟨_, _, _, ?_, ?_, ⟨k + 1, by omega, rfl, rfl, rfl⟩⟩
   ·omega
   ·rw [e1]
    refine Wk.sub ?_ ?_ <;> simp only [go_sem, sevalprocAttr]
    all_goals simp_all
 ·obtain rfl : k = R.length := by omega
  repeat' (first | omega | ((try apply yaa); simp only [go_sem, sevalprocAttr]) | (apply yad <;> (intro h_; (try simp only [h_]); revert h_)) | apply yac | apply yab | apply gspI | apply And.intro | with_reducible intro h_ | trivial | (simp only [go_sem, la2]; omega))
  all_goals exact LeA.of (by rw [cl])
end Go.Proofs.YtebdkebfkpbmpaaGreatDoor
set_option linter.unusedSimpArgs false
set_option linter.unusedVariables false
namespace Go.Proofs.YtebdkebfkpbmpaaGreatDoor
open Go Go.RowKit
set_option maxHeartbeats 8000000
set_option maxRecDepth 100000
def stR (b N k : Nat) : List Bool := (List.range N).map fun x => if x < k then chB b x else false
theorem yj9 (b N k : Nat) : (stR b N k).length = N := by simp [stR]
theorem stR_0 (b N : Nat) : stR b N 0 = List.replicate N false := by
 apply List.ext_getElem?
 intro i
 by_cases h : i < N <;> simp [stR, h]
theorem y7o (b N k : Nat) (h : k < N) : (stR b N k).set k (chB b k) = stR b N (k + 1) := by
 apply List.ext_getElem?
 intro i
 rw [List.getElem?_set, yj9]
 by_cases e : k = i
 ·subst e; simp [stR, h]
 ·rw [if_neg e]
  by_cases hi : i < N
  ·simp only [stR, List.getElem?_map, List.getElem?_range hi, Option.map_some]
   by_cases h2 : i < k
   ·rw [if_pos h2, if_pos (by omega)]
   ·rw [if_neg h2, if_neg (by omega)]
  ·simp [stR, hi]
theorem yu8 {b N c : Nat} (h : c < N) : (stR b N N).getD c false = chB b c := by
 simp [stR, List.getD_eq_getElem?_getD, h]
theorem y3m (n b : Nat) (hn : n <= 60) (hb : b <= 100000) : Fn Tryz.prog 58 [I n, I b] (roB (stR b n n)) := by
 refine Fn.introL [.tmp 4] Tryz.func58 rfl rfl (by decide) (by simp [Tryz.ntmps58]) ?_; rw [Tryz.ntmps58]
 repeat' (first | omega | ((try apply yaa); simp only [go_sem, sevalprocAttr]) | (apply yad <;> (intro h_; (try simp only [h_]); revert h_)) | apply yac | apply yab | apply gspI | apply And.intro | with_reducible intro h_ | trivial | (simp only [go_sem, la2]; omega))
 refine yah.intro (fun t fr H => ∃ k : Nat, k <= n /\ t = n - k /\ fr = [(6, I k), (5, .sl 1 0 0 n), (1, I b), (0, I n)] /\ H = [(0, .cells 4 (.bools (stR b n k)))]) ?_ ?_
 ·refine ⟨_, _, _, ?_, 0, by omega, rfl, rfl, rfl⟩
  rw [stR_0]
  refine Wk.sub ?_ ?_ <;> simp only [go_sem, sevalprocAttr]
  all_goals simp_all
 rintro t fr H ⟨k, hk, rfl, rfl, rfl⟩
 have il := yj9 b n k
 by_cases hkl : k < n
 ·have e0 : (b : Int) / 2 ^ k = ((b / 2 ^ k : Nat) : Int) := by simp
  have hlt : b / 2 ^ k <= b := Nat.div_le_self _ _
  have e3 : ((b / 2 ^ k : Nat) : Int).tmod 2 = ((b / 2 ^ k % 2 : Nat) : Int) := by
   generalize b / 2 ^ k = y
   rw [yjk (by omega)]; omega
  have e2 : (((b / 2 ^ k % 2 : Nat) : Int) == 1) = chB b k := by
   unfold chB
   by_cases h : b / 2 ^ k % 2 = 1
   ·simp [h]
   ·have : ((b / 2 ^ k % 2 : Nat) : Int) ≠ 1 := by omega
    rw [beq_eq_false_iff_ne.2 this, beq_eq_false_iff_ne.2 h]
  have bk : decide ((k : Int) < n) = true := by simp; omega
  repeat' (first | omega | ((try apply yaa); simp only [go_sem, sevalprocAttr, bk, e0, e2, e3, Int.toNat_natCast, il]) | (apply yad <;> (intro h_; (try simp only [h_]); revert h_)) | apply yac | apply yab | apply gspI | apply And.intro | with_reducible intro h_ | trivial | (simp only [go_sem, la2]; omega))
  rw [y7o b n k hkl]
  refine ⟨_, _, _, ?_, ?_, ⟨k + 1, by omega, rfl, rfl, rfl⟩⟩
  ·omega
  ·refine Wk.sub ?_ ?_ <;> simp only [go_sem, sevalprocAttr]
   all_goals simp_all
 ·obtain rfl : k = n := by omega
  have bk : decide ((k : Int) < k) = false := by simp
  repeat' (first | omega | ((try apply yaa); simp only [go_sem, sevalprocAttr, bk, il]) | (apply yad <;> (intro h_; (try simp only [h_]); revert h_)) | apply yac | apply yab | apply gspI | apply And.intro | with_reducible intro h_ | trivial | (simp only [go_sem, la2]; omega))
  all_goals (rw [List.take_of_length_le (by omega)]; exact LeA.of (by simp [il]))
end Go.Proofs.YtebdkebfkpbmpaaGreatDoor
