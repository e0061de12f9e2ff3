/- The reference of layer 1: turns, faces. -/
import Derived.Test.YtebdkebfkpbmpaaGreatDoorXg
import Derived.Test.YtebdkebfkpbmpaaGreatDoorPl
set_option linter.unusedSimpArgs false
set_option linter.unusedVariables false
namespace Go.Proofs.YtebdkebfkpbmpaaGreatDoor
open Go Go.RowKit
set_option maxRecDepth 100000
set_option maxHeartbeats 8000000
theorem ylr (h b : Int) (h0 : 0 <= h) (h1 : h <= 100000) : Fn Tryz.prog 139 [I h, I b] (I (yb5 h b)) := by
 have e1 : h.tmod 4 = h % 4 := Int.tmod_eq_emod_of_nonneg h0
 have e2 : -4 < b.tmod 4 /\ b.tmod 4 < 4 := ⟨Int.lt_tmod_of_pos b (by decide), Int.tmod_lt_of_pos b (by decide)⟩
 have e4 : (h % 4 + b.tmod 4).tmod 4 = if 0 <= h % 4 + b.tmod 4 then (h % 4 + b.tmod 4) % 4 else h % 4 + b.tmod 4 := by
  split
  ·exact Int.tmod_eq_emod_of_nonneg (by omega)
  ·rename_i hn
   have : (h % 4 + b.tmod 4) = -(-(h % 4 + b.tmod 4)) := by omega
   rw [this, Int.neg_tmod, Int.tmod_eq_emod_of_nonneg (by omega)]
   omega
 have e3 : ((h % 4 + b.tmod 4).tmod 4 + 4).tmod 4 = (h % 4 + b.tmod 4 + 4) % 4 := by
  rw [e4, Int.tmod_eq_emod_of_nonneg (by split <;> omega)]
  split <;> omega
 unfold yb5
 refine Fn.intro [.tmp 4] Tryz.func139 rfl rfl (by decide) (by simp [Tryz.ntmps139]) ?_; rw [Tryz.ntmps139]
 repeat' (first | omega | ((try apply yaa); simp only [go_sem, sevalprocAttr]) | (apply yad <;> (intro h_; (try simp only [h_]); revert h_)) | apply yac | apply yab | apply gspI | apply And.intro | with_reducible intro h_ | trivial | (simp only [go_sem, la2]; omega))
 all_goals try simp only [e1, e3]
 all_goals try (rw [e4]; split <;> omega)
 all_goals try omega
theorem yuy (s : List Int) (h : Int) (h0 : 0 <= h) (h1 : h < 4 * s.length) (hs : s.length <= 1000) : Fn Tryz.prog 48 [roI s, I h] (.bool (outB s h)) := by
 have e1 : h.tmod 4 = h % 4 := Int.tmod_eq_emod_of_nonneg h0
 have e2 : h.tdiv 4 = h / 4 := Int.tdiv_eq_ediv_of_nonneg h0
 refine Fn.intro [.tmp 4] Tryz.func48 rfl rfl (by decide) (by simp [Tryz.ntmps48]) ?_; rw [Tryz.ntmps48]
 repeat' (first | omega | ((try apply yaa); simp only [go_sem, sevalprocAttr]) | (apply yad <;> (intro h_; (try simp only [h_]); revert h_)) | apply yac | apply yab | apply gspI | apply And.intro | with_reducible intro h_ | trivial | (simp only [go_sem, la2]; omega))
 all_goals try simp only [e1, e2] at *
 all_goals try omega
 all_goals simp_all [outB]
theorem yr6 (m : List Int) (n h : Nat) (hn : n <= 1000) (hml : m.length = 4 * n) (hm : ∀ i, i < m.length -> 0 <= m.getD i 0 /\ m.getD i 0 < 4 * n) (hh : h < m.length) : Fn Tryz.prog 104 [roI m, I h] (roI (orbF (yag m) m.length h)) := by
 have hnx : ∀ g : Nat, g < m.length -> Fn Tryz.prog 139 [I (m.getD g 0), I (-1)] (I (yag m g)) := fun g hg => by
  have := hm g hg
  exact ylr _ _ (by omega) (by omega)
 have hrg : ∀ g : Nat, g < m.length -> 0 <= yag m g /\ yag m g < 4 * n := fun g hg => ygo (hm g hg).1 (hm g hg).2
 have hbig : ∀ g : Nat, g < m.length -> (g : Int) < m.length := fun g hg => by omega
 have hh' := hnx h hh
 refine Fn.intro [.tmp 4] Tryz.func104 rfl rfl (by decide) (by simp [Tryz.ntmps104]) ?_; rw [Tryz.ntmps104]
 repeat' (first | omega | ((try apply yaa); simp only [go_sem, sevalprocAttr]) | (apply yad <;> (intro h_; (try simp only [h_]); revert h_)) | apply yac | apply yab | apply gspI | apply And.intro | with_reducible intro h_ | trivial | (simp only [go_sem, la2]; omega))
 refine ⟨yaf.fn rfl hh' ?_⟩
 repeat' (first | omega | ((try apply yaa); simp only [go_sem, sevalprocAttr]) | (apply yad <;> (intro h_; (try simp only [h_]); revert h_)) | apply yac | apply yab | apply gspI | apply And.intro | with_reducible intro h_ | trivial | (simp only [go_sem, la2]; omega))
 refine yah.intro (fun k fr H => ∃ (acc : List Int) (g : Nat), g < m.length /\ 0 < acc.length /\ acc.length + k = m.length + 2 /\ acc ++ orbG (yag m) h (m.length + 1 - acc.length) g = orbF (yag m) m.length h /\ fr = [(6, I g), (5, .sl 1 0 0 acc.length), (1, I h), (0, roI m)] /\ H = [(0, .cells 3 (.ints acc))]) ?_ ?_
 ·have h2 := hrg h hh
  refine ⟨m.length + 1, _, _, ?_, [(h : Int)], (yag m h).toNat, by omega, by simp, by simp; omega, ?_, rfl, rfl⟩
  ·refine Wk.sub ?_ ?_ <;> simp only [go_sem, sevalprocAttr]
   all_goals omega
  ·rw [Int.toNat_of_nonneg h2.1]; simp [orbF]
 rintro k fr H ⟨acc, g, hg, ha, hk, hacc, rfl, rfl⟩
 have hg' := hnx g hg
 have hr := hrg g hg
 have key : ((g : Int) = h \/ m.length < acc.length) -> acc = orbF (yag m) m.length h := fun hc => by
  rw [← hacc]
  rcases hc with e | e
  ·have : orbG (yag m) h (m.length + 1 - acc.length) g = [] := by
    cases m.length + 1 - acc.length with
    | zero => rfl
    | succ f => simp [orbG, e]
   rw [this, List.append_nil]
  ·rw [show m.length + 1 - acc.length = 0 by omega]; simp [orbG]
 repeat' (first | omega | ((try apply yaa); simp only [go_sem, sevalprocAttr]) | (apply yad <;> (intro h_; (try simp only [h_]); revert h_)) | apply yac | apply yab | apply gspI | apply And.intro | with_reducible intro h_ | trivial | (simp only [go_sem, la2]; omega))
 ·refine ⟨yaf.fn rfl hg' ?_⟩
  repeat' (first | omega | ((try apply yaa); simp only [go_sem, sevalprocAttr]) | (apply yad <;> (intro h_; (try simp only [h_]); revert h_)) | apply yac | apply yab | apply gspI | apply And.intro | with_reducible intro h_ | trivial | (simp only [go_sem, la2]; omega))
  refine ⟨k - 1, _, _, ?_, ?_, ⟨acc ++ [(g : Int)], (yag m g).toNat, by omega, by simp, by simp; omega, ?_, rfl, rfl⟩⟩
  ·omega
  ·refine Wk.sub ?_ ?_ <;> simp only [go_sem, sevalprocAttr]
   all_goals omega
  ·rw [← hacc, Int.toNat_of_nonneg hr.1, show m.length + 1 - acc.length = (m.length + 1 - (acc ++ [(g : Int)]).length) + 1 by simp; omega]
   rw [orbG, if_neg (by omega)]; simp
 all_goals first
  | exact congrArg List.length (key (by omega))
  | (rw [List.take_length]; exact key (by omega))
end Go.Proofs.YtebdkebfkpbmpaaGreatDoor
set_option linter.unusedSimpArgs false
set_option linter.unusedVariables false
namespace Go.Proofs.YtebdkebfkpbmpaaGreatDoor
open Go Go.RowKit
set_option maxRecDepth 100000
set_option maxHeartbeats 8000000
def yj5 : List (List Nat) := [[18,21,22,23,24],[17,21,22,23,24],[21,22,23,24],[21,22,23,24],[17,18,19,20,22],[17,18,19,20,21],[17,18,19,20],[17,18,19,20],[]]
theorem y27 (a b : List Int) (hl : a.length <= 1000000) : Fn Tryz.prog 43 [roI a, roI b] (.bool (decide (a = b))) := by
 refine Fn.intro [.tmp 4] Tryz.func43 rfl rfl (by decide) (by simp [Tryz.ntmps43]) ?_; rw [Tryz.ntmps43]
 by_cases hab : a.length = b.length
 case neg =>
  have b0 : ((a.length : Int) != b.length) = true := by simp; omega
  have e : decide (a = b) = false := decide_eq_false fun e => hab (by rw [e])
  rw [e]
  repeat' (first | omega | ((first | apply yaa | (refine yae.intro (id := 6) yj5 [[],[0],[],[],[0,1,2,3],[0,1,2,3,4],[0,1,2,3],[0,1,2,3],[]] (by decide +kernel) mixed ?_) | skip); simp only [go_sem, sevalprocAttr, b0, ↓reduceIte, reduceCtorEq, yj5]) | (apply yad <;> (intro h_; (try simp only [h_]); revert h_)) | apply yac | apply yab | apply gspI | apply And.intro | with_reducible intro h_ | trivial | (simp only [go_sem, la2]; omega))
 have b0 : ((a.length : Int) != b.length) = false := by simp; omega
 repeat' (first | omega | ((first | apply yaa | (refine yae.intro (id := 6) yj5 [[],[0],[],[],[0,1,2,3],[0,1,2,3,4],[0,1,2,3],[0,1,2,3],[]] (by decide +kernel) mixed ?_) | skip); simp only [go_sem, sevalprocAttr, b0, ↓reduceIte, reduceCtorEq, yj5]) | (apply yad <;> (intro h_; (try simp only [h_]); revert h_)) | apply yac | apply yab | apply gspI | apply And.intro | with_reducible intro h_ | trivial | (simp only [go_sem, la2]; omega))
 refine yah.intro (fun n fr H => ∃ i : Nat, i <= a.length /\ n = a.length - i /\ (∀ j, j < i -> a.getD j 0 = b.getD j 0) /\ fr = [(5, I i), (1, roI b), (0, roI a)] /\ H = []) ?_ ?_
 ·refine ⟨_, _, _, ?_, 0, by omega, rfl, fun j hj => by omega, rfl, rfl⟩
  refine Wk.sub ?_ ?_ <;> simp only [go_sem, sevalprocAttr]
 rintro n fr H ⟨i, hi, rfl, hj, rfl, rfl⟩
 repeat' (first | omega | ((first | apply yaa | (refine yae.intro (id := 6) yj5 [[],[0],[],[],[0,1,2,3],[0,1,2,3,4],[0,1,2,3],[0,1,2,3],[]] (by decide +kernel) mixed ?_) | skip); simp only [go_sem, sevalprocAttr, ↓reduceIte, reduceCtorEq, yj5]) | (apply yad <;> (intro h_; (try simp only [h_]); revert h_)) | apply yac | apply yab | apply gspI | apply And.intro | with_reducible intro h_ | trivial | (simp only [go_sem, la2]; omega))
 ·exact (decide_eq_false fun e => h_ (by rw [e])).symm
 ·have h2 := h_
  refine ⟨_, _, _, ?_, ?_, ⟨i + 1, by omega, rfl, fun j hj' => ?_, rfl, rfl⟩⟩
  ·omega
  ·refine Wk.sub ?_ ?_ <;> simp only [go_sem, sevalprocAttr]
  ·by_cases e : j = i
   ·subst e; exact h2
   ·exact hj j (by omega)
 ·obtain rfl : i = a.length := by omega
  refine (decide_eq_true (List.ext_getElem hab fun j h1 h2 => ?_)).symm
  have := hj j h1
  simpa [h1, h2] using this
end Go.Proofs.YtebdkebfkpbmpaaGreatDoor
set_option linter.unusedSimpArgs false
set_option linter.unusedVariables false
namespace Go.Proofs.YtebdkebfkpbmpaaGreatDoor
open Go Go.RowKit
set_option maxRecDepth 100000
set_option maxHeartbeats 8000000
def ycx : List (List Nat) := [[38,39,40,41,42],[38,39,40,41,42],[36,37,39,8],[36,37,38,8],[36,37,8],[36,37,8],[36,37,8],[38,39,40,41,42],[]]
def ycy : List (List Nat) := [[44,47,48,49,50],[43,47,48,49,50],[47,48,49,50],[47,48,49,50],[43,44,45,46,48],[43,44,45,46,47],[43,44,45,46],[43,44,45,46],[],[]]
theorem yn9 (m l : List Int) : ∀ h, (rlH m l h).length = l.length
 | 0 => rfl
 | h + 1 => by simp only [rlH, rl1, List.length_set]; exact yn9 m l h
theorem yoa (m : List Int) (n : Nat) : ∀ k, (rlP m n k).length = n
 | 0 => by simp [rlP]
 | k + 1 => by simp only [rlP]; rw [yn9, yoa m n k]
theorem yzo (m : List Int) (n : Nat) (hn : n <= 1000) (hm : ya6 m n) : Fn Tryz.prog 49 [roI m] (roI (rlP m n n)) := by
 obtain ⟨hml, hmr⟩ := hm
 have e0 : (m.length : Int).tdiv 4 = n := by rw [ydi (by omega)]; omega
 refine Fn.intro [.tmp 2] Tryz.func49 rfl rfl (by decide) (by simp [Tryz.ntmps49]) ?_; rw [Tryz.ntmps49]
 repeat' (first | omega | ((first | apply yaa | (refine yae.intro (id := 13) ycx [[],[],[0,1],[0,1,2],[0,1],[0,1],[0,1],[2,3,4,5,6],[]] (by decide +kernel) mixed ?_) | (refine yae.intro (id := 14) ycy [[],[0],[],[],[0,1,2,3],[0,1,2,3,4],[0,1,2,3],[0,1,2,3],[],[]] (by decide +kernel) mixed ?_) | skip); simp only [go_sem, sevalprocAttr, e0, ↓reduceIte, reduceCtorEq, ycx, ycy]) | (apply yad <;> (intro h_; (try simp only [h_]); revert h_)) | apply yac | apply yab | apply gspI | apply And.intro | with_reducible intro h_ | trivial | (simp only [go_sem, la2]; omega))
 refine yah.intro (fun t fr H => ∃ k : Nat, k <= n /\ t = n - k /\ fr = [(5, I k), (4, .sl 1 0 0 n), (3, I n), (0, roI m)] /\ H = [(0, .cells 3 (.ints ((List.range k).map (fun (i : Nat) => (i : Int)) ++ List.replicate (n - k) 0)))]) ?_ ?_
 ·refine ⟨_, _, _, ?_, 0, by omega, rfl, rfl, rfl⟩
  refine Wk.sub ?_ ?_ <;> simp only [go_sem, sevalprocAttr]
  all_goals simp
 rintro t fr H ⟨k, hk, rfl, rfl, rfl⟩
 repeat' (first | omega | ((first | apply yaa | (refine yae.intro (id := 13) ycx [[],[],[0,1],[0,1,2],[0,1],[0,1],[0,1],[2,3,4,5,6],[]] (by decide +kernel) mixed ?_) | (refine yae.intro (id := 14) ycy [[],[0],[],[],[0,1,2,3],[0,1,2,3,4],[0,1,2,3],[0,1,2,3],[],[]] (by decide +kernel) mixed ?_) | skip); simp only [go_sem, sevalprocAttr, List.length_range, ↓reduceIte, reduceCtorEq, ycx, ycy]) | (apply yad <;> (intro h_; (try simp only [h_]); revert h_)) | apply yac | apply yab | apply gspI | apply And.intro | with_reducible intro h_ | trivial | (simp only [go_sem, la2]; omega))
 ·refine ⟨_, _, _, ?_, ?_, ⟨k + 1, by omega, rfl, rfl, rfl⟩⟩
  ·omega
  ·have e : ((List.range k).map (fun (i : Nat) => (i : Int)) ++ List.replicate (n - k) 0).set k k = (List.range (k + 1)).map (fun (i : Nat) => (i : Int)) ++ List.replicate (n - (k + 1)) 0 := by
    rw [List.set_append, if_neg (by simp), show n - k = (n - (k + 1)) + 1 by omega, List.replicate_succ]
    simp [List.range_succ]
   rw [e]
   refine Wk.sub ?_ ?_ <;> simp only [go_sem, sevalprocAttr]
 obtain rfl : k = n := by omega
 refine yah.intro (fun t fr H => ∃ q : Nat, q <= k /\ t = k - q /\ fr = [(6, I q), (4, .sl 1 0 0 k), (3, I k), (0, roI m)] /\ H = [(0, .cells 3 (.ints (rlP m k q)))]) ?_ ?_
 ·refine ⟨_, _, _, ?_, 0, by omega, rfl, rfl, rfl⟩
  refine Wk.sub ?_ ?_ <;> simp only [go_sem, sevalprocAttr]
  all_goals simp [rlP]
 rintro t fr H ⟨q, hq, rfl, rfl, rfl⟩
 have hpl := yoa m k q
 by_cases hqk : q < k
 ·have bq : decide ((q : Int) < k) = true := by simp; omega
  repeat' (first | omega | ((first | apply yaa | (refine yae.intro (id := 13) ycx [[],[],[0,1],[0,1,2],[0,1],[0,1],[0,1],[2,3,4,5,6],[]] (by decide +kernel) mixed ?_) | (refine yae.intro (id := 14) ycy [[],[0],[],[],[0,1,2,3],[0,1,2,3,4],[0,1,2,3],[0,1,2,3],[],[]] (by decide +kernel) mixed ?_) | skip); simp only [go_sem, sevalprocAttr, bq, ↓reduceIte, reduceCtorEq, ycx, ycy]) | (apply yad <;> (intro h_; (try simp only [h_]); revert h_)) | apply yac | apply yab | apply gspI | apply And.intro | with_reducible intro h_ | trivial | (simp only [go_sem, la2]; omega))
  refine yah.intro (fun t fr H => ∃ h : Nat, h <= 4 * k /\ t = 4 * k - h /\ fr = [(7, I h), (6, I q), (4, .sl 1 0 0 k), (3, I k), (0, roI m)] /\ H = [(0, .cells 3 (.ints (rlH m (rlP m k q) h)))]) ?_ ?_
  ·refine ⟨_, _, _, ?_, 0, by omega, rfl, rfl, rfl⟩
   refine Wk.sub ?_ ?_ <;> simp only [go_sem, sevalprocAttr]
   all_goals simp [rlH]
  rintro t fr H ⟨h, hh, rfl, rfl, rfl⟩
  have hhl : (rlH m (rlP m k q) h).length = k := by rw [yn9, hpl]
  by_cases hhk : h < 4 * k
  ·have bh : decide ((h : Int) < m.length) = true := by simp; omega
   have hr := hmr h hhk
   have e1 : (h : Int).tdiv 4 = ((h / 4 : Nat) : Int) := by rw [ydi (by omega)]; omega
   have e2 : (m.getD h 0).tdiv 4 = ((m.getD h 0 / 4).toNat : Int) := by rw [ydi (by omega)]; omega
   have e3 : (m.getD h 0 / 4).toNat < k := by omega
   repeat' (first | omega | ((first | apply yaa | (refine yae.intro (id := 13) ycx [[],[],[0,1],[0,1,2],[0,1],[0,1],[0,1],[2,3,4,5,6],[]] (by decide +kernel) mixed ?_) | (refine yae.intro (id := 14) ycy [[],[0],[],[],[0,1,2,3],[0,1,2,3,4],[0,1,2,3],[0,1,2,3],[],[]] (by decide +kernel) mixed ?_) | skip); simp only [go_sem, sevalprocAttr, bh, e1, e2, ↓reduceIte, reduceCtorEq, ycx, ycy]) | (apply yad <;> (intro h_; (try simp only [h_]); revert h_)) | apply yac | apply yab | apply gspI | apply And.intro | with_reducible intro h_ | trivial | (simp only [go_sem, la2]; omega))
   refine ⟨_, _, _, ?_, ?_, ⟨h + 1, by omega, rfl, rfl, rfl⟩⟩
   ·omega
   ·have em : ∀ a b : Int, (if b < a then b else a) = min a b := fun a b => by split <;> omega
    have eh : rlH m (rlP m k q) (h + 1) = ((rlH m (rlP m k q) h).set (h / 4) (min ((rlH m (rlP m k q) h).getD (h / 4) 0) ((rlH m (rlP m k q) h).getD (m.getD h 0 / 4).toNat 0))).set (m.getD h 0 / 4).toNat (min ((rlH m (rlP m k q) h).getD (h / 4) 0) ((rlH m (rlP m k q) h).getD (m.getD h 0 / 4).toNat 0)) := rfl
    rw [eh]
    simp only [em]
    refine Wk.sub ?_ ?_ <;> simp only [go_sem, sevalprocAttr]
  ·obtain rfl : h = 4 * k := by omega
   have bh : decide (((4 * k : Nat) : Int) < m.length) = false := by simp; omega
   repeat' (first | omega | ((first | apply yaa | (refine yae.intro (id := 13) ycx [[],[],[0,1],[0,1,2],[0,1],[0,1],[0,1],[2,3,4,5,6],[]] (by decide +kernel) mixed ?_) | (refine yae.intro (id := 14) ycy [[],[0],[],[],[0,1,2,3],[0,1,2,3,4],[0,1,2,3],[0,1,2,3],[],[]] (by decide +kernel) mixed ?_) | skip); simp only [go_sem, sevalprocAttr, bh, ↓reduceIte, reduceCtorEq, ycx, ycy]) | (apply yad <;> (intro h_; (try simp only [h_]); revert h_)) | apply yac | apply yab | apply gspI | apply And.intro | with_reducible intro h_ | trivial | (simp only [go_sem, la2]; omega))
   refine ⟨_, _, _, ?_, ?_, ⟨q + 1, by omega, rfl, rfl, rfl⟩⟩
   ·omega
   ·rw [show rlP m k (q + 1) = rlH m (rlP m k q) (4 * k) from rfl]
    refine Wk.sub ?_ ?_ <;> simp only [go_sem, sevalprocAttr]
 ·obtain rfl : q = k := by omega
  have bq : decide ((q : Int) < q) = false := by simp
  repeat' (first | omega | ((first | apply yaa | (refine yae.intro (id := 13) ycx [[],[],[0,1],[0,1,2],[0,1],[0,1],[0,1],[2,3,4,5,6],[]] (by decide +kernel) mixed ?_) | (refine yae.intro (id := 14) ycy [[],[0],[],[],[0,1,2,3],[0,1,2,3,4],[0,1,2,3],[0,1,2,3],[],[]] (by decide +kernel) mixed ?_) | skip); simp only [go_sem, sevalprocAttr, bq, ↓reduceIte, reduceCtorEq, ycx, ycy]) | (apply yad <;> (intro h_; (try simp only [h_]); revert h_)) | apply yac | apply yab | apply gspI | apply And.intro | with_reducible intro h_ | trivial | (simp only [go_sem, la2]; omega))
  all_goals first
   | omega
   | exact List.take_of_length_le (by omega)
end Go.Proofs.YtebdkebfkpbmpaaGreatDoor
set_option linter.unusedSimpArgs false
set_option linter.unusedVariables false
namespace Go.Proofs.YtebdkebfkpbmpaaGreatDoor
open Go Go.RowKit
set_option maxRecDepth 100000
set_option maxHeartbeats 8000000
def lstR (orb : Nat -> List Int) (p : Nat -> Bool) (k : Nat) : List (List Int) := ((List.range k).filter p).map orb
theorem yzp {orb : Nat -> List Int} {p : Nat -> Bool} {k : Nat} (h : p k = true) : lstR orb p (k + 1) = lstR orb p k ++ [orb k] := by simp [lstR, List.range_succ, List.filter_append, h]
theorem yzq {orb : Nat -> List Int} {p : Nat -> Bool} {k : Nat} (h : p k = false) : lstR orb p (k + 1) = lstR orb p k := by simp [lstR, List.range_succ, List.filter_append, h]
theorem ykp {x : Int} {l : List Int} {i : Nat} (h : i < l.length) : yca x (l.take (i + 1)) = (yca x (l.take i) && decide (x <= l.getD i 0)) := by
 unfold yca
 rw [List.take_succ_eq_append_getElem h, List.all_append]
 simp [h]
theorem yr7 (ls : List (List Int)) (l : List Int) : ls.map roF ++ [AV.ro 1 l.length (.ints l)] = (ls ++ [l]).map roF := by simp [roF]
theorem yr8 (nx : Int -> Int) (x : Int) : ∀ f g, (orbG nx x f g).length <= f
 | 0, _ => by simp [orbG]
 | f + 1, g => by
   unfold orbG
   split
   ·simp
   ·simp only [List.length_cons]; have := yr8 nx x f (nx g); omega
theorem y28 (nx : Int -> Int) (N : Nat) (x : Int) : (orbF nx N x).length <= N + 1 := by
 unfold orbF; simp only [List.length_cons]; have := yr8 nx x N (nx x); omega
theorem yzr (m : List Int) (n : Nat) (hn : n <= 1000) (hml : m.length = 4 * n) (hm : ∀ i, i < m.length -> 0 <= m.getD i 0 /\ m.getD i 0 < 4 * n) : Fn Tryz.prog 50 [roI m] (roLL (lstR (fun h => orbF (yag m) m.length h) (fl m) m.length)) := by
 refine Fn.introL [.tmp 2] Tryz.func50 rfl rfl (by decide) (by simp [Tryz.ntmps50]) ?_; rw [Tryz.ntmps50]
 repeat' (first | omega | ((try apply yaa); simp only [go_sem, sevalprocAttr]) | (apply yad <;> (intro h_; (try simp only [h_]); revert h_)) | apply yac | apply yab | apply gspI | apply And.intro | with_reducible intro h_ | trivial | (simp only [go_sem, la2]; omega))
 refine yah.intro (fun t fr H => ∃ h : Nat, h <= m.length /\ t = m.length - h /\ ((lstR (fun h => orbF (yag m) m.length h) (fl m) h = [] /\ fr = [(4, I h), (3, .nils), (0, roI m)] /\ H = []) \/
  (fr = [(4, I h), (3, .sl 1 1 0 (lstR (fun h => orbF (yag m) m.length h) (fl m) h).length), (0, roI m)] /\ H = [(1, .cells 22 (.lst ((lstR (fun h => orbF (yag m) m.length h) (fl m) h).map roF)))]))) ?_ ?_
 ·refine ⟨_, _, _, ?_, 0, by omega, rfl, .inl ⟨rfl, rfl, rfl⟩⟩
  refine Wk.sub ?_ ?_ <;> simp only [go_sem, sevalprocAttr]
 rintro t fr H ⟨h, hh, rfl, hcase⟩
 have hlen : (lstR (fun h => orbF (yag m) m.length h) (fl m) h).length <= h := by
  have := List.length_filter_le (fl m) (List.range h)
  simp only [lstR, List.length_map]; simp only [List.length_range] at this; exact this
 have hol : (orbF (yag m) m.length h).length <= m.length + 1 := y28 _ _ _
 rcases hcase with ⟨hnil, rfl, rfl⟩ | ⟨rfl, rfl⟩
 ·by_cases hlt : h < m.length
  ·have bh : decide ((h : Int) < m.length) = true := by simp; omega
   have hF := yr6 m n h hn hml hm hlt
   repeat' (first | omega | ((try apply yaa); simp only [go_sem, sevalprocAttr, bh]) | (apply yad <;> (intro h_; (try simp only [h_]); revert h_)) | apply yac | apply yab | apply gspI | apply And.intro | with_reducible intro h_ | trivial | (simp only [go_sem, la2]; omega))
   refine ⟨yaf.fn rfl hF ?_⟩
   repeat' (first | omega | ((try apply yaa); simp only [go_sem, sevalprocAttr]) | (apply yad <;> (intro h_; (try simp only [h_]); revert h_)) | apply yac | apply yab | apply gspI | apply And.intro | with_reducible intro h_ | trivial | (simp only [go_sem, la2]; omega))
   refine yah.intro (fun t fr H => ∃ i : Nat, i <= (orbF (yag m) m.length h).length /\ t = (orbF (yag m) m.length h).length - i /\ fr = [(7, I i), (6, .bool (yca h ((orbF (yag m) m.length h).take i))), (5, roI (orbF (yag m) m.length h)), (4, I h), (3, .nils), (0, roI m)] /\ H = []) ?_ ?_
   ·refine ⟨_, _, _, ?_, 0, by omega, rfl, rfl, rfl⟩
    refine Wk.sub ?_ ?_ <;> simp only [go_sem, sevalprocAttr]
    all_goals simp [yca]
   rintro t fr H ⟨i, hi, rfl, rfl, rfl⟩
   by_cases hil : i < (orbF (yag m) m.length h).length
   ·have bi : decide ((i : Int) < (orbF (yag m) m.length h).length) = true := by simp; omega
    have el := ykp (x := h) hil
    cases hb : yca h ((orbF (yag m) m.length h).take i) with
    | false =>
      rw [hb] at el
      repeat' (first | omega | ((try apply yaa); simp only [go_sem, sevalprocAttr, bi]) | (apply yad <;> (intro h_; (try simp only [h_]); revert h_)) | apply yac | apply yab | apply gspI | apply And.intro | with_reducible intro h_ | trivial | (simp only [go_sem, la2]; omega))
      refine ⟨_, _, _, ?_, ?_, ⟨i + 1, by omega, rfl, rfl, rfl⟩⟩
      ·omega
      ·rw [el]
       refine Wk.sub ?_ ?_ <;> simp only [go_sem, sevalprocAttr]
    | true =>
      rw [hb] at el
      repeat' (first | omega | ((try apply yaa); simp only [go_sem, sevalprocAttr, bi]) | (apply yad <;> (intro h_; (try simp only [h_]); revert h_)) | apply yac | apply yab | apply gspI | apply And.intro | with_reducible intro h_ | trivial | (simp only [go_sem, la2]; omega))
      refine ⟨_, _, _, ?_, ?_, ⟨i + 1, by omega, rfl, rfl, rfl⟩⟩
      ·omega
      ·rw [el]
       refine Wk.sub ?_ ?_ <;> simp only [go_sem, sevalprocAttr]
   ·obtain rfl : i = (orbF (yag m) m.length h).length := by omega
    have bi : decide (((orbF (yag m) m.length h).length : Int) < (orbF (yag m) m.length h).length) = false := by simp
    have ef : yca h ((orbF (yag m) m.length h).take (orbF (yag m) m.length h).length) = fl m h := by rw [List.take_length]; rfl
    rw [ef]
    cases hb : fl m h with
    | false =>
      have eS := yzq (orb := fun h => orbF (yag m) m.length h) hb
      repeat' (first | omega | ((try apply yaa); simp only [go_sem, sevalprocAttr, bi]) | (apply yad <;> (intro h_; (try simp only [h_]); revert h_)) | apply yac | apply yab | apply gspI | apply And.intro | with_reducible intro h_ | trivial | (simp only [go_sem, la2]; omega))
      refine ⟨_, _, _, ?_, ?_, ⟨h + 1, by omega, rfl, .inl ⟨by rw [eS]; exact hnil, rfl, rfl⟩⟩⟩
      ·omega
      ·first | rw [eS] | skip
       refine Wk.sub ?_ ?_ <;> simp only [go_sem, sevalprocAttr]
    | true =>
      have eS := yzp (orb := fun h => orbF (yag m) m.length h) hb
      repeat' (first | omega | ((try apply yaa); simp only [go_sem, sevalprocAttr, bi, List.length_map]) | (apply yad <;> (intro h_; (try simp only [h_]); revert h_)) | apply yac | apply yab | apply gspI | apply And.intro | with_reducible intro h_ | trivial | (simp only [go_sem, la2]; omega))
      refine ⟨_, _, _, ?_, ?_, ⟨h + 1, by omega, rfl, .inr ⟨rfl, rfl⟩⟩⟩
      ·omega
      ·rw [eS]
       rw [hnil]
       refine Wk.sub ?_ ?_ <;> simp only [go_sem, sevalprocAttr]
       all_goals first
        | rfl
        | exact ⟨rfl, rfl⟩
        | exact ⟨rfl, rfl, rfl⟩
  ·obtain rfl : h = m.length := by omega
   have bh : decide ((m.length : Int) < m.length) = false := by simp
   repeat' (first | omega | ((try apply yaa); simp only [go_sem, sevalprocAttr, bh]) | (apply yad <;> (intro h_; (try simp only [h_]); revert h_)) | apply yac | apply yab | apply gspI | apply And.intro | with_reducible intro h_ | trivial | (simp only [go_sem, la2]; omega))
   all_goals first
    | (rw [hnil]; exact LeA.nils (by omega) rfl)
    | exact ygi _ _ _ _ h_
    | exact ygi _ _ _ _ (List.mem_of_mem_take h_)
    | (rw [List.take_of_length_le (by simp)]; exact LeA.refl _)
 ·by_cases hlt : h < m.length
  ·have bh : decide ((h : Int) < m.length) = true := by simp; omega
   have hF := yr6 m n h hn hml hm hlt
   repeat' (first | omega | ((try apply yaa); simp only [go_sem, sevalprocAttr, bh]) | (apply yad <;> (intro h_; (try simp only [h_]); revert h_)) | apply yac | apply yab | apply gspI | apply And.intro | with_reducible intro h_ | trivial | (simp only [go_sem, la2]; omega))
   refine ⟨yaf.fn rfl hF ?_⟩
   repeat' (first | omega | ((try apply yaa); simp only [go_sem, sevalprocAttr]) | (apply yad <;> (intro h_; (try simp only [h_]); revert h_)) | apply yac | apply yab | apply gspI | apply And.intro | with_reducible intro h_ | trivial | (simp only [go_sem, la2]; omega))
   refine yah.intro (fun t fr H => ∃ i : Nat, i <= (orbF (yag m) m.length h).length /\ t = (orbF (yag m) m.length h).length - i /\ fr = [(7, I i), (6, .bool (yca h ((orbF (yag m) m.length h).take i))), (5, roI (orbF (yag m) m.length h)), (4, I h), (3, .sl 1 1 0 (lstR (fun h => orbF (yag m) m.length h) (fl m) h).length), (0, roI m)] /\ H = [(1, .cells 22 (.lst ((lstR (fun h => orbF (yag m) m.length h) (fl m) h).map roF)))]) ?_ ?_
   ·refine ⟨_, _, _, ?_, 0, by omega, rfl, rfl, rfl⟩
    refine Wk.sub ?_ ?_ <;> simp only [go_sem, sevalprocAttr]
    all_goals simp [yca]
   rintro t fr H ⟨i, hi, rfl, rfl, rfl⟩
   by_cases hil : i < (orbF (yag m) m.length h).length
   ·have bi : decide ((i : Int) < (orbF (yag m) m.length h).length) = true := by simp; omega
    have el := ykp (x := h) hil
    cases hb : yca h ((orbF (yag m) m.length h).take i) with
    | false =>
      rw [hb] at el
      repeat' (first | omega | ((try apply yaa); simp only [go_sem, sevalprocAttr, bi]) | (apply yad <;> (intro h_; (try simp only [h_]); revert h_)) | apply yac | apply yab | apply gspI | apply And.intro | with_reducible intro h_ | trivial | (simp only [go_sem, la2]; omega))
      refine ⟨_, _, _, ?_, ?_, ⟨i + 1, by omega, rfl, rfl, rfl⟩⟩
      ·omega
      ·rw [el]
       refine Wk.sub ?_ ?_ <;> simp only [go_sem, sevalprocAttr]
    | true =>
      rw [hb] at el
      repeat' (first | omega | ((try apply yaa); simp only [go_sem, sevalprocAttr, bi]) | (apply yad <;> (intro h_; (try simp only [h_]); revert h_)) | apply yac | apply yab | apply gspI | apply And.intro | with_reducible intro h_ | trivial | (simp only [go_sem, la2]; omega))
      refine ⟨_, _, _, ?_, ?_, ⟨i + 1, by omega, rfl, rfl, rfl⟩⟩
      ·omega
      ·rw [el]
       refine Wk.sub ?_ ?_ <;> simp only [go_sem, sevalprocAttr]
   ·obtain rfl : i = (orbF (yag m) m.length h).length := by omega
    have bi : decide (((orbF (yag m) m.length h).length : Int) < (orbF (yag m) m.length h).length) = false := by simp
    have ef : yca h ((orbF (yag m) m.length h).take (orbF (yag m) m.length h).length) = fl m h := by rw [List.take_length]; rfl
    rw [ef]
    cases hb : fl m h with
    | false =>
      have eS := yzq (orb := fun h => orbF (yag m) m.length h) hb
      repeat' (first | omega | ((try apply yaa); simp only [go_sem, sevalprocAttr, bi]) | (apply yad <;> (intro h_; (try simp only [h_]); revert h_)) | apply yac | apply yab | apply gspI | apply And.intro | with_reducible intro h_ | trivial | (simp only [go_sem, la2]; omega))
      refine ⟨_, _, _, ?_, ?_, ⟨h + 1, by omega, rfl, .inr ⟨rfl, rfl⟩⟩⟩
      ·omega
      ·first | rw [eS] | skip
       refine Wk.sub ?_ ?_ <;> simp only [go_sem, sevalprocAttr]
    | true =>
      have eS := yzp (orb := fun h => orbF (yag m) m.length h) hb
      repeat' (first | omega | ((try apply yaa); simp only [go_sem, sevalprocAttr, bi, List.length_map]) | (apply yad <;> (intro h_; (try simp only [h_]); revert h_)) | apply yac | apply yab | apply gspI | apply And.intro | with_reducible intro h_ | trivial | (simp only [go_sem, la2]; omega))
      refine ⟨_, _, _, ?_, ?_, ⟨h + 1, by omega, rfl, .inr ⟨rfl, rfl⟩⟩⟩
      ·omega
      ·rw [eS]
       rw [yr7]
       refine Wk.sub ?_ ?_ <;> simp only [go_sem, sevalprocAttr]
       all_goals first
        | rfl
        | exact ⟨rfl, rfl⟩
        | exact ⟨rfl, rfl, rfl⟩
  ·obtain rfl : h = m.length := by omega
   have bh : decide ((m.length : Int) < m.length) = false := by simp
   repeat' (first | omega | ((try apply yaa); simp only [go_sem, sevalprocAttr, bh]) | (apply yad <;> (intro h_; (try simp only [h_]); revert h_)) | apply yac | apply yab | apply gspI | apply And.intro | with_reducible intro h_ | trivial | (simp only [go_sem, la2]; omega))
   all_goals first
    | (rw [hnil]; exact LeA.nils (by omega) rfl)
    | exact ygi _ _ _ _ h_
    | exact ygi _ _ _ _ (List.mem_of_mem_take h_)
    | (rw [List.take_of_length_le (by simp)]; exact LeA.refl _)
end Go.Proofs.YtebdkebfkpbmpaaGreatDoor
