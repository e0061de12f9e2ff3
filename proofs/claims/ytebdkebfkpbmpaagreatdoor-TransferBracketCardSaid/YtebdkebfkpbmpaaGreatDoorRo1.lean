/- The references of layer 1: In, IsPerm. -/
import Derived.Test.YtebdkebfkpbmpaaGreatDoorTo2
import Derived.Test.YtebdkebfkpbmpaaGreatDoorXn
namespace Go.Proofs.YtebdkebfkpbmpaaGreatDoor
open Go Go.RowKit
set_option maxRecDepth 100000
set_option maxHeartbeats 8000000
set_option linter.unusedVariables false
set_option linter.unusedSimpArgs false
theorem y3a (l : List Int) (y x : Int) : (l ++ [y]).contains x = (l.contains x || (y == x)) := by
 induction l with
 | nil =>
   by_cases h : y = x
   ·subst h; simp
   ·have h2 : ¬ x = y := fun e => h e.symm
    simp [h, h2]
 | cons a l ih => simp only [List.cons_append, List.contains_cons, ih, Bool.or_assoc]
theorem y9c (l : List Int) (x : Int) (hl : l.length <= 1000000) : Fn Tryz.prog 51 [roI l, I x] (.bool (l.contains x)) := by
 refine Fn.intro [.tmp 4] Tryz.func51 rfl rfl (by decide) (by simp [Tryz.ntmps51]) ?_; rw [Tryz.ntmps51]
 repeat' (first | omega | ((try apply yaa); simp only [go_sem, sevalprocAttr]) | (apply yad <;> (intro h_; (try simp only [h_]); revert h_)) | apply yac | apply yab | apply gspI | apply And.intro | with_reducible intro h_ | trivial | (simp only [go_sem, la2]; omega))
 refine yah.intro (fun n' fr H => ∃ i : Nat, i <= l.length /\ (l.take i).contains x = false /\ n' = l.length - i /\ fr = [(5, I i), (1, I x), (0, roI l)] /\ H = []) ?_ ?_
 ·refine ⟨_, _, _, Wk.sub ?_ ?_, 0, by omega, by simp, rfl, rfl, rfl⟩ <;> (simp only [go_sem, sevalprocAttr])
 rintro n' fr H ⟨i, hi, hc, rfl, rfl, rfl⟩
 by_cases hil : i < l.length
 ·have bi : decide ((i : Int) < l.length) = true := by simp; omega
  have hsn := y3a (l.take i) (l.getD i 0) x
  rw [← ycu hil, hc, Bool.false_or] at hsn
  cases hx : l.getD i 0 == x with
  | true =>
    have hm : l.contains x = true := by
     rw [List.contains_iff_mem]
     have : l.getD i 0 = x := by simpa using hx
     rw [← this, List.getD_eq_getElem?_getD, List.getElem?_eq_getElem hil]
     exact List.getElem_mem _
    rw [hm]
    repeat' (first | omega | ((try apply yaa); simp only [go_sem, sevalprocAttr, bi, hx]) | (apply yad <;> (intro h_; (try simp only [h_]); revert h_)) | apply yac | apply yab | apply gspI | apply And.intro | with_reducible intro h_ | trivial | (simp only [go_sem, la2]; omega))
  | false =>
    rw [hx] at hsn
    repeat' (first | omega | ((try apply yaa); simp only [go_sem, sevalprocAttr, bi, hx]) | (apply yad <;> (intro h_; (try simp only [h_]); revert h_)) | apply yac | apply yab | apply gspI | apply And.intro | with_reducible intro h_ | trivial | (simp only [go_sem, la2]; omega))
    refine ⟨_, _, _, ?_, Wk.sub ?_ ?_, i + 1, by omega, hsn, rfl, rfl, rfl⟩
    ·omega
    ·simp only [go_sem, sevalprocAttr]
    ·simp only [go_sem, sevalprocAttr]
 ·obtain rfl : i = l.length := by omega
  have bi : decide ((l.length : Int) < l.length) = false := by simp
  rw [List.take_length] at hc
  rw [hc]
  repeat' (first | omega | ((try apply yaa); simp only [go_sem, sevalprocAttr, bi]) | (apply yad <;> (intro h_; (try simp only [h_]); revert h_)) | apply yac | apply yab | apply gspI | apply And.intro | with_reducible intro h_ | trivial | (simp only [go_sem, la2]; omega))
def ipN (o : List Int) : Nat -> Bool
 | 0 => true
 | k + 1 => ipN o k && o.contains (k : Int)
theorem yob (o : List Int) : ∀ n, ipN o n = true ↔ ∀ c : Nat, c < n -> (c : Int) ∈ o
 | 0 => by simp [ipN]
 | n + 1 => by
   simp only [ipN, Bool.and_eq_true, yob o n, List.contains_iff_mem]
   constructor
   ·rintro ⟨h1, h2⟩ c hc
    by_cases e : c = n
    ·rw [e]; exact h2
    ·exact h1 c (by omega)
   ·exact fun h => ⟨fun c hc => h c (by omega), h n (by omega)⟩
theorem yr9 {o : List Int} {k : Nat} (h : ipN o k = false) : ∀ d, ipN o (k + d) = false
 | 0 => h
 | d + 1 => by rw [← Nat.add_assoc]; simp only [ipN, yr9 h d, Bool.false_and]
theorem ykq : ∀ {l k : List Int}, l.Nodup -> (∀ x ∈ l, x ∈ k) -> k.length <= l.length -> k.Perm l
 | [], k, _, _, h => by
   obtain rfl : k = [] := List.length_eq_zero_iff.1 (by simpa using h)
   exact List.Perm.refl _
 | x :: l, k, hn, hs, h => by
   have hx := hs x (List.mem_cons_self ..)
   have hn' := List.nodup_cons.1 hn
   have h2 := ykq (l := l) (k := k.erase x) hn'.2 (fun y hy => by
    have hne : y ≠ x := fun e => hn'.1 (e ▸ hy)
    exact (List.mem_erase_of_ne hne).2 (hs y (List.mem_cons_of_mem _ hy))) (by
    rw [List.length_erase_of_mem hx]
    simp only [List.length_cons] at h
    omega)
   exact (List.perm_cons_erase hx).trans (h2.cons x)
theorem y7h {o : List Int} {n : Nat} (hl : o.length = n) : ybp o n = ipN o n := by
 cases hp : ybp o n with
 | true =>
   obtain ⟨h1, h2⟩ := yi7 hp
   exact ((yob o n).2 fun c hc => yut h1 h2 hc).symm
 | false =>
   cases hi : ipN o n with
   | false => rfl
   | true =>
     exfalso
     have h := (yob o n).1 hi
     have hnd : ((List.range n).map (Nat.cast : Nat -> Int)).Nodup := by
      rw [List.nodup_iff_pairwise_ne, List.pairwise_map]
      exact (List.nodup_iff_pairwise_ne.1 List.nodup_range).imp fun h e => h (by omega)
     have hp2 := ykq hnd (fun x hx => by
      obtain ⟨c, hc, rfl⟩ := List.mem_map.1 hx
      exact h c (List.mem_range.1 hc)) (k := o) (by simp [hl])
     have : ybp o n = true := yzg ⟨hp2.nodup_iff.2 hnd, fun x hx => by
      obtain ⟨c, hc, rfl⟩ := List.mem_map.1 (hp2.mem_iff.1 hx)
      have := List.mem_range.1 hc
      omega⟩ hl
     rw [hp] at this; cases this
theorem ywf (o : List Int) (n : Nat) (ho : o.length <= 100000) (hn : n <= 100000) : Fn Tryz.prog 11 [roI o, I n] (.bool (ybp o n)) := by
 by_cases hon : o.length = n
 ·have b0 : ((o.length : Int) != (n : Int)) = false := by simp [hon]
  rw [y7h hon]
  refine Fn.intro [.tmp 4] Tryz.func11 rfl rfl (by decide) (by simp [Tryz.ntmps11]) ?_; rw [Tryz.ntmps11]
  repeat' (first | omega | ((try apply yaa); simp only [go_sem, sevalprocAttr, b0]) | (apply yad <;> (intro h_; (try simp only [h_]); revert h_)) | apply yac | apply yab | apply gspI | apply And.intro | with_reducible intro h_ | trivial | (simp only [go_sem, la2]; omega))
  refine yah.intro (fun n' fr H => ∃ k : Nat, k <= n /\ ipN o k = true /\ n' = n - k /\ fr = [(5, I k), (1, I n), (0, roI o)] /\ H = []) ?_ ?_
  ·refine ⟨_, _, _, Wk.sub ?_ ?_, 0, by omega, rfl, rfl, rfl, rfl⟩ <;> (simp only [go_sem, sevalprocAttr])
  rintro n' fr H ⟨k, hk, hip, rfl, rfl, rfl⟩
  by_cases hkn : k < n
  ·have bk : decide ((k : Int) < n) = true := by simp; omega
   have hI := y9c o k (by omega)
   have hst : ipN o (k + 1) = o.contains (k : Int) := by simp only [ipN, hip, Bool.true_and]
   cases hc : o.contains (k : Int) with
   | true =>
     rw [hc] at hI hst
     repeat' (first | omega | ((try apply yaa); simp only [go_sem, sevalprocAttr, bk]) | (apply yad <;> (intro h_; (try simp only [h_]); revert h_)) | apply yac | apply yab | apply gspI | apply And.intro | with_reducible intro h_ | trivial | (simp only [go_sem, la2]; omega))
     refine ⟨yaf.fn rfl hI ?_⟩
     repeat' (first | omega | ((try apply yaa); simp only [go_sem, sevalprocAttr, bk]) | (apply yad <;> (intro h_; (try simp only [h_]); revert h_)) | apply yac | apply yab | apply gspI | apply And.intro | with_reducible intro h_ | trivial | (simp only [go_sem, la2]; omega))
     refine ⟨_, _, _, ?_, Wk.sub ?_ ?_, k + 1, by omega, hst, rfl, rfl, rfl⟩
     ·omega
     ·simp only [go_sem, sevalprocAttr]
     ·simp only [go_sem, sevalprocAttr]
   | false =>
     rw [hc] at hI hst
     have hf := yr9 hst (n - (k + 1))
     rw [show k + 1 + (n - (k + 1)) = n by omega] at hf
     rw [hf]
     repeat' (first | omega | ((try apply yaa); simp only [go_sem, sevalprocAttr, bk]) | (apply yad <;> (intro h_; (try simp only [h_]); revert h_)) | apply yac | apply yab | apply gspI | apply And.intro | with_reducible intro h_ | trivial | (simp only [go_sem, la2]; omega))
     refine ⟨yaf.fn rfl hI ?_⟩
     repeat' (first | omega | ((try apply yaa); simp only [go_sem, sevalprocAttr, bk]) | (apply yad <;> (intro h_; (try simp only [h_]); revert h_)) | apply yac | apply yab | apply gspI | apply And.intro | with_reducible intro h_ | trivial | (simp only [go_sem, la2]; omega))
  ·obtain rfl : k = n := by omega
   have bk : decide ((k : Int) < k) = false := by simp
   rw [hip]
   repeat' (first | omega | ((try apply yaa); simp only [go_sem, sevalprocAttr, bk]) | (apply yad <;> (intro h_; (try simp only [h_]); revert h_)) | apply yac | apply yab | apply gspI | apply And.intro | with_reducible intro h_ | trivial | (simp only [go_sem, la2]; omega))
 ·have b0 : ((o.length : Int) != (n : Int)) = true := by simp; omega
  have hpB : ybp o n = false := by unfold ybp; rw [show (o.length == n) = false by simpa using hon]; rfl
  rw [hpB]
  refine Fn.intro [.tmp 4] Tryz.func11 rfl rfl (by decide) (by simp [Tryz.ntmps11]) ?_; rw [Tryz.ntmps11]
  repeat' (first | omega | ((try apply yaa); simp only [go_sem, sevalprocAttr, b0]) | (apply yad <;> (intro h_; (try simp only [h_]); revert h_)) | apply yac | apply yab | apply gspI | apply And.intro | with_reducible intro h_ | trivial | (simp only [go_sem, la2]; omega))
end Go.Proofs.YtebdkebfkpbmpaaGreatDoor
