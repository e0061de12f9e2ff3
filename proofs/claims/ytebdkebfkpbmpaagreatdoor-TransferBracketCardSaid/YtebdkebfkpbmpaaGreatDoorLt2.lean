/- Layer 17: the law TransferBracket. -/
import Derived.Test.YtebdkebfkpbmpaaGreatDoorAwt
import Derived.Test.YtebdkebfkpbmpaaGreatDoorTb2
import Derived.Test.YtebdkebfkpbmpaaGreatDoorRo1
import Derived.Test.YtebdkebfkpbmpaaGreatDoorRq2
import Derived.Test.YtebdkebfkpbmpaaGreatDoorRf9
namespace Go.Proofs.YtebdkebfkpbmpaaGreatDoor
open Go Go.RowKit
set_option maxRecDepth 100000
set_option maxHeartbeats 8000000
set_option linter.unusedVariables false
set_option linter.unusedSimpArgs false
def yne : Tr := .node [(0, .node [(1, .node [(2, .node [(3, .node [(4, .node [(5, .node [(6, .node [(7, .node [(8, .node [(9, .node [(10, .done)])])])])])]), (5, .node [(4, .node [(6, .node [(7, .node [(8, .node [(9, .node [(10, .done)])])])])])])]), (5, .node [(3, .node [(4, .node [(6, .node [(7, .node [(8, .node [(9, .node [(10, .done)])])])])])])])])])])]
theorem yjc (s m : List Int) (L : Int) (o : List Int) : Fn Tryz.prog 3 [dgA s m L, roI o] (.bool true) := by
 have hA := ywd
 have hZ := y29
 by_cases h1 : s.length <= 9 /\ m.length <= 40 /\ (L <= 6 \/ 64 < L) /\ o.length <= 20
 ·obtain ⟨h1, h2, h3, h4⟩ := h1
  have b1 : decide ((9 : Int) < s.length) = false := by rw [decide_eq_false_iff_not]; omega
  have b2 : decide ((40 : Int) < m.length) = false := by rw [decide_eq_false_iff_not]; omega
  have b3 : decide ((20 : Int) < o.length) = false := by rw [decide_eq_false_iff_not]; omega
  have b45 : (decide ((6 : Int) < L) = false) \/ (decide ((6 : Int) < L) = true /\ decide (L <= 64) = false) := by
   simp only [decide_eq_true_eq, decide_eq_false_iff_not]; omega
  have hV := y0h s m L
  cases hv : ya3 s m L with
  | false =>
    rw [hv] at hV
    have hB := y7e s m L o (by omega) (by omega) hv
    rcases b45 with b4 | ⟨b4, b5⟩
    ·refine Fn.intro [.tmp 4] Tryz.func3 rfl rfl (by decide) (by simp [Tryz.ntmps3]) ?_; rw [Tryz.ntmps3]
     repeat' (first | omega | ((try apply yaa); simp only [go_sem, sevalprocAttr, b1, b2, b3, b4]) | (refine ⟨yaf.fn (r := ?_) rfl ?_ ?_⟩; rotate_left; assumption) | (apply yad <;> (intro h_; (try simp only [h_]); revert h_)) | apply yac | apply yab | apply gspI | apply And.intro | with_reducible intro h_ | trivial | (simp only [go_sem, la2]; omega))
    ·refine Fn.intro [.tmp 4] Tryz.func3 rfl rfl (by decide) (by simp [Tryz.ntmps3]) ?_; rw [Tryz.ntmps3]
     repeat' (first | omega | ((try apply yaa); simp only [go_sem, sevalprocAttr, b1, b2, b3, b4, b5]) | (refine ⟨yaf.fn (r := ?_) rfl ?_ ?_⟩; rotate_left; assumption) | (apply yad <;> (intro h_; (try simp only [h_]); revert h_)) | apply yac | apply yab | apply gspI | apply And.intro | with_reducible intro h_ | trivial | (simp only [go_sem, la2]; omega))
  | true =>
    rw [hv] at hV
    have v1 := yfz hv
    have hP := ywf o s.length (by omega) (by omega)
    have hl64 := v1.l64
    have hl0 := v1.l0
    have b4 : decide ((6 : Int) < L) = false := by rw [decide_eq_false_iff_not]; omega
    clear b45
    cases hpb : ybp o s.length with
    | false =>
      rw [hpb] at hP
      have hB := y7f s m L o (by omega) (by omega) hv hpb
      refine Fn.intro [.tmp 4] Tryz.func3 rfl rfl (by decide) (by simp [Tryz.ntmps3]) ?_; rw [Tryz.ntmps3]
      repeat' (first | omega | ((try apply yaa); simp only [go_sem, sevalprocAttr, b1, b2, b3, b4]) | (refine ⟨yaf.fn (r := ?_) rfl ?_ ?_⟩; rotate_left; assumption) | (apply yad <;> (intro h_; (try simp only [h_]); revert h_)) | apply yac | apply yab | apply gspI | apply And.intro | with_reducible intro h_ | trivial | (simp only [go_sem, la2]; omega))
    | true =>
      rw [hpb] at hP
      by_cases h0 : s.length = 0 /\ L = 0
      ·obtain ⟨h0, rfl⟩ := h0
       obtain rfl : s = [] := List.length_eq_zero_iff.1 h0
       have hB := y7g m o (by omega) hv hpb
       refine Fn.intro [.tmp 4] Tryz.func3 rfl rfl (by decide) (by simp [Tryz.ntmps3]) ?_; rw [Tryz.ntmps3]
       repeat' (first | omega | ((try apply yaa); simp only [go_sem, sevalprocAttr, b1, b2, b3, b4]) | (refine ⟨yaf.fn (r := ?_) rfl ?_ ?_⟩; rotate_left; assumption) | (apply yad <;> (intro h_; (try simp only [h_]); revert h_)) | apply yac | apply yab | apply gspI | apply And.intro | with_reducible intro h_ | trivial | (simp only [go_sem, la2]; omega))
      ·have bE : (((s.length : Int) == 0) = false) \/ (((s.length : Int) == 0) = true /\ (L == 0) = false) := by
        by_cases h1 : s.length = 0
        ·exact .inr ⟨by simpa using h1, by rw [beq_eq_false_iff_ne]; omega⟩
        ·exact .inl (by rw [beq_eq_false_iff_ne]; omega)
       obtain ⟨l, rfl⟩ : ∃ l : Nat, L = l := ⟨L.toNat, by omega⟩
       have hp := pmOk hv
       have hB := yi8 s m l o (by omega) (by omega) hv hpb (by omega)
       have hR := ys6 s m l hv (by omega) (by omega)
       have hsup : ∀ e, brT m s.length l 1 e ≠ 0 -> -100 <= e /\ e <= 100 := fun e he => by
        rw [← yj7 hp e] at he
        exact y4d (by omega) (by omega) (.inr ⟨rfl, rfl⟩) (by omega) he
       have hbd : ∀ e, -562949953421312 <= brT m s.length l 1 e /\ brT m s.length l 1 e <= 562949953421312 := fun e => by
        rw [← yj7 hp e]
        exact y4c (by omega) (by omega) (by omega) (by omega) e
       have hPB : yan (brP m s.length l) (brT m s.length l 1) := ye7 fun e he => by have := hsup e he; omega
       have hlen := hPB.asc.len (a := -100) (b := 100) fun t ht => hsup _ (hPB.mem ht).2
       have hck : cok (brP m s.length l) := fun k hk => by
        have h1 := hPB.mem (ybg hk)
        have h2 := hsup _ h1.2
        have h3 := hbd ((brP m s.length l).getD k (0, 0)).1
        rw [h1.1]; omega
       have hT := yux (brP m s.length l) ⟨#[97]⟩ hck (by decide) (by omega)
       have hU := y3c (brP m s.length l) [97] hck (by decide) (by omega)
       rw [show (⟨#[97]⟩ : ByteArray).data.toList = [97] from rfl] at hT
       generalize txtB [97] (brP m s.length l) = tx at *
       generalize brP m s.length l = p at *
       have bs : ((⟨tx.toArray⟩ : ByteArray).toList == (⟨tx.toArray⟩ : ByteArray).toList) = true := beq_self_eq_true _
       rcases bE with b6 | ⟨b6, b7⟩
       ·refine Fn.intro [.tmp 4] Tryz.func3 rfl rfl (by decide) (by simp [Tryz.ntmps3]) ?_; rw [Tryz.ntmps3]
        repeat' (first | omega | ((first | apply yaa | (refine yae.intro (id := 15) [[],[],[],[76],[76],[74,75],[],[],[],[],[]] [[],[],[],[],[],[3,4],[],[],[],[],[]] (by decide +kernel) mixed ?_) | (refine yae.introT (id := 15) (yne) (by decide +kernel) mixed ?_) | skip); simp only [go_sem, sevalprocAttr, b1, b2, b3, b4, b6, ↓reduceIte, reduceCtorEq, yne]) | (refine ⟨yaf.fn (r := ?_) rfl ?_ ?_⟩; rotate_left; assumption) | (apply yad <;> (intro h_; (try simp only [h_]); revert h_)) | apply yac | apply yab | apply gspI | apply And.intro | with_reducible intro h_ | trivial | (simp only [go_sem, la2]; omega))
        refine ⟨yau.fn rfl hT ?_⟩
        simp only [go_sem, sevalprocAttr]
        refine ⟨yau.fn rfl hR ?_⟩
        simp only [go_sem, sevalprocAttr]
        refine ⟨yau.fn rfl hU ?_⟩
        simp only [go_sem, sevalprocAttr, bs]
        repeat' (first | omega | ((try apply yaa); simp only [go_sem, sevalprocAttr, bs]) | (apply yad <;> (intro h_; (try simp only [h_]); revert h_)) | apply yac | apply yab | apply gspI | apply And.intro | with_reducible intro h_ | trivial | (simp only [go_sem, la2]; omega))
       ·refine Fn.intro [.tmp 4] Tryz.func3 rfl rfl (by decide) (by simp [Tryz.ntmps3]) ?_; rw [Tryz.ntmps3]
        repeat' (first | omega | ((first | apply yaa | (refine yae.intro (id := 15) [[],[],[],[76],[76],[74,75],[],[],[],[],[]] [[],[],[],[],[],[3,4],[],[],[],[],[]] (by decide +kernel) mixed ?_) | (refine yae.introT (id := 15) (yne) (by decide +kernel) mixed ?_) | skip); simp only [go_sem, sevalprocAttr, b1, b2, b3, b4, b6, b7, ↓reduceIte, reduceCtorEq, yne]) | (refine ⟨yaf.fn (r := ?_) rfl ?_ ?_⟩; rotate_left; assumption) | (apply yad <;> (intro h_; (try simp only [h_]); revert h_)) | apply yac | apply yab | apply gspI | apply And.intro | with_reducible intro h_ | trivial | (simp only [go_sem, la2]; omega))
        refine ⟨yau.fn rfl hT ?_⟩
        simp only [go_sem, sevalprocAttr]
        refine ⟨yau.fn rfl hR ?_⟩
        simp only [go_sem, sevalprocAttr]
        refine ⟨yau.fn rfl hU ?_⟩
        simp only [go_sem, sevalprocAttr, bs]
        repeat' (first | omega | ((try apply yaa); simp only [go_sem, sevalprocAttr, bs]) | (apply yad <;> (intro h_; (try simp only [h_]); revert h_)) | apply yac | apply yab | apply gspI | apply And.intro | with_reducible intro h_ | trivial | (simp only [go_sem, la2]; omega))
 ·have b1 : decide ((9 : Int) < s.length) = true \/ (decide ((9 : Int) < s.length) = false /\ decide ((40 : Int) < m.length) = true) \/ (decide ((9 : Int) < s.length) = false /\ decide ((40 : Int) < m.length) = false /\ decide ((6 : Int) < L) = true /\ decide (L <= 64) = true) \/ (decide ((9 : Int) < s.length) = false /\ decide ((40 : Int) < m.length) = false /\ decide ((6 : Int) < L) = false /\ decide ((20 : Int) < o.length) = true) \/ (decide ((9 : Int) < s.length) = false /\ decide ((40 : Int) < m.length) = false /\ decide ((6 : Int) < L) = true /\ decide (L <= 64) = false /\ decide ((20 : Int) < o.length) = true) := by
   simp only [decide_eq_true_eq, decide_eq_false_iff_not]; omega
  rcases b1 with b1 | ⟨b1, b2⟩ | ⟨b1, b2, b3, b4⟩ | ⟨b1, b2, b3, b4⟩ | ⟨b1, b2, b3, b4, b5⟩
  ·refine Fn.intro [.tmp 4] Tryz.func3 rfl rfl (by decide) (by simp [Tryz.ntmps3]) ?_; rw [Tryz.ntmps3]
   repeat' (first | omega | ((try apply yaa); simp only [go_sem, sevalprocAttr, b1]) | (refine ⟨yaf.fn (r := ?_) rfl ?_ ?_⟩; rotate_left; assumption) | (apply yad <;> (intro h_; (try simp only [h_]); revert h_)) | apply yac | apply yab | apply gspI | apply And.intro | with_reducible intro h_ | trivial | (simp only [go_sem, la2]; omega))
  ·refine Fn.intro [.tmp 4] Tryz.func3 rfl rfl (by decide) (by simp [Tryz.ntmps3]) ?_; rw [Tryz.ntmps3]
   repeat' (first | omega | ((try apply yaa); simp only [go_sem, sevalprocAttr, b1, b2]) | (refine ⟨yaf.fn (r := ?_) rfl ?_ ?_⟩; rotate_left; assumption) | (apply yad <;> (intro h_; (try simp only [h_]); revert h_)) | apply yac | apply yab | apply gspI | apply And.intro | with_reducible intro h_ | trivial | (simp only [go_sem, la2]; omega))
  ·refine Fn.intro [.tmp 4] Tryz.func3 rfl rfl (by decide) (by simp [Tryz.ntmps3]) ?_; rw [Tryz.ntmps3]
   repeat' (first | omega | ((try apply yaa); simp only [go_sem, sevalprocAttr, b1, b2, b3, b4]) | (refine ⟨yaf.fn (r := ?_) rfl ?_ ?_⟩; rotate_left; assumption) | (apply yad <;> (intro h_; (try simp only [h_]); revert h_)) | apply yac | apply yab | apply gspI | apply And.intro | with_reducible intro h_ | trivial | (simp only [go_sem, la2]; omega))
  ·refine Fn.intro [.tmp 4] Tryz.func3 rfl rfl (by decide) (by simp [Tryz.ntmps3]) ?_; rw [Tryz.ntmps3]
   repeat' (first | omega | ((try apply yaa); simp only [go_sem, sevalprocAttr, b1, b2, b3, b4]) | (refine ⟨yaf.fn (r := ?_) rfl ?_ ?_⟩; rotate_left; assumption) | (apply yad <;> (intro h_; (try simp only [h_]); revert h_)) | apply yac | apply yab | apply gspI | apply And.intro | with_reducible intro h_ | trivial | (simp only [go_sem, la2]; omega))
  ·refine Fn.intro [.tmp 4] Tryz.func3 rfl rfl (by decide) (by simp [Tryz.ntmps3]) ?_; rw [Tryz.ntmps3]
   repeat' (first | omega | ((try apply yaa); simp only [go_sem, sevalprocAttr, b1, b2, b3, b4, b5]) | (refine ⟨yaf.fn (r := ?_) rfl ?_ ?_⟩; rotate_left; assumption) | (apply yad <;> (intro h_; (try simp only [h_]); revert h_)) | apply yac | apply yab | apply gspI | apply And.intro | with_reducible intro h_ | trivial | (simp only [go_sem, la2]; omega))
end Go.Proofs.YtebdkebfkpbmpaaGreatDoor
