/- The reference of layer 12: decimals, Of, Text. -/
import Derived.Test.YtebdkebfkpbmpaaGreatDoorTx4
import Derived.Test.YtebdkebfkpbmpaaGreatDoorTm
set_option linter.unusedSimpArgs false
set_option linter.unusedVariables false
namespace Go.Proofs.YtebdkebfkpbmpaaGreatDoor
open Go Go.RowKit
set_option maxRecDepth 100000
set_option maxHeartbeats 8000000
theorem bapp (a b : List UInt8) : (⟨a.toArray⟩ : ByteArray) ++ ⟨b.toArray⟩ = ⟨(a ++ b).toArray⟩ := by
 apply ByteArray.ext; simp
theorem bsz (a : List UInt8) : (⟨a.toArray⟩ : ByteArray).size = a.length := by simp [ByteArray.size]
theorem y3b : ∀ k : Fin 10, (⟨#[48, 49, 50, 51, 52, 53, 54, 55, 56, 57]⟩ : ByteArray).extract k.val (k.val + 1) = ⟨#[UInt8.ofNat (48 + k.val)]⟩ := by decide +kernel
theorem yuz : ∀ u : Nat, u <= 9223372036854775807 -> Fn Tryz.prog 56 [I u] (.str ⟨(Lib.decDigits u).toArray⟩) := fun u => by
 induction u using Nat.strongRecOn with
 | _ u ih =>
   intro hu
   have b0 : decide ((u : Int) < 0) = false := by simp
   have e1 : (u : Int).tmod 10 = ((u % 10 : Nat) : Int) := by rw [yjk (by omega)]; omega
   have e2 : (u : Int).tdiv 10 = ((u / 10 : Nat) : Int) := by rw [ydi (by omega)]; omega
   have e3 : (((u % 10 : Nat) : Int) + 1).toNat = u % 10 + 1 := by omega
   have e4 := y3b ⟨u % 10, by omega⟩
   simp only at e4
   have esz : (⟨#[48, 49, 50, 51, 52, 53, 54, 55, 56, 57]⟩ : ByteArray).size = 10 := rfl
   by_cases h : u < 10
   ·have b1 : decide ((u : Int) < 10) = true := by simp; omega
    rw [Lib.decDigits, dif_pos h]
    refine Fn.intro [.tmp 2] Tryz.func56 rfl rfl (by decide) (by simp [Tryz.ntmps56]) ?_; rw [Tryz.ntmps56]
    repeat' (first | omega | ((try apply yaa); simp only [go_sem, sevalprocAttr, b0, b1, e1, e2, e3, e4, esz, Int.toNat_natCast]) | (apply yad <;> (intro h_; (try simp only [h_]); revert h_)) | apply yac | apply yab | apply gspI | apply And.intro | with_reducible intro h_ | trivial | (simp only [go_sem, la2]; omega))
    all_goals (rw [Nat.mod_eq_of_lt h])
   ·have b1 : decide ((u : Int) < 10) = false := by simp; omega
    have hr := ih (u / 10) (by omega) (by omega)
    have hl := Lib.itoa_length_le ((u / 10 : Nat) : Int) (by omega) (by omega)
    rw [Lib.itoa_nonneg] at hl
    rw [Lib.decDigits, dif_neg h]
    have sz1 := bsz (Lib.decDigits (u / 10))
    have ap := bapp (Lib.decDigits (u / 10)) [UInt8.ofNat (48 + u % 10)]
    have sz2 : (⟨#[UInt8.ofNat (48 + u % 10)]⟩ : ByteArray).size = 1 := rfl
    refine Fn.intro [.tmp 2] Tryz.func56 rfl rfl (by decide) (by simp [Tryz.ntmps56]) ?_; rw [Tryz.ntmps56]
    repeat' (first | omega | ((try apply yaa); simp only [go_sem, sevalprocAttr, b0, b1, e1, e2, e3, e4, esz, Int.toNat_natCast]) | (apply yad <;> (intro h_; (try simp only [h_]); revert h_)) | apply yac | apply yab | apply gspI | apply And.intro | with_reducible intro h_ | trivial | (simp only [go_sem, la2]; omega))
    refine ⟨yaf.fn rfl hr ?_⟩
    repeat' (first | omega | ((try apply yaa); simp only [go_sem, sevalprocAttr, b0, b1, sz1, sz2, ap]) | (apply yad <;> (intro h_; (try simp only [h_]); revert h_)) | apply yac | apply yab | apply gspI | apply And.intro | with_reducible intro h_ | trivial | (simp only [go_sem, la2]; omega))
    all_goals exact ap
theorem yie (n : Int) (h0 : -9223372036854775807 <= n) (h1 : n <= 9223372036854775807) : Fn Tryz.prog 56 [I n] (.str ⟨(Lib.itoa n).toArray⟩) := by
 by_cases h : n < 0
 ·have hr := yuz n.natAbs (by omega)
  rw [show ((n.natAbs : Nat) : Int) = 0 - n by omega] at hr
  have b0 : decide (n < 0) = true := by simpa using h
  have hl := Lib.itoa_length_le ((n.natAbs : Nat) : Int) (by omega) (by omega)
  rw [Lib.itoa_nonneg] at hl
  have sz1 := bsz (Lib.decDigits n.natAbs)
  have sz2 : (⟨#[45]⟩ : ByteArray).size = 1 := rfl
  have ap := bapp [45] (Lib.decDigits n.natAbs)
  unfold Lib.itoa
  rw [if_pos h]
  refine Fn.intro [.tmp 2] Tryz.func56 rfl rfl (by decide) (by simp [Tryz.ntmps56]) ?_; rw [Tryz.ntmps56]
  repeat' (first | omega | ((try apply yaa); simp only [go_sem, sevalprocAttr, b0]) | (apply yad <;> (intro h_; (try simp only [h_]); revert h_)) | apply yac | apply yab | apply gspI | apply And.intro | with_reducible intro h_ | trivial | (simp only [go_sem, la2]; omega))
  refine ⟨yaf.fn rfl hr ?_⟩
  repeat' (first | omega | ((try apply yaa); simp only [go_sem, sevalprocAttr, b0, sz1, sz2, ap]) | (apply yad <;> (intro h_; (try simp only [h_]); revert h_)) | apply yac | apply yab | apply gspI | apply And.intro | with_reducible intro h_ | trivial | (simp only [go_sem, la2]; omega))
  all_goals exact ap
 ·have hr := yuz n.toNat (by omega)
  rw [show ((n.toNat : Nat) : Int) = n by omega] at hr
  unfold Lib.itoa
  rw [if_neg h]
  exact hr
abbrev rpA (p : List (Int × Int)) : AV := .agg [tmA p, .bool false]
attribute [go_sem] rpA
theorem ysa {nm : List UInt8} {p : List (Int × Int)} (hn : nm.length <= 1000) (hr : cok p) : ∀ i, i <= p.length -> (txtN nm p i).length <= 2000 * i
 | 0, _ => by simp [txtN]
 | i + 1, h => by
   have h1 := ysa hn hr i (by omega)
   have h2 := ypb (nm := nm) (k := i) hn (hr i (by omega))
   simp only [txtN, List.length_append]; omega
theorem yls (P : Prop) [Decidable P] : (decide P = true /\ P = True) \/ (decide P = false /\ P = False) := by
 by_cases h : P
 ·exact .inl ⟨decide_eq_true h, eq_true h⟩
 ·exact .inr ⟨decide_eq_false h, eq_false h⟩
theorem yem (a b : Int) : ((a == b) = true /\ (a = b) = True) \/ ((a == b) = false /\ (a = b) = False) := yls (a = b)
theorem yzs (name : ByteArray) : Fn Tryz.prog 14 [rpA [], .str name] (.str ⟨#[48]⟩) := by
 refine Fn.intro [.tmp 4] Tryz.func14 rfl rfl (by decide) (by simp [Tryz.ntmps14]) ?_; rw [Tryz.ntmps14]
 repeat' (first | omega | ((try apply yaa); simp only [go_sem, sevalprocAttr]) | (apply yad <;> (intro h_; (try simp only [h_]); revert h_)) | apply yac | apply yab | apply gspI | apply And.intro | with_reducible intro h_ | trivial | (simp only [go_sem, la2]; omega))
theorem yzt (p : List (Int × Int)) (nm : List UInt8) (hp0 : 0 < p.length) (hr : cok p) (hn : nm.length <= 1000) (hpl : p.length <= 1000) :
  Fn Tryz.prog 14 [rpA p, .str ⟨nm.toArray⟩] (.str ⟨(txtN nm p p.length).toArray⟩) := by
 have bp : ((p.length : Int) == 0) = false := by rw [beq_eq_false_iff_ne]; omega
 refine Fn.intro [.tmp 4] Tryz.func14 rfl rfl (by decide) (by simp [Tryz.ntmps14]) ?_; rw [Tryz.ntmps14]
 repeat' (first | omega | ((try apply yaa); simp only [go_sem, sevalprocAttr, bp]) | (apply yad <;> (intro h_; (try simp only [h_]); revert h_)) | apply yac | apply yab | apply gspI | apply And.intro | with_reducible intro h_ | trivial | (simp only [go_sem, la2]; omega))
 refine yah.intro (fun n fr H => ∃ i : Nat, i <= p.length /\ n = p.length - i /\ fr = [(6, I i), (5, .str ⟨(txtN nm p i).toArray⟩), (2, .ptr 0 0), (1, .str ⟨nm.toArray⟩)] /\ H = [(0, .cells 38 (.lst [tmA p, .bool false]))]) ?_ ?_
 ·refine ⟨_, _, _, ?_, 0, by omega, rfl, rfl, rfl⟩
  refine Wk.sub ?_ ?_ <;> simp only [go_sem, sevalprocAttr]
  all_goals rfl
 rintro n fr H ⟨i, hi, rfl, rfl, rfl⟩
 by_cases hil : i < p.length
 ·have t0 := ycf p i hil
  have t1 := ydc p i hil
  have bi : decide ((i : Int) < p.length) = true := by simp; omega
  have hrg := hr i hil
  have htl := ysa hn hr i hi
  have hnx : txtN nm p (i + 1) = txtN nm p i ++ ybl nm i (p.getD i (0, 0)).1 (p.getD i (0, 0)).2 := rfl
  have hE := yie (p.getD i (0, 0)).1 (by omega) (by omega)
  have lE := Lib.itoa_length_le (p.getD i (0, 0)).1 (by omega) (by omega)
  have hZ := yie (p.getD i (0, 0)).2 (by omega) (by omega)
  have lZ := Lib.itoa_length_le (p.getD i (0, 0)).2 (by omega) (by omega)
  have hY := yie (0 - (p.getD i (0, 0)).2) (by omega) (by omega)
  have lY := Lib.itoa_length_le (0 - (p.getD i (0, 0)).2) (by omega) (by omega)
  generalize (p.getD i (0, 0)).1 = e at *
  generalize (p.getD i (0, 0)).2 = c at *
  generalize txtN nm p i = acc at *
  unfold ybl at hnx
  clear hr
  rcases yls (c < 0) with ⟨b1, d1⟩ | ⟨b1, d1⟩
  ·have d2 := d1
   rcases yem (0 - c) 1 with ⟨b6, d6⟩ | ⟨b6, d6⟩
   all_goals rcases yem e 0 with ⟨b3, d3⟩ | ⟨b3, d3⟩
   all_goals rcases yem e 1 with ⟨b4, d4⟩ | ⟨b4, d4⟩
   all_goals (simp only [d1, d2, d6, d3, d4, if_true, if_false, ne_eq, not_true_eq_false, not_false_eq_true, and_true, and_false, or_true, true_or, or_self, List.nil_append, List.append_nil] at hnx)
   all_goals (repeat' (first | omega | ((try apply yaa); simp only [go_sem, sevalprocAttr, t0, t1, bi, b1, b6, b3, b4, bne, bapp, bsz]) | (apply yad <;> (intro h_; (try simp only [h_]); revert h_)) | apply yac | apply yab | apply gspI | apply And.intro | with_reducible intro h_ | trivial | (simp only [go_sem, la2]; omega)))
   all_goals first | refine ⟨yaf.fn rfl hY ?_⟩ | refine ⟨yaf.fn rfl hE ?_⟩ | skip
   all_goals (repeat' (first | omega | ((try apply yaa); simp only [go_sem, sevalprocAttr, t0, t1, bi, b1, b6, b3, b4, bne, bapp, bsz]) | (apply yad <;> (intro h_; (try simp only [h_]); revert h_)) | apply yac | apply yab | apply gspI | apply And.intro | with_reducible intro h_ | trivial | (simp only [go_sem, la2]; omega)))
   all_goals first | refine ⟨yaf.fn rfl hE ?_⟩ | skip
   all_goals (repeat' (first | omega | ((try apply yaa); simp only [go_sem, sevalprocAttr, t0, t1, bi, b1, b6, b3, b4, bne, bapp, bsz]) | (apply yad <;> (intro h_; (try simp only [h_]); revert h_)) | apply yac | apply yab | apply gspI | apply And.intro | with_reducible intro h_ | trivial | (simp only [go_sem, la2]; omega)))
   all_goals (refine ⟨_, _, _, ?_, ?_, ⟨i + 1, by omega, rfl, rfl, rfl⟩⟩)
   all_goals first | omega | skip
   all_goals (refine Wk.sub ?_ ?_ <;> simp only [go_sem, sevalprocAttr])
   all_goals (rw [hnx]; try simp)
  ·rcases yls ((0 : Int) < i) with ⟨b2, d2⟩ | ⟨b2, d2⟩
   all_goals (rw [show ((0 : Int) < (i : Int)) = (0 < i) by simp] at d2)
   all_goals rcases yem c 1 with ⟨b6, d6⟩ | ⟨b6, d6⟩
   all_goals rcases yem e 0 with ⟨b3, d3⟩ | ⟨b3, d3⟩
   all_goals rcases yem e 1 with ⟨b4, d4⟩ | ⟨b4, d4⟩
   all_goals (simp only [d1, d2, d6, d3, d4, if_true, if_false, ne_eq, not_true_eq_false, not_false_eq_true, and_true, and_false, or_true, true_or, or_self, List.nil_append, List.append_nil] at hnx)
   all_goals (repeat' (first | omega | ((try apply yaa); simp only [go_sem, sevalprocAttr, t0, t1, bi, b1, b6, b3, b4, bne, bapp, bsz, b2]) | (apply yad <;> (intro h_; (try simp only [h_]); revert h_)) | apply yac | apply yab | apply gspI | apply And.intro | with_reducible intro h_ | trivial | (simp only [go_sem, la2]; omega)))
   all_goals first | refine ⟨yaf.fn rfl hZ ?_⟩ | refine ⟨yaf.fn rfl hE ?_⟩ | skip
   all_goals (repeat' (first | omega | ((try apply yaa); simp only [go_sem, sevalprocAttr, t0, t1, bi, b1, b6, b3, b4, bne, bapp, bsz, b2]) | (apply yad <;> (intro h_; (try simp only [h_]); revert h_)) | apply yac | apply yab | apply gspI | apply And.intro | with_reducible intro h_ | trivial | (simp only [go_sem, la2]; omega)))
   all_goals first | refine ⟨yaf.fn rfl hE ?_⟩ | skip
   all_goals (repeat' (first | omega | ((try apply yaa); simp only [go_sem, sevalprocAttr, t0, t1, bi, b1, b6, b3, b4, bne, bapp, bsz, b2]) | (apply yad <;> (intro h_; (try simp only [h_]); revert h_)) | apply yac | apply yab | apply gspI | apply And.intro | with_reducible intro h_ | trivial | (simp only [go_sem, la2]; omega)))
   all_goals (refine ⟨_, _, _, ?_, ?_, ⟨i + 1, by omega, rfl, rfl, rfl⟩⟩)
   all_goals first | omega | skip
   all_goals (refine Wk.sub ?_ ?_ <;> simp only [go_sem, sevalprocAttr])
   all_goals (rw [hnx]; try simp)
 ·obtain rfl : i = p.length := by omega
  have bi : decide ((p.length : Int) < p.length) = false := by simp
  repeat' (first | omega | ((try apply yaa); simp only [go_sem, sevalprocAttr, bi]) | (apply yad <;> (intro h_; (try simp only [h_]); revert h_)) | apply yac | apply yab | apply gspI | apply And.intro | with_reducible intro h_ | trivial | (simp only [go_sem, la2]; omega))
end Go.Proofs.YtebdkebfkpbmpaaGreatDoor
