/- Layer 12: Of and Term; the product with 0. -/
import Derived.Test.YtebdkebfkpbmpaaGreatDoorXj
import Derived.Test.YtebdkebfkpbmpaaGreatDoorXd
set_option linter.unusedSimpArgs false
set_option linter.unusedVariables false
namespace Go.Proofs.YtebdkebfkpbmpaaGreatDoor
open Go Go.RowKit
set_option maxHeartbeats 8000000
set_option maxRecDepth 100000
theorem y2t {v l : Int} (h0 : -l <= v) (h1 : v <= l) : fitB v l = true := by unfold fitB; simp; omega
theorem yv8 (low : Int) (cs : List Int) (hl : -1000000 <= low /\ low + cs.length <= 1000000) (hn : cs.length <= 100000) (hc : ∀ c ∈ cs, -1125899906842624 <= c /\ c <= 1125899906842624) :
  Fn Tryz.prog 44 [I low, roI cs] (plA false (tmI low cs)) := by
 refine Fn.introL [.cell 4 28] Tryz.func44 rfl rfl (by decide) (by simp [Tryz.ntmps44]) ?_; rw [Tryz.ntmps44]
 repeat' (first | omega | ((try apply yaa); simp only [go_sem, sevalprocAttr]) | (apply yad <;> (intro h_; (try simp only [h_]); revert h_)) | apply yac | apply yab | apply gspI | apply And.intro | with_reducible intro h_ | trivial | (simp only [go_sem, la2]; omega))
 refine yah.intro (fun n fr H => ∃ k : Nat, k <= cs.length /\ n = cs.length - k /\ fr = [(10, I k), (9, I cs.length), (8, roI cs), (5, .ptr 1 0), (4, .ptr 0 0), (0, I low)] /\
  ((tmI low (cs.take k) = [] /\ H = [(1, .cells 28 (.lst [.bool false, .nils])), (0, .cells 28 (.lst [.bool false, .nils]))]) \/
   H = [(3, .cells 73 (.lst (tmC (tmI low (cs.take k))))), (1, .cells 28 (.lst [.bool false, .sl 2 3 0 (tmI low (cs.take k)).length])), (0, .cells 28 (.lst [.bool false, .nils]))])) ?_ ?_
 ·refine ⟨_, _, _, ?_, 0, by omega, rfl, rfl, .inl ⟨by simp [tmI], rfl⟩⟩
  refine Wk.sub ?_ ?_ <;> simp only [go_sem, sevalprocAttr]
  all_goals simp_all
 rintro n fr H ⟨k, hk, rfl, rfl, hcs⟩
 have htl := ynu low (cs.take k)
 rw [List.length_take] at htl
 by_cases hkl : k < cs.length
 ·have hzk := hc (cs.getD k 0) (by simp [List.getD_eq_getElem?_getD, List.getElem?_eq_getElem hkl])
  have eT := yk7 low (cs.take k) (cs.getD k 0)
  rw [← yo5 hkl, List.length_take, show min k cs.length = k by omega] at eT
  have hw1 := yo3 (cs.getD k 0) 1125899906842624 (by omega) (by omega)
  have hw2 := yo3 (low + k) 1048576 (by omega) (by omega)
  rw [y2t (by omega) (by omega)] at hw1 hw2
  have bl : decide (1048576 < low) = false := by simp; omega
  have hlen := ybh (tmI low (cs.take k))
  by_cases hz0 : cs.getD k 0 = 0
  ·have bz : (cs.getD k 0 == 0) = true := by simpa using hz0
   rw [if_pos hz0, List.append_nil] at eT
   rcases hcs with ⟨hn, rfl⟩ | rfl
   ·repeat' (first | omega | ((try apply yaa); simp only [go_sem, sevalprocAttr, bz]) | (apply yad <;> (intro h_; (try simp only [h_]); revert h_)) | apply yac | apply yab | apply gspI | apply And.intro | with_reducible intro h_ | trivial | (simp only [go_sem, la2]; omega))
    refine ⟨_, _, _, ?_, ?_, ⟨k + 1, by omega, rfl, rfl, .inl ⟨by rw [eT]; exact hn, rfl⟩⟩⟩
    ·omega
    ·refine Wk.sub ?_ ?_ <;> (simp only [go_sem, sevalprocAttr, yaj])
     all_goals simp_all
   ·repeat' (first | omega | ((try apply yaa); simp only [go_sem, sevalprocAttr, bz]) | (apply yad <;> (intro h_; (try simp only [h_]); revert h_)) | apply yac | apply yab | apply gspI | apply And.intro | with_reducible intro h_ | trivial | (simp only [go_sem, la2]; omega))
    refine ⟨_, _, _, ?_, ?_, ⟨k + 1, by omega, rfl, rfl, .inr rfl⟩⟩
    ·omega
    ·rw [eT]
     refine Wk.sub ?_ ?_ <;> (simp only [go_sem, sevalprocAttr, yaj])
     all_goals simp_all
  ·have bz : (cs.getD k 0 == 0) = false := by rw [beq_eq_false_iff_ne]; exact hz0
   rw [if_neg hz0] at eT
   rcases hcs with ⟨hn, rfl⟩ | rfl
   ·rw [hn, List.nil_append] at eT
    repeat' (first | omega | ((try apply yaa); simp only [go_sem, sevalprocAttr, bz]) | (apply yad <;> (intro h_; (try simp only [h_]); revert h_)) | apply yac | apply yab | apply gspI | apply And.intro | with_reducible intro h_ | trivial | (simp only [go_sem, la2]; omega))
    refine ⟨yaf.fn rfl hw1 ?_⟩
    repeat' (first | omega | ((try apply yaa); simp only [go_sem, sevalprocAttr, bl]) | (apply yad <;> (intro h_; (try simp only [h_]); revert h_)) | apply yac | apply yab | apply gspI | apply And.intro | with_reducible intro h_ | trivial | (simp only [go_sem, la2]; omega))
    refine ⟨yaf.fn rfl hw2 ?_⟩
    repeat' (first | omega | ((try apply yaa); simp only [go_sem, sevalprocAttr]) | (apply yad <;> (intro h_; (try simp only [h_]); revert h_)) | apply yac | apply yab | apply gspI | apply And.intro | with_reducible intro h_ | trivial | (simp only [go_sem, la2]; omega))
    refine ⟨_, _, _, ?_, ?_, ⟨k + 1, by omega, rfl, rfl, .inr rfl⟩⟩
    ·omega
    ·rw [eT]
     refine Wk.sub ?_ ?_ <;> (simp only [go_sem, sevalprocAttr, yaj])
     all_goals first | rfl | simp_all
   ·repeat' (first | omega | ((try apply yaa); simp only [go_sem, sevalprocAttr, bz]) | (apply yad <;> (intro h_; (try simp only [h_]); revert h_)) | apply yac | apply yab | apply gspI | apply And.intro | with_reducible intro h_ | trivial | (simp only [go_sem, la2]; omega))
    refine ⟨yaf.fn rfl hw1 ?_⟩
    repeat' (first | omega | ((try apply yaa); simp only [go_sem, sevalprocAttr, bl]) | (apply yad <;> (intro h_; (try simp only [h_]); revert h_)) | apply yac | apply yab | apply gspI | apply And.intro | with_reducible intro h_ | trivial | (simp only [go_sem, la2]; omega))
    refine ⟨yaf.fn rfl hw2 ?_⟩
    repeat' (first | omega | ((try apply yaa); simp only [go_sem, sevalprocAttr, hlen]) | (apply yad <;> (intro h_; (try simp only [h_]); revert h_)) | apply yac | apply yab | apply gspI | apply And.intro | with_reducible intro h_ | trivial | (simp only [go_sem, la2]; omega))
    rw [yib]
    refine ⟨_, _, _, ?_, ?_, ⟨k + 1, by omega, rfl, rfl, .inr rfl⟩⟩
    ·omega
    ·rw [eT]
     refine Wk.sub ?_ ?_ <;> (simp only [go_sem, sevalprocAttr, yaj, List.length_append])
     all_goals simp_all
 ·obtain rfl : k = cs.length := by omega
  rw [List.take_of_length_le (Nat.le_refl _)] at hcs htl
  rcases hcs with ⟨hn, rfl⟩ | rfl
  ·repeat' (first | omega | ((try apply yaa); simp only [go_sem, sevalprocAttr]) | (apply yad <;> (intro h_; (try simp only [h_]); revert h_)) | apply yac | apply yab | apply gspI | apply And.intro | with_reducible intro h_ | trivial | (simp only [go_sem, la2]; omega))
   all_goals rw [hn]
   all_goals exact LeA.aggL (.cons (LeA.refl _) (.cons (LeA.nils (by omega) rfl) .nil))
  ·have hlen := ybh (tmI low cs)
   repeat' (first | omega | ((try apply yaa); simp only [go_sem, sevalprocAttr, yi5]) | (apply yad <;> (intro h_; (try simp only [h_]); revert h_)) | apply yac | apply yab | apply gspI | apply And.intro | with_reducible intro h_ | trivial | (simp only [go_sem, la2]; omega))
   all_goals exact LeA.of (by rw [List.take_of_length_le (by omega)])
theorem yuh (q : List (Int × Int)) : Fn Tryz.prog 46 [plA false [], plA false q] (plA false []) := by
 refine Fn.introL [.cell 4 28] Tryz.func46 rfl rfl (by decide) (by simp [Tryz.ntmps46]) ?_; rw [Tryz.ntmps46]
 repeat' (first | omega | ((try apply yaa); simp only [go_sem, sevalprocAttr]) | (apply yad <;> (intro h_; (try simp only [h_]); revert h_)) | apply yac | apply yab | apply gspI | apply And.intro | with_reducible intro h_ | trivial | (simp only [go_sem, la2]; omega))
 all_goals exact LeA.aggL (.cons (LeA.refl _) (.cons (LeA.nils (by omega) rfl) .nil))
end Go.Proofs.YtebdkebfkpbmpaaGreatDoor
set_option linter.unusedSimpArgs false
set_option linter.unusedVariables false
namespace Go.Proofs.YtebdkebfkpbmpaaGreatDoor
end Go.Proofs.YtebdkebfkpbmpaaGreatDoor
set_option linter.unusedSimpArgs false
set_option linter.unusedVariables false
namespace Go.Proofs.YtebdkebfkpbmpaaGreatDoor
open Go Go.RowKit
set_option maxRecDepth 100000
structure yan (p : List (Int × Int)) (f : Int -> Int) : Prop where
 asc : AscN p
 cf : ∀ e, cfL p e = f e
theorem yan.nil : yan [] (fun _ => 0) := ⟨AscN.nil, fun _ => rfl⟩
theorem yan.congr {p : List (Int × Int)} {f g : Int -> Int} (h : yan p f) (e : ∀ x, f x = g x) : yan p g := ⟨h.asc, fun x => (h.cf x).trans (e x)⟩
theorem yan.mem {p : List (Int × Int)} {f : Int -> Int} (h : yan p f) {t : Int × Int} (ht : t ∈ p) : t.2 = f t.1 /\ f t.1 ≠ 0 := by
 have := yfl h.asc ht
 rw [h.cf] at this
 exact ⟨this.symm, by rw [this]; exact h.asc.nz t ht⟩
theorem yan.len {p : List (Int × Int)} {f : Int -> Int} (h : yan p f) (hs : ∀ e, f e ≠ 0 -> -1000 <= e /\ e <= 1000) : p.length <= 2001 := by
 have := h.asc.len (a := -1000) (b := 1000) fun t ht => hs _ (h.mem ht).2
 omega
theorem yan.fits {p : List (Int × Int)} {f : Int -> Int} (h : yan p f) (hb : ∀ e, -1125899906842624 <= f e /\ f e <= 1125899906842624) : yms p := fun t ht => by
 rw [(h.mem ht).1]; exact hb _
theorem yan.ok {p : List (Int × Int)} {f : Int -> Int} (h : yan p f) (hs : ∀ e, f e ≠ 0 -> -1000 <= e /\ e <= 1000) (hb : ∀ e, -1125899906842624 <= f e /\ f e <= 1125899906842624) : yrz p := by
 refine ⟨h.fits hb, by have := h.len hs; omega, fun i j hij hj => ?_, fun i hi => ?_⟩
 ·by_cases e : i = j
  ·subst e; exact Int.le_refl _
  ·have := List.pairwise_iff_getElem.1 h.asc.asc i j (by omega) hj (by omega)
   simp only [List.getD_eq_getElem?_getD, List.getElem?_eq_getElem hj, List.getElem?_eq_getElem (show i < p.length by omega), Option.getD_some]
   omega
 ·have := hs _ (h.mem (ybg hi)).2
  omega
theorem y2u {p : List (Int × Int)} (h : p.Pairwise fun a b => a.1 < b.1) {t : Int × Int} (ht : t ∈ p) : cfL p t.1 = t.2 := by
 induction p with
 | nil => cases ht
 | cons u p ih =>
   have h1 := List.pairwise_cons.1 h
   simp only [cfL]
   rcases List.mem_cons.1 ht with rfl | ht
   ·rw [if_pos rfl, yh8 fun v hv => by have := h1.1 v hv; omega]; omega
   ·rw [if_neg (by have := h1.1 t ht; omega), ih h1.2 ht]; omega
theorem dAsc : AscN [(-2, -1), (2, -1)] := ⟨by decide, by decide⟩
theorem yn3 {p q : List (Int × Int)} {f g h : Int -> Int} (hp : yan p f) (hq : yan q g) (hs : ∀ e, f e ≠ 0 -> -1000 <= e /\ e <= 1000) (hs2 : ∀ e, g e ≠ 0 -> -1000 <= e /\ e <= 1000)
  (hb : ∀ e, -1125899906842624 <= f e /\ f e <= 1125899906842624) (hb2 : ∀ e, -1125899906842624 <= g e /\ g e <= 1125899906842624) (hh : ∀ e, cvL p g e = h e) (hb3 : ∀ e, -1125899906842624 <= h e /\ h e <= 1125899906842624)
  (hp0 : 0 < p.length) (hq0 : 0 < q.length) (hd : ybf p + ybf q - (lowE p + lowE q) <= 64 + 4 * (p.length : Int) * q.length) :
  ∃ r, yan r h /\ Fn Tryz.prog 46 [plA false p, plA false q] (plA false r) := by
 have a0 := hs _ (hp.mem (ybg (i := 0) hp0)).2
 have a1 := hs _ (hp.mem (ybg (i := p.length - 1) (by omega))).2
 have b0 := hs2 _ (hq.mem (ybg (i := 0) hq0)).2
 have b1 := hs2 _ (hq.mem (ybg (i := q.length - 1) (by omega))).2
 have hgq : cfL q = g := funext hq.cf
 have hc : ∀ e, cfL (tmI (lowE p + lowE q) (mulZ p q)) e = h e := fun e => by rw [y6d hp.asc hq.asc, hgq, hh]
 refine ⟨_, ⟨yjo _ _, hc⟩, y80 p q (hp.ok hs hb) (hq.ok hs2 hb2) hp0 hq0 ?_ ?_ ?_ hd fun z hz => ?_⟩
 ·unfold lowE; omega
 ·unfold ybf; omega
 ·unfold lowE ybf; omega
 ·obtain ⟨i, hi, rfl⟩ := List.mem_iff_getElem.1 hz
  have h1 := yg1 (lowE p + lowE q) (mulZ p q) (lowE p + lowE q + i)
  rw [if_pos (by omega), show (lowE p + lowE q + (i : Int) - (lowE p + lowE q)).toNat = i by omega, hc] at h1
  have h2 : (mulZ p q).getD i 0 = (mulZ p q)[i] := by simp [List.getD_eq_getElem?_getD, hi]
  rw [← h2, ← h1]; exact hb3 _
theorem y81 {p : List (Int × Int)} {f : Int -> Int} (hp : yan p f) (hs : ∀ e, f e ≠ 0 -> -1000 <= e /\ e <= 1000) (hb : ∀ e, -281474976710656 <= f e /\ f e <= 281474976710656) (hd : 0 < p.length -> ybf p - lowE p + 4 <= 64 + 8 * (p.length : Int)) :
  ∃ q, yan q (dml f) /\ Fn Tryz.prog 46 [plA false p, plA false [(-2, -1), (2, -1)]] (plA false q) := by
 by_cases hp0 : 0 < p.length
 ·have hq : yan [(-2, -1), (2, -1)] (cfL [(-2, -1), (2, -1)]) := ⟨dAsc, fun _ => rfl⟩
  refine yn3 hp hq hs (fun e he => ?_) (fun e => by have := hb e; omega) (fun e => ?_) (h := dml f) (fun e => by rw [y3y, show cfL p = f from funext hp.cf]) (fun e => ?_) hp0 (by decide) ?_
  ·simp only [cfL] at he
   by_cases h1 : (-2 : Int) = e
   ·omega
   ·rw [if_neg h1] at he
    by_cases h2 : (2 : Int) = e
    ·omega
    ·rw [if_neg h2] at he; exact absurd rfl he
  ·simp only [cfL]; split <;> split <;> omega
  ·have h1 := hb (e + 2)
   have h2 := hb (e - 2)
   unfold dml; omega
  ·have := hd hp0
   have e1 : ybf [((-2 : Int), (-1 : Int)), (2, -1)] = 2 := rfl
   have e2 : lowE [((-2 : Int), (-1 : Int)), (2, -1)] = -2 := rfl
   rw [e1, e2, show ([((-2 : Int), (-1 : Int)), (2, -1)] : List (Int × Int)).length = 2 from rfl]
   omega
 ·obtain rfl : p = [] := List.length_eq_zero_iff.1 (by omega)
  refine ⟨[], yan.nil.congr fun e => ?_, yuh _⟩
  have h1 := hp.cf (e + 2)
  have h2 := hp.cf (e - 2)
  simp only [cfL] at h1 h2
  unfold dml; rw [← h1, ← h2]; rfl
def ybo (f : Int -> Int) : List (Int × Int) := tmI (-1000) ((List.range 2001).map fun (i : Nat) => f ((i : Int) - 1000))
theorem ye7 {f : Int -> Int} (hs : ∀ e, f e ≠ 0 -> -1000 <= e /\ e <= 1000) : yan (ybo f) f := by
 refine ⟨yjo _ _, fun e => ?_⟩
 unfold ybo
 rw [yg1]
 by_cases h0 : f e = 0
 ·rw [h0]
  split
  ·by_cases h1 : (e - -1000).toNat < 2001
   ·simp only [List.getD_eq_getElem?_getD, List.getElem?_map, List.getElem?_range h1, Option.map_some, Option.getD_some]
    rw [show (((e - -1000).toNat : Nat) : Int) - 1000 = e by omega, h0]
   ·rw [List.getD_eq_getElem?_getD, List.getElem?_eq_none (by simp; omega)]; rfl
  ·rfl
 ·have := hs e h0
  rw [if_pos (by omega)]
  have h1 : (e - -1000).toNat < 2001 := by omega
  simp only [List.getD_eq_getElem?_getD, List.getElem?_map, List.getElem?_range h1, Option.map_some, Option.getD_some]
  rw [show (((e - -1000).toNat : Nat) : Int) - 1000 = e by omega]
theorem yan.eq {p : List (Int × Int)} {f : Int -> Int} (h : yan p f) (hs : ∀ e, f e ≠ 0 -> -1000 <= e /\ e <= 1000) : p = ybo f :=
 AscN.ext h.asc (ye7 hs).asc fun e => by rw [h.cf, (ye7 hs).cf]
def brP (m : List Int) (n L : Nat) : List (Int × Int) := ybo (brT m n L 1)
theorem yj1 {m : List Int} {n L : Nat} (hp : PmOk m n) (hn : n <= 9) (hL : L <= 20) {j : Nat} (hj : 1 <= j) {e : Int} (he : brT m n L j e ≠ 0) : -1000 <= e /\ e <= 1000 := by
 have h1 := yh9 hp he
 have h2 := ydb hp (fun _ => true)
 have h3 := ydb hp (fun _ => false)
 omega
theorem yui {m : List Int} {n L : Nat} (hp : PmOk m n) (hn : n <= 9) (hL : L <= 20) {j : Nat} (hj : 1 <= j) (e : Int) : -70368744177664 <= brT m n L j e /\ brT m n L j e <= 70368744177664 := by
 have h1 := y6h hp (L := L) (j := j) (M := 37) (by omega) e
 have h2 : 2 ^ (37 + n) <= 2 ^ 46 := Nat.pow_le_pow_right (by omega) (by omega)
 omega
end Go.Proofs.YtebdkebfkpbmpaaGreatDoor
