/- Sums by their exponents: what put does to the coefficients. -/
import Derived.Test.YtebdkebfkpbmpaaGreatDoorYa
import Derived.Test.YtebdkebfkpbmpaaGreatDoorXk
import Derived.Test.YtebdkebfkpbmpaaGreatDoorXo
set_option linter.unusedSimpArgs false
set_option linter.unusedVariables false
namespace Go.Proofs.YtebdkebfkpbmpaaGreatDoor
open Go Go.RowKit
def putR (e z : Int) : List (Int × Int) -> List (Int × Int)
 | [] => [(e, z)]
 | t :: S => if t.1 < e then t :: putR e z S else if t.1 = e then (e, t.2 + z) :: S else (e, z) :: t :: S
theorem yz4 (e z : Int) : ∀ S, putS e z S = putR e z S
 | [] => by simp [putS, putR, ltI]
 | t :: S => by
   have ih := yz4 e z S
   by_cases h : t.1 < e
   ·have e1 : ltI e (t :: S) = ltI e S + 1 := if_pos h
    rw [show putR e z (t :: S) = t :: putR e z S from if_pos h, ← ih]
    unfold putS
    rw [e1]
    have e2 : ((t :: S).getD (ltI e S + 1) (0, 0)) = S.getD (ltI e S) (0, 0) := by simp
    rw [e2, List.length_cons]
    by_cases hc : ltI e S < S.length /\ (S.getD (ltI e S) (0, 0)).1 = e
    ·rw [if_pos hc, if_pos ⟨by omega, hc.2⟩, List.set_cons_succ]
    ·rw [if_neg hc, if_neg (fun g => hc ⟨by omega, g.2⟩), List.take_succ_cons, List.drop_succ_cons]; rfl
   ·have e1 : ltI e (t :: S) = 0 := if_neg h
    unfold putS
    rw [e1]
    by_cases he : t.1 = e
    ·rw [if_pos ⟨by simp, he⟩]
     simp [putR, h, he]
    ·rw [if_neg (fun g => he g.2)]
     simp [putR, h, he]
theorem ysd (e z : Int) : ∀ S, (putR e z S).length <= S.length + 1
 | [] => Nat.le_refl _
 | t :: S => by
   have := ysd e z S
   simp only [putR]
   split
   ·simp only [List.length_cons]; omega
   ·split <;> simp only [List.length_cons] <;> omega
theorem yif (e z : Int) : ∀ S x, x ∈ putR e z S -> x ∈ S \/ x = (e, z) \/ ∃ t ∈ S, x = (e, t.2 + z)
 | [], x, h => by simp [putR] at h; exact .inr (.inl h)
 | t :: S, x, h => by
   simp only [putR] at h
   split at h
   ·rcases List.mem_cons.1 h with g | g
    ·exact .inl (g ▸ List.mem_cons_self ..)
    ·rcases yif e z S x g with a | a | ⟨u, hu, a⟩
     ·exact .inl (List.mem_cons_of_mem _ a)
     ·exact .inr (.inl a)
     ·exact .inr (.inr ⟨u, List.mem_cons_of_mem _ hu, a⟩)
   ·split at h
    ·rcases List.mem_cons.1 h with g | g
     ·exact .inr (.inr ⟨t, List.mem_cons_self .., g⟩)
     ·exact .inl (List.mem_cons_of_mem _ g)
    ·rcases List.mem_cons.1 h with g | g
     ·exact .inr (.inl g)
     ·exact .inl g
theorem yse (e z : Int) : ∀ S, S.Pairwise (fun a b => a.1 < b.1) -> (putR e z S).Pairwise fun a b => a.1 < b.1
 | [], _ => by simp [putR]
 | t :: S, h => by
   obtain ⟨h1, h2⟩ := List.pairwise_cons.1 h
   simp only [putR]
   split
   ·rename_i ht
    refine List.pairwise_cons.2 ⟨fun x hx => ?_, yse e z S h2⟩
    rcases yif e z S x hx with a | a | ⟨u, _, a⟩
    ·exact h1 x a
    ·rw [a]; exact ht
    ·rw [a]; exact ht
   ·split
    ·rename_i he
     exact List.pairwise_cons.2 ⟨fun x hx => by have := h1 x hx; show e < x.1; omega, h2⟩
    ·refine List.pairwise_cons.2 ⟨fun x hx => ?_, h⟩
     rcases List.mem_cons.1 hx with g | g
     ·rw [g]; show e < t.1; omega
     ·have := h1 x g; show e < x.1; omega
theorem yu3 (e z x : Int) : ∀ S, cfL (putR e z S) x = cfL S x + if x = e then z else 0
 | [] => by
   simp only [putR, cfL]
   by_cases h : x = e
   ·rw [if_pos h, if_pos h.symm]; all_goals omega
   ·rw [if_neg h, if_neg (fun g => h g.symm)]; all_goals omega
 | t :: S => by
   have := yu3 e z x S
   simp only [putR]
   split
   ·simp only [cfL, this]; omega
   ·split
    ·rename_i he
     simp only [cfL]
     by_cases h : x = e
     ·rw [if_pos h, if_pos h.symm, if_pos (by omega)]; omega
     ·rw [if_neg h, if_neg (fun g => h g.symm), if_neg (by omega)]; omega
    ·simp only [cfL]
     by_cases h : x = e
     ·rw [if_pos h, if_pos h.symm]; omega
     ·rw [if_neg h, if_neg (fun g => h g.symm)]; omega
structure QS (S : List (Int × Int)) (f : Int -> Int) (k : Nat) (B E : Int) : Prop where
 asc : S.Pairwise fun a b => a.1 < b.1
 cf : ∀ x, cfL S x = f x
 len : S.length <= k
 bnd : ∀ t ∈ S, -(k * B) <= t.2 /\ t.2 <= k * B
 ex : ∀ t ∈ S, -E <= t.1 /\ t.1 <= E
theorem QS.nil {B E : Int} : QS [] (fun _ => 0) 0 B E := ⟨.nil, fun _ => rfl, Nat.le_refl _, (fun t h => by cases h), (fun t h => by cases h)⟩
theorem QS.put {S : List (Int × Int)} {f : Int -> Int} {k : Nat} {B E e z : Int} (h : QS S f k B E) (hz : -B <= z /\ z <= B) (he : -E <= e /\ e <= E) : QS (putS e z S) (fun x => f x + if x = e then z else 0) (k + 1) B E := by
 have hB : ((k + 1 : Nat) : Int) * B = k * B + B := by rw [Int.natCast_succ, Int.add_mul, Int.one_mul]
 have hkB : 0 <= (k : Int) * B := Int.mul_nonneg (Int.natCast_nonneg _) (by omega)
 rw [yz4]
 refine ⟨yse e z S h.asc, fun x => by rw [yu3, h.cf], ?_, fun t ht => ?_, fun t ht => ?_⟩
 ·have := ysd e z S; have := h.len; omega
 ·rw [hB]
  rcases yif e z S t ht with a | a | ⟨u, hu, a⟩
  ·have := h.bnd t a; omega
  ·rw [a]; show _ <= z /\ z <= _; omega
  ·have := h.bnd u hu
   rw [a]; show _ <= u.2 + z /\ u.2 + z <= _; omega
 ·rcases yif e z S t ht with a | a | ⟨u, hu, a⟩
  ·exact h.ex t a
  ·rw [a]; exact he
  ·rw [a]; exact he
theorem yz5 (x : Int) : ∀ S, cfL (nzS S) x = cfL S x
 | [] => rfl
 | t :: S => by
   have ih := yz5 x S
   by_cases h : t.2 = 0
   ·have : nzS (t :: S) = nzS S := by simp [nzS, h]
    rw [this, ih]
    simp only [cfL]; split <;> omega
   ·have h' : (t.2 == 0) = false := by simpa using h
    have : nzS (t :: S) = t :: nzS S := by simp [nzS, h']
    rw [this]; simp only [cfL, ih]
theorem QS.poly {S : List (Int × Int)} {f : Int -> Int} {k : Nat} {B E : Int} (h : QS S f k B E) : yan (nzS S) f :=
 ⟨⟨h.asc.sublist List.filter_sublist, fun t ht => by have := (List.mem_filter.1 ht).2; simpa using this⟩, fun x => by rw [yz5, h.cf]⟩
end Go.Proofs.YtebdkebfkpbmpaaGreatDoor
set_option linter.unusedSimpArgs false
set_option linter.unusedVariables false
namespace Go.Proofs.YtebdkebfkpbmpaaGreatDoor
open Go Go.RowKit
set_option maxRecDepth 100000
set_option maxHeartbeats 8000000
def ye8 : List (List Nat) := [[25,26,27,28,29,30,31,32,33,34,35,36,37,38],[24,26,27,28,29,30,31,32,33,34,35,36,37,38],[24,25,28,32,33,34,35,36,37,38],[24,25,28,32,33,34,35,36,37,38],[24,25,26,27,32,33,34,35,36,37,38],[24,25,32,33,34,35,36,37,38],[24,25,32,33,34,35,36,37,38],[24,25,32,33,34,35,36,37,38],[24,25,26,27,28,29,30,31,34],[24,25,26,27,28,29,30,31,34],[24,25,26,27,28,29,30,31,32,33],[24,25,26,27,28,29,30,31],[24,25,26,27,28,29,30,31],[24,25,26,27,28,29,30,31],[24,25,26,27,28,29,30,31],[],[],[41],[40,5],[41],[]]
def yc1 : List (List Nat) := [[],[0],[0,1],[0,1],[0,1,2,3],[0,1],[0,1],[0,1],[0,1,2,3,4,5,6,7],[0,1,2,3,4,5,6,7],[0,1,2,3,4,5,6,7,8,9],[0,1,2,3,4,5,6,7],[0,1,2,3,4,5,6,7],[0,1,2,3,4,5,6,7],[0,1,2,3,4,5,6,7],[],[],[],[17],[18],[]]
def ye9 : List (List Nat) := [[51,52,53,54,55,56,57,58,59,60,61,62,63,64],[50,52,53,54,55,56,57,58,59,60,61,62,63,64],[50,51,54,58,59,60,61,62,63,64],[50,51,54,58,59,60,61,62,63,64],[50,51,52,53,58,59,60,61,62,63,64],[50,51,58,59,60,61,62,63,64],[50,51,58,59,60,61,62,63,64],[50,51,58,59,60,61,62,63,64],[50,51,52,53,54,55,56,57,60],[50,51,52,53,54,55,56,57,60],[50,51,52,53,54,55,56,57,58,59],[50,51,52,53,54,55,56,57],[50,51,52,53,54,55,56,57],[50,51,52,53,54,55,56,57],[50,51,52,53,54,55,56,57],[],[],[67],[66,5],[67],[]]
theorem QS.congr {S : List (Int × Int)} {f g : Int -> Int} {k : Nat} {B E : Int} (h : QS S f k B E) (e : ∀ x, f x = g x) : QS S g k B E := ⟨h.asc, fun x => (h.cf x).trans (e x), h.len, h.bnd, h.ex⟩
theorem yja {p : List (Int × Int)} {i : Nat} (h : i < p.length) : p.take (i + 1) = p.take i ++ [p.getD i (0, 0)] := by
 rw [List.take_add_one, List.getD_eq_getElem?_getD, List.getElem?_eq_getElem h]; rfl
theorem QS.ok {S : List (Int × Int)} {f : Int -> Int} {k : Nat} {B E : Int} (h : QS S f k B E) (hk : k <= 100000) (hB : 0 <= B /\ B <= 1208925819614629174706176) : S.length <= 100000 /\ ∀ t ∈ S, -2596148429267413814265248164610048 <= t.2 /\ t.2 <= 2596148429267413814265248164610048 := by
 refine ⟨Nat.le_trans h.len hk, fun t ht => ?_⟩
 have h1 := h.bnd t ht
 have h2 : (k : Int) * B <= 100000 * 1208925819614629174706176 := Int.mul_le_mul (by omega) hB.2 hB.1 (by omega)
 omega
theorem QS.col {S : List (Int × Int)} {f : Int -> Int} {k : Nat} {B : Int} (h : QS S f k B 1048576) (hk : k <= 100000) (hf : ∀ x, -1125899906842624 <= f x /\ f x <= 1125899906842624) : Fn Tryz.prog 110 [qeA S, qsA S] (rpA (nzS S)) :=
 ywg S (Nat.le_trans h.len hk) (fun t ht => by rw [← y2u h.asc ht, h.cf]; exact hf _) h.ex
def foS (S p : List (Int × Int)) : List (Int × Int) := p.foldl (fun S t => putS t.1 t.2 S) S
theorem ysf {p : List (Int × Int)} {i : Nat} (h : i < p.length) (S : List (Int × Int)) : foS S (p.take (i + 1)) = putS (p.getD i (0, 0)).1 (p.getD i (0, 0)).2 (foS S (p.take i)) := by
 rw [yja h, foS, List.foldl_append]; rfl
theorem yjb {B E : Int} : ∀ (p : List (Int × Int)) {S : List (Int × Int)} {f : Int -> Int} {k : Nat}, QS S f k B E -> (∀ t ∈ p, -B <= t.2 /\ t.2 <= B) -> (∀ t ∈ p, -E <= t.1 /\ t.1 <= E) -> QS (foS S p) (fun x => f x + cfL p x) (k + p.length) B E
 | [], S, f, k, h, _, _ => h.congr fun x => by simp only [cfL]; omega
 | t :: p, S, f, k, h, hB, hE => by
   have h1 := yjb p (h.put (hB t (List.mem_cons_self ..)) (hE t (List.mem_cons_self ..))) (fun u hu => hB u (List.mem_cons_of_mem _ hu)) (fun u hu => hE u (List.mem_cons_of_mem _ hu))
   have e : k + (t :: p).length = k + 1 + p.length := by rw [List.length_cons]; omega
   rw [e]
   refine QS.congr h1 fun x => ?_
   simp only [cfL]
   by_cases hx : x = t.1
   ·rw [if_pos hx, if_pos hx.symm]; omega
   ·rw [if_neg hx, if_neg fun g => hx g.symm]; omega
def foM (S : List (Int × Int)) (t : Int × Int) (q : List (Int × Int)) : List (Int × Int) := q.foldl (fun S u => putS (t.1 + u.1) (t.2 * u.2) S) S
def foA (S p q : List (Int × Int)) : List (Int × Int) := p.foldl (fun S t => foM S t q) S
theorem y3f {q : List (Int × Int)} {i : Nat} (h : i < q.length) (S : List (Int × Int)) (t : Int × Int) : foM S t (q.take (i + 1)) = putS (t.1 + (q.getD i (0, 0)).1) (t.2 * (q.getD i (0, 0)).2) (foM S t (q.take i)) := by
 rw [yja h, foM, List.foldl_append]; rfl
theorem y3g {p : List (Int × Int)} {i : Nat} (h : i < p.length) (S q : List (Int × Int)) : foA S (p.take (i + 1)) q = foM (foA S (p.take i) q) (p.getD i (0, 0)) q := by
 rw [yja h, foA, List.foldl_append]; rfl
theorem ysg {B E : Int} (t : Int × Int) : ∀ (q : List (Int × Int)) {S : List (Int × Int)} {f : Int -> Int} {k : Nat}, QS S f k B E -> (∀ u ∈ q, -B <= t.2 * u.2 /\ t.2 * u.2 <= B) -> (∀ u ∈ q, -E <= t.1 + u.1 /\ t.1 + u.1 <= E) -> QS (foM S t q) (fun x => f x + t.2 * cfL q (x - t.1)) (k + q.length) B E
 | [], S, f, k, h, _, _ => h.congr fun x => by simp only [cfL, Int.mul_zero]; omega
 | u :: q, S, f, k, h, hB, hE => by
   have h1 := ysg t q (h.put (hB u (List.mem_cons_self ..)) (hE u (List.mem_cons_self ..))) (fun v hv => hB v (List.mem_cons_of_mem _ hv)) (fun v hv => hE v (List.mem_cons_of_mem _ hv))
   have e : k + (u :: q).length = k + 1 + q.length := by rw [List.length_cons]; omega
   rw [e]
   refine QS.congr h1 fun x => ?_
   simp only [cfL, Int.mul_add]
   by_cases hx : x = t.1 + u.1
   ·rw [if_pos hx, if_pos (by omega)]; omega
   ·rw [if_neg hx, if_neg (by omega)]; omega
theorem ysh {B E : Int} (q : List (Int × Int)) : ∀ (p : List (Int × Int)) {S : List (Int × Int)} {f : Int -> Int} {k : Nat}, QS S f k B E -> (∀ t ∈ p, ∀ u ∈ q, -B <= t.2 * u.2 /\ t.2 * u.2 <= B) -> (∀ t ∈ p, ∀ u ∈ q, -E <= t.1 + u.1 /\ t.1 + u.1 <= E) -> QS (foA S p q) (fun x => f x + cvL p (cfL q) x) (k + p.length * q.length) B E
 | [], S, f, k, h, _, _ => by
   rw [show k + [].length * q.length = k by simp]
   exact h.congr fun x => by simp only [cvL]; omega
 | t :: p, S, f, k, h, hB, hE => by
   have h1 := ysh q p (ysg t q h (hB t (List.mem_cons_self ..)) (hE t (List.mem_cons_self ..))) (fun v hv => hB v (List.mem_cons_of_mem _ hv)) (fun v hv => hE v (List.mem_cons_of_mem _ hv))
   have e : k + (t :: p).length * q.length = k + q.length + p.length * q.length := by rw [List.length_cons, Nat.succ_mul]; omega
   rw [e]
   refine QS.congr h1 fun x => ?_
   simp only [cvL]; omega
theorem yde {p : List (Int × Int)} {i : Nat} {t : Int × Int} (h : t ∈ p.take i) : t ∈ p := List.mem_of_mem_take h
theorem y7l {p q : List (Int × Int)} {f g : Int -> Int} (hp : yan p f) (hq : yan q g) (hs : ∀ e, f e ≠ 0 -> -1000 <= e /\ e <= 1000) (ht : ∀ e, g e ≠ 0 -> -1000 <= e /\ e <= 1000)
  (hf : ∀ e, -562949953421312 <= f e /\ f e <= 562949953421312) (hg : ∀ e, -562949953421312 <= g e /\ g e <= 562949953421312) :
  ∃ r, yan r (fun e => f e + g e) /\ Fn Tryz.prog 60 [rpA p, rpA q] (rpA r) := by
 have lp := hp.len hs
 have lq := hq.len ht
 have bp : ∀ t ∈ p, -562949953421312 <= t.2 /\ t.2 <= 562949953421312 := fun t h => by rw [(hp.mem h).1]; exact hf _
 have bq : ∀ t ∈ q, -562949953421312 <= t.2 /\ t.2 <= 562949953421312 := fun t h => by rw [(hq.mem h).1]; exact hg _
 have ep : ∀ t ∈ p, -1048576 <= t.1 /\ t.1 <= 1048576 := fun t h => by have := hs _ (hp.mem h).2; omega
 have eq : ∀ t ∈ q, -1048576 <= t.1 /\ t.1 <= 1048576 := fun t h => by have := ht _ (hq.mem h).2; omega
 have s1 : ∀ i, QS (foS [] (p.take i)) _ _ 562949953421312 1048576 := fun i => yjb (p.take i) QS.nil (fun t h => bp t (yde h)) (fun t h => ep t (yde h))
 have s1' := yjb p QS.nil bp ep
 have s2 : ∀ i, QS (foS (foS [] p) (q.take i)) _ _ 562949953421312 1048576 := fun i => yjb (q.take i) s1' (fun t h => bq t (yde h)) (fun t h => eq t (yde h))
 have s2' := yjb q s1' bq eq
 have hfin : QS (foS (foS [] p) q) (fun e => f e + g e) _ _ _ := s2'.congr fun x => by rw [hp.cf, hq.cf]; omega
 refine ⟨nzS (foS (foS [] p) q), hfin.poly, ?_⟩
 have hC := hfin.col (by omega) (fun x => by have := hf x; have := hg x; omega)
 refine Fn.introL [.cell 4 38] Tryz.func60 rfl rfl (by decide) (by simp [Tryz.ntmps60]) ?_; rw [Tryz.ntmps60]
 repeat' (first | omega | ((try apply yaa); simp only [go_sem, sevalprocAttr]) | (apply yad <;> (intro h_; (try simp only [h_]); revert h_)) | apply yac | apply yab | apply gspI | apply And.intro | with_reducible intro h_ | trivial | (simp only [go_sem, la2]; omega))
 refine yah.intro (fun n fr H => ∃ i : Nat, i <= p.length /\ n = p.length - i /\ fr = [(7, I i), (6, qsA (foS [] (p.take i))), (5, qeA (foS [] (p.take i))), (4, .ptr 2 0), (3, .ptr 1 0), (2, .ptr 0 0)] /\ H = [(2, .cells 38 (.lst [.nils, .bool false])), (1, .cells 38 (.lst [tmA q, .bool false])), (0, .cells 38 (.lst [tmA p, .bool false]))]) ?_ ?_
 ·refine ⟨_, _, _, ?_, 0, by omega, rfl, rfl, rfl⟩
  refine Wk.trans (Wk.sub (fr' := [(7, I 0), (6, .nils), (5, .nils), (4, .ptr 2 0), (3, .ptr 1 0), (2, .ptr 0 0)]) ?_ ?_) (Wk.le (.cons (LeA.refl _) (.cons (LeA.nils (by decide) rfl) (.cons (LeA.nils (by decide) rfl) (LeFr.refl _))))) <;> (simp only [go_sem, sevalprocAttr, yaj])
 rintro n fr H ⟨i, hi, rfl, rfl, rfl⟩
 by_cases hil : i < p.length
 ·have bi : decide ((i : Int) < p.length) = true := by simp; omega
  have g0 := ycf p i hil
  have g1 := ydc p i hil
  have hm := ybg hil
  have hlen := ybh p
  have hP := ygp (p.getD i (0, 0)).2 1 (by have := bp _ hm; omega) (by decide)
  rw [Int.mul_one] at hP
  have hpt := ysc (foS [] (p.take i)) (p.getD i (0, 0)).1 (p.getD i (0, 0)).2 ((s1 i).ok (by rw [List.length_take]; omega) (by decide)).1 (by have := bp _ hm; omega) ((s1 i).ok (by rw [List.length_take]; omega) (by decide)).2
  rw [← ysf hil] at hpt
  repeat' (first | omega | ((first | apply yaa | (refine yae.intro (id := 8) ye8 yc1 (by decide +kernel) mixed ?_) | (refine yae.intro (id := 12) ye9 yc1 (by decide +kernel) mixed ?_) | skip); simp only [go_sem, sevalprocAttr, bi, g0, g1, hlen, ↓reduceIte, reduceCtorEq, ye8, yc1, ye9]) | (apply yad <;> (intro h_; (try simp only [h_]); revert h_)) | apply yac | apply yab | apply gspI | apply And.intro | with_reducible intro h_ | trivial | (simp only [go_sem, la2]; omega))
  refine ⟨yau.fn rfl hP ?_⟩
  simp only [go_sem, sevalprocAttr, bi, g0, g1, hlen, ya8, yaj]
  refine ⟨yau.fn rfl hpt ?_⟩
  simp only [go_sem, sevalprocAttr, bi, g0, g1, hlen, ya8, yaj]
  repeat' (first | omega | ((first | apply yaa | (refine yae.intro (id := 8) ye8 yc1 (by decide +kernel) mixed ?_) | (refine yae.intro (id := 12) ye9 yc1 (by decide +kernel) mixed ?_) | skip); simp only [go_sem, sevalprocAttr, bi, g0, g1, hlen, ↓reduceIte, reduceCtorEq, ye8, yc1, ye9]) | (apply yad <;> (intro h_; (try simp only [h_]); revert h_)) | apply yac | apply yab | apply gspI | apply And.intro | with_reducible intro h_ | trivial | (simp only [go_sem, la2]; omega))
  refine ⟨_, _, _, ?_, ?_, ⟨i + 1, by omega, rfl, rfl, rfl⟩⟩
  ·omega
  ·refine Wk.sub ?_ ?_ <;> (simp only [go_sem, sevalprocAttr, yaj, ya8])
 obtain rfl : i = p.length := by omega
 have bi : decide ((p.length : Int) < p.length) = false := by simp
 rw [List.take_length]
 repeat' (first | omega | ((try apply yaa); simp only [go_sem, sevalprocAttr, bi]) | (apply yad <;> (intro h_; (try simp only [h_]); revert h_)) | apply yac | apply yab | apply gspI | apply And.intro | with_reducible intro h_ | trivial | (simp only [go_sem, la2]; omega))
 refine yah.intro (fun n fr H => ∃ i : Nat, i <= q.length /\ n = q.length - i /\ fr = [(8, I i), (6, qsA (foS (foS [] p) (q.take i))), (5, qeA (foS (foS [] p) (q.take i))), (4, .ptr 2 0), (3, .ptr 1 0), (2, .ptr 0 0)] /\ H = [(2, .cells 38 (.lst [.nils, .bool false])), (1, .cells 38 (.lst [tmA q, .bool false])), (0, .cells 38 (.lst [tmA p, .bool false]))]) ?_ ?_
 ·refine ⟨_, _, _, ?_, 0, by omega, rfl, rfl, rfl⟩
  have e0 : foS (foS [] p) (q.take 0) = foS [] p := rfl
  rw [e0]
  refine Wk.sub ?_ ?_ <;> (simp only [go_sem, sevalprocAttr, yaj, ya8])
 clear hi bi hil
 rintro n fr H ⟨i, hi, rfl, rfl, rfl⟩
 by_cases hil : i < q.length
 ·have bi : decide ((i : Int) < q.length) = true := by simp; omega
  have g0 := ycf q i hil
  have g1 := ydc q i hil
  have hm := ybg hil
  have hlen := ybh q
  have hP := ygp (q.getD i (0, 0)).2 1 (by have := bq _ hm; omega) (by decide)
  rw [Int.mul_one] at hP
  have hpt := ysc (foS (foS [] p) (q.take i)) (q.getD i (0, 0)).1 (q.getD i (0, 0)).2 ((s2 i).ok (by rw [List.length_take]; omega) (by decide)).1 (by have := bq _ hm; omega) ((s2 i).ok (by rw [List.length_take]; omega) (by decide)).2
  rw [← ysf hil] at hpt
  repeat' (first | omega | ((first | apply yaa | (refine yae.intro (id := 8) ye8 yc1 (by decide +kernel) mixed ?_) | (refine yae.intro (id := 12) ye9 yc1 (by decide +kernel) mixed ?_) | skip); simp only [go_sem, sevalprocAttr, bi, g0, g1, hlen, ↓reduceIte, reduceCtorEq, ye8, yc1, ye9]) | (apply yad <;> (intro h_; (try simp only [h_]); revert h_)) | apply yac | apply yab | apply gspI | apply And.intro | with_reducible intro h_ | trivial | (simp only [go_sem, la2]; omega))
  refine ⟨yau.fn rfl hP ?_⟩
  simp only [go_sem, sevalprocAttr, bi, g0, g1, hlen, ya8, yaj]
  refine ⟨yau.fn rfl hpt ?_⟩
  simp only [go_sem, sevalprocAttr, bi, g0, g1, hlen, ya8, yaj]
  repeat' (first | omega | ((first | apply yaa | (refine yae.intro (id := 8) ye8 yc1 (by decide +kernel) mixed ?_) | (refine yae.intro (id := 12) ye9 yc1 (by decide +kernel) mixed ?_) | skip); simp only [go_sem, sevalprocAttr, bi, g0, g1, hlen, ↓reduceIte, reduceCtorEq, ye8, yc1, ye9]) | (apply yad <;> (intro h_; (try simp only [h_]); revert h_)) | apply yac | apply yab | apply gspI | apply And.intro | with_reducible intro h_ | trivial | (simp only [go_sem, la2]; omega))
  refine ⟨_, _, _, ?_, ?_, ⟨i + 1, by omega, rfl, rfl, rfl⟩⟩
  ·omega
  ·refine Wk.sub ?_ ?_ <;> (simp only [go_sem, sevalprocAttr, yaj, ya8])
 ·obtain rfl : i = q.length := by omega
  have bi : decide ((q.length : Int) < q.length) = false := by simp
  rw [List.take_length]
  repeat' (first | omega | ((try apply yaa); simp only [go_sem, sevalprocAttr, bi]) | (apply yad <;> (intro h_; (try simp only [h_]); revert h_)) | apply yac | apply yab | apply gspI | apply And.intro | with_reducible intro h_ | trivial | (simp only [go_sem, la2]; omega))
  refine ⟨yaf.fn rfl hC ?_⟩
  repeat' (first | omega | ((try apply yaa); simp only [go_sem, sevalprocAttr]) | (apply yad <;> (intro h_; (try simp only [h_]); revert h_)) | apply yac | apply yab | apply gspI | apply And.intro | with_reducible intro h_ | trivial | (simp only [go_sem, la2]; omega))
  all_goals exact LeA.refl _
end Go.Proofs.YtebdkebfkpbmpaaGreatDoor
set_option linter.unusedSimpArgs false
set_option linter.unusedVariables false
namespace Go.Proofs.YtebdkebfkpbmpaaGreatDoor
open Go Go.RowKit
set_option maxRecDepth 100000
set_option maxHeartbeats 8000000
def yfa : List (List Nat) := [[32,33,34,35,36,37,38,39,40,41,42,43,44,45,46,47,48,49,50,51,52,53,54,55,56,57,58],[31,33,34,35,36,37,38,39,40,41,42,43,44,45,46,47,48,49,50,51,52,53,54,55,56,57,58],[31,32,35,39,40,41,42,43,44,46,47,48,49,50,51,52,53,54,55,56,57,58],[31,32,35,39,40,41,42,43,44,46,47,48,49,50,51,52,53,54,55,56,57,58],[31,32,33,34,39,40,41,42,43,44,46,47,48,49,50,51,52,53,54,55,56,57,58],[31,32,39,40,41,42,43,44,46,47,48,49,50,51,52,53,54,55,56,57,58],[31,32,39,40,41,42,43,44,46,47,48,49,50,51,52,53,54,55,56,57,58],[31,32,39,40,41,42,43,44,46,47,48,49,50,51,52,53,54,55,56,57,58],[31,32,33,34,35,36,37,38,41,46,47,48,49,50,51,52,53,54,55,56,57,58],[31,32,33,34,35,36,37,38,41,46,47,48,49,50,51,52,53,54,55,56,57,58],[31,32,33,34,35,36,37,38,39,40,46,47,48,49,50,51,52,53,54,55,56,57,58],[31,32,33,34,35,36,37,38,46,47,48,49,50,51,52,53,54,55,56,57,58],[31,32,33,34,35,36,37,38,46,47,48,49,50,51,52,53,54,55,56,57,58],[31,32,33,34,35,36,37,38,46,47,48,49,50,51,52,53,54,55,56,57,58],[31,32,46,47,48,49,50,51,52,53,54,55,56,57,58],[31,32,33,34,35,36,37,38,39,40,41,42,43,44,45,48,52,53,54,55,56,57],[31,32,33,34,35,36,37,38,39,40,41,42,43,44,45,48,52,53,54,55,56,57],[31,32,33,34,35,36,37,38,39,40,41,42,43,44,45,46,47,52,53,54,55,56,57],[31,32,33,34,35,36,37,38,39,40,41,42,43,44,45,52,53,54,55,56,57],[31,32,33,34,35,36,37,38,39,40,41,42,43,44,45,52,53,54,55,56,57],[31,32,33,34,35,36,37,38,39,40,41,42,43,44,45,52,53,54,55,56,57],[31,32,33,34,35,36,37,38,39,40,41,42,43,44,45,46,47,48,49,50,51,54],[31,32,33,34,35,36,37,38,39,40,41,42,43,44,45,46,47,48,49,50,51,54],[31,32,33,34,35,36,37,38,39,40,41,42,43,44,45,46,47,48,49,50,51,52,53],[31,32,33,34,35,36,37,38,39,40,41,42,43,44,45,46,47,48,49,50,51],[31,32,33,34,35,36,37,38,39,40,41,42,43,44,45,46,47,48,49,50,51],[31,32,33,34,35,36,37,38,39,40,41,42,43,44,45,46,47,48,49,50,51],[31,32,33,34,35,36,37,38,39,40,41,42,43,44,45],[],[],[61],[60,5],[61],[]]
def yfb : List (List Nat) := [[],[0],[0,1],[0,1],[0,1,2,3],[0,1],[0,1],[0,1],[0,1,2,3,4,5,6,7],[0,1,2,3,4,5,6,7],[0,1,2,3,4,5,6,7,8,9],[0,1,2,3,4,5,6,7],[0,1,2,3,4,5,6,7],[0,1,2,3,4,5,6,7],[0,1],[0,1,2,3,4,5,6,7,8,9,10,11,12,13,14],[0,1,2,3,4,5,6,7,8,9,10,11,12,13,14],[0,1,2,3,4,5,6,7,8,9,10,11,12,13,14,15,16],[0,1,2,3,4,5,6,7,8,9,10,11,12,13,14],[0,1,2,3,4,5,6,7,8,9,10,11,12,13,14],[0,1,2,3,4,5,6,7,8,9,10,11,12,13,14],[0,1,2,3,4,5,6,7,8,9,10,11,12,13,14,15,16,17,18,19,20],[0,1,2,3,4,5,6,7,8,9,10,11,12,13,14,15,16,17,18,19,20],[0,1,2,3,4,5,6,7,8,9,10,11,12,13,14,15,16,17,18,19,20,21,22],[0,1,2,3,4,5,6,7,8,9,10,11,12,13,14,15,16,17,18,19,20],[0,1,2,3,4,5,6,7,8,9,10,11,12,13,14,15,16,17,18,19,20],[0,1,2,3,4,5,6,7,8,9,10,11,12,13,14,15,16,17,18,19,20],[0,1,2,3,4,5,6,7,8,9,10,11,12,13,14],[],[],[],[30],[31],[]]
theorem y3h {a b A B : Int} (ha : -A <= a /\ a <= A) (hb : -B <= b /\ b <= B) : -(A * B) <= a * b /\ a * b <= A * B := by
 have h : (a * b).natAbs <= A.natAbs * B.natAbs := by rw [Int.natAbs_mul]; exact Nat.mul_le_mul (by omega) (by omega)
 have h2 : ((A.natAbs * B.natAbs : Nat) : Int) = A * B := by rw [Int.natCast_mul, Int.natAbs_of_nonneg (by omega), Int.natAbs_of_nonneg (by omega)]
 omega
theorem yu4 {p q : List (Int × Int)} {f g h : Int -> Int} (hp : yan p f) (hq : yan q g) (hs : ∀ e, f e ≠ 0 -> -1000 <= e /\ e <= 1000) (ht : ∀ e, g e ≠ 0 -> -1000 <= e /\ e <= 1000)
  (hf : ∀ e, -1099511627776 <= f e /\ f e <= 1099511627776) (hg : ∀ e, -1099511627776 <= g e /\ g e <= 1099511627776) (hh : ∀ e, cvL p g e = h e) (hb : ∀ e, -1125899906842624 <= h e /\ h e <= 1125899906842624) (hl : p.length * q.length <= 100000) :
  ∃ r, yan r h /\ Fn Tryz.prog 61 [rpA p, rpA q] (rpA r) := by
 have lp := hp.len hs
 have lq := hq.len ht
 have bp : ∀ t ∈ p, -1099511627776 <= t.2 /\ t.2 <= 1099511627776 := fun t h => by rw [(hp.mem h).1]; exact hf _
 have bq : ∀ t ∈ q, -1099511627776 <= t.2 /\ t.2 <= 1099511627776 := fun t h => by rw [(hq.mem h).1]; exact hg _
 have ep : ∀ t ∈ p, -1000 <= t.1 /\ t.1 <= 1000 := fun t h => hs _ (hp.mem h).2
 have eq : ∀ t ∈ q, -1000 <= t.1 /\ t.1 <= 1000 := fun t h => ht _ (hq.mem h).2
 have bz : ∀ t ∈ p, ∀ u ∈ q, -1208925819614629174706176 <= t.2 * u.2 /\ t.2 * u.2 <= 1208925819614629174706176 := fun t h1 u h2 => y3h (A := 1099511627776) (B := 1099511627776) (bp t h1) (bq u h2)
 have ez : ∀ t ∈ p, ∀ u ∈ q, -1048576 <= t.1 + u.1 /\ t.1 + u.1 <= 1048576 := fun t h1 u h2 => by have := ep t h1; have := eq u h2; omega
 have s1 : ∀ i, QS (foA [] (p.take i) q) _ _ 1208925819614629174706176 1048576 := fun i => ysh q (p.take i) QS.nil (fun t h => bz t (yde h)) (fun t h => ez t (yde h))
 have s1' := ysh q p QS.nil bz ez
 have s2 : ∀ i k, ∀ t ∈ p, QS (foM (foA [] (p.take i) q) t (q.take k)) _ _ 1208925819614629174706176 1048576 := fun i k t ht => ysg t (q.take k) (s1 i) (fun u h => bz t ht u (yde h)) (fun u h => ez t ht u (yde h))
 have hgq : cfL q = g := funext hq.cf
 have hfin : QS (foA [] p q) h _ _ _ := s1'.congr fun x => by rw [hgq, hh]; omega
 refine ⟨nzS (foA [] p q), hfin.poly, ?_⟩
 have hC := hfin.col (by omega) hb
 refine Fn.introL [.cell 4 38] Tryz.func61 rfl rfl (by decide) (by simp [Tryz.ntmps61]) ?_; rw [Tryz.ntmps61]
 repeat' (first | omega | ((try apply yaa); simp only [go_sem, sevalprocAttr]) | (apply yad <;> (intro h_; (try simp only [h_]); revert h_)) | apply yac | apply yab | apply gspI | apply And.intro | with_reducible intro h_ | trivial | (simp only [go_sem, la2]; omega))
 refine yah.intro (fun n fr H => ∃ i : Nat, i <= p.length /\ n = p.length - i /\ fr = [(7, I i), (6, qsA (foA [] (p.take i) q)), (5, qeA (foA [] (p.take i) q)), (4, .ptr 2 0), (3, .ptr 1 0), (2, .ptr 0 0)] /\ H = [(2, .cells 38 (.lst [.nils, .bool false])), (1, .cells 38 (.lst [tmA q, .bool false])), (0, .cells 38 (.lst [tmA p, .bool false]))]) ?_ ?_
 ·refine ⟨_, _, _, ?_, 0, by omega, rfl, rfl, rfl⟩
  refine Wk.trans (Wk.sub (fr' := [(7, I 0), (6, .nils), (5, .nils), (4, .ptr 2 0), (3, .ptr 1 0), (2, .ptr 0 0)]) ?_ ?_) (Wk.le (.cons (LeA.refl _) (.cons (LeA.nils (by decide) rfl) (.cons (LeA.nils (by decide) rfl) (LeFr.refl _))))) <;> (simp only [go_sem, sevalprocAttr, yaj])
 rintro n fr H ⟨i, hi, rfl, rfl, rfl⟩
 by_cases hil : i < p.length
 ·have bi : decide ((i : Int) < p.length) = true := by simp; omega
  have g0 := ycf p i hil
  have g1 := ydc p i hil
  have hm := ybg hil
  have hlenp := ybh p
  have hT := y3g hil [] q
  have hsi := s2 i
  generalize p.getD i (0, 0) = t at *
  obtain ⟨te, tz⟩ := t
  have bt := bp _ hm
  have et := ep _ hm
  simp only at bt et
  repeat' (first | omega | ((first | apply yaa | (refine yae.intro (id := 11) yfa yfb (by decide +kernel) mixed ?_) | skip); simp only [go_sem, sevalprocAttr, bi, hlenp, ↓reduceIte, reduceCtorEq, yfa, yfb]) | (apply yad <;> (intro h_; (try simp only [h_]); revert h_)) | apply yac | apply yab | apply gspI | apply And.intro | with_reducible intro h_ | trivial | (simp only [go_sem, la2]; omega))
  refine yah.intro (fun n fr H => ∃ k : Nat, k <= q.length /\ n = q.length - k /\ fr = [(8, I k), (7, I i), (6, qsA (foM (foA [] (p.take i) q) (te, tz) (q.take k))), (5, qeA (foM (foA [] (p.take i) q) (te, tz) (q.take k))), (4, .ptr 2 0), (3, .ptr 1 0), (2, .ptr 0 0)] /\ H = [(2, .cells 38 (.lst [.nils, .bool false])), (1, .cells 38 (.lst [tmA q, .bool false])), (0, .cells 38 (.lst [tmA p, .bool false]))]) ?_ ?_
  ·refine ⟨_, _, _, ?_, 0, by omega, rfl, rfl, rfl⟩
   have e0 : foM (foA [] (p.take i) q) (te, tz) (q.take 0) = foA [] (p.take i) q := rfl
   rw [e0]
   refine Wk.sub ?_ ?_ <;> (simp only [go_sem, sevalprocAttr, yaj, ya8])
  rintro n fr H ⟨k, hk, rfl, rfl, rfl⟩
  by_cases hkl : k < q.length
  ·have bk : decide ((k : Int) < q.length) = true := by simp; omega
   have k0 := ycf q k hkl
   have k1 := ydc q k hkl
   have km := ybg hkl
   have hlenq := ybh q
   have hTk := y3f hkl (foA [] (p.take i) q) (te, tz)
   have hsk := hsi k _ hm
   have hpq := bz _ hm _ km
   have hq2 := bq _ km
   generalize q.getD k (0, 0) = u at *
   obtain ⟨ue, uz⟩ := u
   have eu := eq _ km
   simp only at eu hq2 hpq hTk
   have hcnt : (p.take i).length * q.length + (q.take k).length <= 100000 := by
    have a1 : (p.take i).length = i := by rw [List.length_take]; omega
    have a2 : (q.take k).length = k := by rw [List.length_take]; omega
    have a3 : (i + 1) * q.length <= p.length * q.length := Nat.mul_le_mul_right _ hil
    rw [Nat.succ_mul] at a3
    rw [a1, a2]; omega
   have hok := hsk.ok (by omega) (by decide)
   have hP := ygp tz uz (by omega) (by omega)
   have hpt := ysc (foM (foA [] (p.take i) q) (te, tz) (q.take k)) (te + ue) (tz * uz) hok.1 (by omega) hok.2
   rw [← hTk] at hpt
   repeat' (first | omega | ((first | apply yaa | (refine yae.intro (id := 11) yfa yfb (by decide +kernel) mixed ?_) | skip); simp only [go_sem, sevalprocAttr, bi, bk, g0, g1, k0, k1, hlenp, hlenq, ↓reduceIte, reduceCtorEq, yfa, yfb]) | (apply yad <;> (intro h_; (try simp only [h_]); revert h_)) | apply yac | apply yab | apply gspI | apply And.intro | with_reducible intro h_ | trivial | (simp only [go_sem, la2]; omega))
   all_goals first | omega | skip
   refine ⟨yau.fn rfl hP ?_⟩
   simp only [go_sem, sevalprocAttr, bi, bk, g0, g1, k0, k1, hlenp, hlenq, ya8, yaj]
   refine ⟨yau.fn rfl hpt ?_⟩
   simp only [go_sem, sevalprocAttr, bi, bk, g0, g1, k0, k1, hlenp, hlenq, ya8, yaj]
   repeat' (first | omega | ((first | apply yaa | (refine yae.intro (id := 11) yfa yfb (by decide +kernel) mixed ?_) | skip); simp only [go_sem, sevalprocAttr, bi, bk, g0, g1, k0, k1, hlenp, hlenq, ↓reduceIte, reduceCtorEq, yfa, yfb]) | (apply yad <;> (intro h_; (try simp only [h_]); revert h_)) | apply yac | apply yab | apply gspI | apply And.intro | with_reducible intro h_ | trivial | (simp only [go_sem, la2]; omega))
   refine ⟨_, _, _, ?_, ?_, ⟨k + 1, by omega, rfl, rfl, rfl⟩⟩
   ·omega
   ·refine Wk.sub ?_ ?_ <;> (simp only [go_sem, sevalprocAttr, yaj, ya8])
  ·obtain rfl : k = q.length := by omega
   have bk : decide ((q.length : Int) < q.length) = false := by simp
   rw [List.take_length, ← hT]
   repeat' (first | omega | ((try apply yaa); simp only [go_sem, sevalprocAttr, bk]) | (apply yad <;> (intro h_; (try simp only [h_]); revert h_)) | apply yac | apply yab | apply gspI | apply And.intro | with_reducible intro h_ | trivial | (simp only [go_sem, la2]; omega))
   refine ⟨_, _, _, ?_, ?_, ⟨i + 1, by omega, rfl, rfl, rfl⟩⟩
   ·omega
   ·refine Wk.sub ?_ ?_ <;> (simp only [go_sem, sevalprocAttr, yaj, ya8])
 ·obtain rfl : i = p.length := by omega
  have bi : decide ((p.length : Int) < p.length) = false := by simp
  rw [List.take_length]
  repeat' (first | omega | ((first | apply yaa | (refine yae.intro (id := 11) yfa yfb (by decide +kernel) mixed ?_) | skip); simp only [go_sem, sevalprocAttr, bi, ↓reduceIte, reduceCtorEq, yfa, yfb]) | (apply yad <;> (intro h_; (try simp only [h_]); revert h_)) | apply yac | apply yab | apply gspI | apply And.intro | with_reducible intro h_ | trivial | (simp only [go_sem, la2]; omega))
  refine ⟨yaf.fn rfl hC ?_⟩
  repeat' (first | omega | ((try apply yaa); simp only [go_sem, sevalprocAttr]) | (apply yad <;> (intro h_; (try simp only [h_]); revert h_)) | apply yac | apply yab | apply gspI | apply And.intro | with_reducible intro h_ | trivial | (simp only [go_sem, la2]; omega))
  all_goals exact LeA.refl _
end Go.Proofs.YtebdkebfkpbmpaaGreatDoor
