/- Layer 19, plain: terms, and the polynomial by as many steps as are granted. -/
import Derived.Test.YtebdkebfkpbmpaaGreatDoorPl
set_option linter.unusedSimpArgs false
set_option linter.unusedVariables false
namespace Go.Proofs.YtebdkebfkpbmpaaGreatDoor
def fitB (v l : Int) : Bool := decide (-l <= v) && decide (v <= l)
def yms (p : List (Int × Int)) : Prop := ∀ t ∈ p, -1125899906842624 <= t.2 /\ t.2 <= 1125899906842624
def nz (l : List (Int × Int)) : List (Int × Int) := l.filter fun t => t.2 != 0
def pz2 (q : List (Int × Int)) (low e c : Int) : Nat -> List Int -> List Int
 | 0, zs => zs
 | j + 1, zs => (pz2 q low e c j zs).set (e + (q.getD j (0, 0)).1 - low).toNat ((pz2 q low e c j zs).getD (e + (q.getD j (0, 0)).1 - low).toNat 0 + c * (q.getD j (0, 0)).2)
def pz1 (p q : List (Int × Int)) (low : Int) : Nat -> List Int -> List Int
 | 0, zs => zs
 | i + 1, zs => pz2 q low (p.getD i (0, 0)).1 (p.getD i (0, 0)).2 q.length (pz1 p q low i zs)
theorem yjn (q : List (Int × Int)) (low e c : Int) : ∀ j zs, (pz2 q low e c j zs).length = zs.length
 | 0, zs => rfl
 | j + 1, zs => by simp only [pz2, List.length_set]; exact yjn q low e c j zs
theorem yg0 (p q : List (Int × Int)) (low : Int) : ∀ i zs, (pz1 p q low i zs).length = zs.length
 | 0, zs => rfl
 | i + 1, zs => by simp only [pz1]; rw [yjn, yg0]
def tmI : Int -> List Int -> List (Int × Int)
 | _, [] => []
 | e, c :: r => if c = 0 then tmI (e + 1) r else (e, c) :: tmI (e + 1) r
theorem yk7 : ∀ (e : Int) (l : List Int) (c : Int), tmI e (l ++ [c]) = tmI e l ++ (if c = 0 then [] else [(e + l.length, c)])
 | e, [], c => by simp only [List.nil_append, tmI, List.length_nil]; split <;> simp
 | e, x :: l, c => by
   have := yk7 (e + 1) l c
   simp only [List.cons_append, tmI, this, List.length_cons]
   have h : e + 1 + (l.length : Int) = e + ((l.length + 1 : Nat) : Int) := by omega
   rw [h]
   split <;> split <;> simp
theorem ynu : ∀ (e : Int) (l : List Int), (tmI e l).length <= l.length
 | _, [] => Nat.le_refl _
 | e, c :: r => by
   have := ynu (e + 1) r
   simp only [tmI]; split <;> simp only [List.length_cons] <;> omega
abbrev lowE (p : List (Int × Int)) : Int := (p.getD 0 (0, 0)).1
abbrev ybf (p : List (Int × Int)) : Int := (p.getD (p.length - 1) (0, 0)).1
def mulZ (p q : List (Int × Int)) : List Int := pz1 p q (lowE p + lowE q) p.length (List.replicate (ybf p + ybf q - (lowE p + lowE q) + 1).toNat 0)
end Go.Proofs.YtebdkebfkpbmpaaGreatDoor
set_option linter.unusedSimpArgs false
set_option linter.unusedVariables false
namespace Go.Proofs.YtebdkebfkpbmpaaGreatDoor
def cfL : List (Int × Int) -> Int -> Int
 | [], _ => 0
 | t :: p, e => (if t.1 = e then t.2 else 0) + cfL p e
structure AscN (p : List (Int × Int)) : Prop where
 asc : p.Pairwise fun a b => a.1 < b.1
 nz : ∀ t ∈ p, t.2 ≠ 0
theorem y6c (p q : List (Int × Int)) (e : Int) : cfL (p ++ q) e = cfL p e + cfL q e := by
 induction p with
 | nil => simp [cfL]
 | cons t p ih => simp only [List.cons_append, cfL, ih]; omega
theorem yh8 {p : List (Int × Int)} {e : Int} (h : ∀ t ∈ p, t.1 ≠ e) : cfL p e = 0 := by
 induction p with
 | nil => rfl
 | cons t p ih =>
   simp only [cfL]
   rw [if_neg (h t (List.mem_cons_self ..)), ih fun u hu => h u (List.mem_cons_of_mem _ hu)]; rfl
theorem AscN.tail {t : Int × Int} {p : List (Int × Int)} (h : AscN (t :: p)) : AscN p := ⟨(List.pairwise_cons.1 h.asc).2, fun u hu => h.nz u (List.mem_cons_of_mem _ hu)⟩
theorem AscN.head {t : Int × Int} {p : List (Int × Int)} (h : AscN (t :: p)) : ∀ u ∈ p, t.1 < u.1 := (List.pairwise_cons.1 h.asc).1
theorem AscN.nil : AscN [] := ⟨.nil, fun _ h => by cases h⟩
theorem yfl {p : List (Int × Int)} (h : AscN p) {t : Int × Int} (ht : t ∈ p) : cfL p t.1 = t.2 := by
 induction p with
 | nil => cases ht
 | cons u p ih =>
   simp only [cfL]
   rcases List.mem_cons.1 ht with rfl | ht
   ·rw [if_pos rfl, yh8 fun v hv => by have := h.head v hv; omega]; omega
   ·rw [if_neg (by have := h.head t ht; omega), ih h.tail ht]; omega
theorem yq3 {p : List (Int × Int)} {e : Int} (h : cfL p e ≠ 0) : ∃ t ∈ p, t.1 = e := by
 induction p with
 | nil => exact absurd rfl h
 | cons t p ih =>
   by_cases ht : t.1 = e
   ·exact ⟨t, List.mem_cons_self .., ht⟩
   ·simp only [cfL, if_neg ht, Int.zero_add] at h
    obtain ⟨u, hu, e2⟩ := ih h
    exact ⟨u, List.mem_cons_of_mem _ hu, e2⟩
theorem AscN.ext : ∀ {p q : List (Int × Int)}, AscN p -> AscN q -> (∀ e, cfL p e = cfL q e) -> p = q
 | [], [], _, _, _ => rfl
 | [], t :: q, _, hq, h => by
   have := h t.1
   rw [yfl hq (List.mem_cons_self ..)] at this
   exact absurd this.symm (hq.nz t (List.mem_cons_self ..))
 | t :: p, [], hp, _, h => by
   have := h t.1
   rw [yfl hp (List.mem_cons_self ..)] at this
   exact absurd this (hp.nz t (List.mem_cons_self ..))
 | t :: p, u :: q, hp, hq, h => by
   have m1 : cfL (t :: p) t.1 = t.2 := yfl hp (List.mem_cons_self ..)
   have m2 : cfL (u :: q) u.1 = u.2 := yfl hq (List.mem_cons_self ..)
   have n1 := hp.nz t (List.mem_cons_self ..)
   have n2 := hq.nz u (List.mem_cons_self ..)
   have e1 : t.1 = u.1 := by
    obtain ⟨v, hv, ev⟩ := yq3 (p := u :: q) (e := t.1) (by rw [← h, m1]; exact n1)
    obtain ⟨w, hw, ew⟩ := yq3 (p := t :: p) (e := u.1) (by rw [h, m2]; exact n2)
    rcases List.mem_cons.1 hv with rfl | hv
    ·exact ev.symm
    ·rcases List.mem_cons.1 hw with rfl | hw
     ·exact ew
     ·have := hq.head v hv
      have := hp.head w hw
      omega
   have e2 : t.2 = u.2 := by rw [← m1, ← m2, h, e1]
   have et : t = u := Prod.ext e1 e2
   subst et
   rw [AscN.ext hp.tail hq.tail fun e => by have := h e; simp only [cfL] at this; omega]
theorem ytr : ∀ (e : Int) (l : List Int), ∀ t ∈ tmI e l, e <= t.1 /\ t.1 < e + l.length
 | _, [], t, ht => by cases ht
 | e, c :: r, t, ht => by
   simp only [tmI] at ht
   have key : t ∈ tmI (e + 1) r -> e <= t.1 /\ t.1 < e + (c :: r).length := fun h => by
    have := ytr (e + 1) r t h
    simp only [List.length_cons]; omega
   split at ht
   ·exact key ht
   ·rcases List.mem_cons.1 ht with rfl | ht
    ·simp only [List.length_cons]; omega
    ·exact key ht
theorem yjo : ∀ (e : Int) (l : List Int), AscN (tmI e l)
 | _, [] => .nil
 | e, c :: r => by
   have ih := yjo (e + 1) r
   simp only [tmI]
   split
   ·exact ih
   ·rename_i h
    refine ⟨List.pairwise_cons.2 ⟨fun u hu => by have := ytr (e + 1) r u hu; show e < u.1; omega, ih.asc⟩, fun u hu => ?_⟩
    rcases List.mem_cons.1 hu with rfl | hu
    ·exact h
    ·exact ih.nz u hu
theorem yg1 : ∀ (e : Int) (l : List Int) (x : Int), cfL (tmI e l) x = if e <= x then l.getD (x - e).toNat 0 else 0
 | e, [], x => by simp [tmI, cfL]
 | e, c :: r, x => by
   have ih := yg1 (e + 1) r x
   by_cases hx : e = x
   ·subst hx
    rw [if_neg (by omega)] at ih
    simp only [tmI]
    split
    ·rename_i h; rw [ih, if_pos (Int.le_refl _)]; simp [h]
    ·simp only [cfL, ih]; simp
   ·have k : cfL (tmI e (c :: r)) x = cfL (tmI (e + 1) r) x := by
     simp only [tmI]
     split
     ·rfl
     ·simp only [cfL]; rw [if_neg hx]; omega
    rw [k, ih]
    by_cases hl : e + 1 <= x
    ·rw [if_pos hl, if_pos (by omega)]
     obtain ⟨d, hd⟩ : ∃ d : Nat, x = e + 1 + d := ⟨(x - e - 1).toNat, by omega⟩
     rw [hd, show (e + 1 + (d : Int) - e).toNat = d + 1 by omega, show (e + 1 + (d : Int) - (e + 1)).toNat = d by omega, List.getD_cons_succ]
    ·rw [if_neg hl, if_neg (by omega)]
def cvL (p : List (Int × Int)) (g : Int -> Int) (e : Int) : Int := match p with
 | [] => 0
 | t :: p => t.2 * g (e - t.1) + cvL p g e
theorem yyl (l : List Int) (i j : Nat) (v : Int) (hi : i < l.length) : (l.set i v).getD j 0 = if i = j then v else l.getD j 0 := by
 by_cases h : i = j
 ·subst h; simp [hi]
 ·rw [if_neg h]; simp [List.getD_eq_getElem?_getD, List.getElem?_set_ne h]
theorem y19 (p : List (Int × Int)) (t : Int × Int) (e : Int) : cfL (p ++ [t]) e = cfL p e + if t.1 = e then t.2 else 0 := by
 rw [y6c]; simp [cfL]
theorem ymt {α : Type} {l : List α} {k : Nat} (d : α) (h : k < l.length) : l.take (k + 1) = l.take k ++ [l.getD k d] := by
 rw [List.take_succ_eq_append_getElem h]; simp [h]
theorem yts (q : List (Int × Int)) (low e c : Int) (zs : List Int) (hr : ∀ j, j < q.length -> low <= e + (q.getD j (0, 0)).1 /\ e + (q.getD j (0, 0)).1 < low + zs.length) :
  ∀ j, j <= q.length -> ∀ x : Nat, x < zs.length -> (pz2 q low e c j zs).getD x 0 = zs.getD x 0 + c * cfL (q.take j) (low + x - e)
 | 0, _, x, _ => by simp [pz2, cfL]
 | j + 1, hj, x, hx => by
   have ih := yts q low e c zs hr j (by omega)
   have h1 := hr j (by omega)
   have hl := yjn q low e c j zs
   rw [ymt (0, 0) (by omega), y19]
   simp only [pz2]
   rw [yyl _ _ _ _ (by omega)]
   by_cases h : (e + (q.getD j (0, 0)).1 - low).toNat = x
   ·rw [if_pos h, h, ih x hx, if_pos (by omega), Int.mul_add]; omega
   ·rw [if_neg h, ih x hx, if_neg (by omega), Int.add_zero]
theorem y2a (p : List (Int × Int)) (t : Int × Int) (g : Int -> Int) (e : Int) : cvL (p ++ [t]) g e = cvL p g e + t.2 * g (e - t.1) := by
 induction p with
 | nil => simp [cvL]
 | cons u p ih => simp only [List.cons_append, cvL, ih]; omega
theorem ytt (p q : List (Int × Int)) (low : Int) (zs : List Int) (hr : ∀ i j, i < p.length -> j < q.length -> low <= (p.getD i (0, 0)).1 + (q.getD j (0, 0)).1 /\ (p.getD i (0, 0)).1 + (q.getD j (0, 0)).1 < low + zs.length) :
  ∀ i, i <= p.length -> ∀ x : Nat, x < zs.length -> (pz1 p q low i zs).getD x 0 = zs.getD x 0 + cvL (p.take i) (cfL q) (low + x)
 | 0, _, x, _ => by simp [pz1, cvL]
 | i + 1, hi, x, hx => by
   have ih := ytt p q low zs hr i (by omega)
   have hl := yg0 p q low i zs
   simp only [pz1]
   rw [yts q low _ _ _ (fun j hj => by have := hr i j (by omega) hj; rw [hl]; exact this) q.length (Nat.le_refl _) x (by omega), ih x hx, ymt (0, 0) (by omega), y2a, List.take_length]
   omega
theorem y2b {p : List (Int × Int)} {g : Int -> Int} {e : Int} (h : ∀ t ∈ p, g (e - t.1) = 0) : cvL p g e = 0 := by
 induction p with
 | nil => rfl
 | cons t p ih => simp only [cvL, h t (List.mem_cons_self ..), ih fun u hu => h u (List.mem_cons_of_mem _ hu)]; simp
theorem yfm {p : List (Int × Int)} (h : AscN p) {t : Int × Int} (ht : t ∈ p) : lowE p <= t.1 /\ t.1 <= ybf p := by
 obtain ⟨i, hi, rfl⟩ := List.mem_iff_getElem.1 ht
 have P := List.pairwise_iff_getElem.1 h.asc
 unfold lowE ybf
 simp only [List.getD_eq_getElem?_getD, List.getElem?_eq_getElem (show 0 < p.length by omega), List.getElem?_eq_getElem (show p.length - 1 < p.length by omega), Option.getD_some]
 constructor
 ·by_cases h0 : i = 0
  ·subst h0; exact Int.le_refl _
  ·have := P 0 i (by omega) hi (by omega); omega
 ·by_cases h0 : i = p.length - 1
  ·subst h0; exact Int.le_refl _
  ·have := P i (p.length - 1) hi (by omega) (by omega); omega
theorem ybg {p : List (Int × Int)} {i : Nat} (hi : i < p.length) : p.getD i (0, 0) ∈ p := by
 simp [List.getD_eq_getElem?_getD, List.getElem?_eq_getElem hi]
theorem y6d {p q : List (Int × Int)} (hp : AscN p) (hq : AscN q) (e : Int) : cfL (tmI (lowE p + lowE q) (mulZ p q)) e = cvL p (cfL q) e := by
 rw [yg1]
 unfold mulZ
 obtain ⟨N, hN⟩ : ∃ N : Nat, (ybf p + ybf q - (lowE p + lowE q) + 1).toNat = N := ⟨_, rfl⟩
 rw [hN]
 have out : ∀ e, (∀ t ∈ p, ∀ u ∈ q, t.1 + u.1 ≠ e) -> cvL p (cfL q) e = 0 := fun e h => y2b fun t ht => yh8 fun u hu => by have := h t ht u hu; omega
 by_cases h1 : lowE p + lowE q <= e
 ·rw [if_pos h1]
  obtain ⟨x, hx⟩ : ∃ x : Nat, e = lowE p + lowE q + x := ⟨(e - (lowE p + lowE q)).toNat, by omega⟩
  rw [hx, show (lowE p + lowE q + (x : Int) - (lowE p + lowE q)).toNat = x by omega]
  have hl := yg0 p q (lowE p + lowE q) p.length (List.replicate N 0)
  rw [List.length_replicate] at hl
  by_cases h2 : x < N
  ·rw [ytt p q _ _ (fun i j hi hj => ?_) p.length (Nat.le_refl _) x (by simpa using h2), List.take_length]
   ·simp [List.getD_eq_getElem?_getD, h2]
   ·have a := yfm hp (ybg hi)
    have b := yfm hq (ybg hj)
    rw [List.length_replicate]; omega
  ·rw [List.getD_eq_getElem?_getD, List.getElem?_eq_none (by omega)]
   exact (out _ fun t ht u hu => by have a := yfm hp ht; have b := yfm hq hu; omega).symm
 ·rw [if_neg h1]
  exact (out _ fun t ht u hu => by have a := yfm hp ht; have b := yfm hq hu; omega).symm
end Go.Proofs.YtebdkebfkpbmpaaGreatDoor
