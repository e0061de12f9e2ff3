/- Layer 12: sums and products of polynomials that are known by their coefficients. -/
import Derived.Test.YtalmkaiiffodnaaGreatDoorBr3
set_option linter.unusedSimpArgs false
set_option linter.unusedVariables false
namespace Go.Proofs.YtalmkaiiffodnaaGreatDoor
open Go Go.RowKit
set_option maxRecDepth 100000
structure PolyB (p : List (Int × Int)) (f : Int → Int) : Prop where
  asc : AscN p
  cf : ∀ e, cfL p e = f e
theorem PolyB.nil : PolyB [] (fun _ => 0) := ⟨AscN.nil, fun _ => rfl⟩
theorem PolyB.congr {p : List (Int × Int)} {f g : Int → Int} (h : PolyB p f) (e : ∀ x, f x = g x) : PolyB p g := ⟨h.asc, fun x => (h.cf x).trans (e x)⟩
theorem PolyB.mem {p : List (Int × Int)} {f : Int → Int} (h : PolyB p f) {t : Int × Int} (ht : t ∈ p) : t.2 = f t.1 ∧ f t.1 ≠ 0 := by
  have := cfL_mem h.asc ht
  rw [h.cf] at this
  exact ⟨this.symm, by rw [this]; exact h.asc.nz t ht⟩
theorem PolyB.len {p : List (Int × Int)} {f : Int → Int} (h : PolyB p f) (hs : ∀ e, f e ≠ 0 → -1000 ≤ e ∧ e ≤ 1000) : p.length ≤ 2001 := by
  have := h.asc.len (a := -1000) (b := 1000) fun t ht => hs _ (h.mem ht).2
  omega
theorem PolyB.fits {p : List (Int × Int)} {f : Int → Int} (h : PolyB p f) (hb : ∀ e, -1125899906842624 ≤ f e ∧ f e ≤ 1125899906842624) : cfits p := fun t ht => by
  rw [(h.mem ht).1]; exact hb _
theorem PolyB.ok {p : List (Int × Int)} {f : Int → Int} (h : PolyB p f) (hs : ∀ e, f e ≠ 0 → -1000 ≤ e ∧ e ≤ 1000) (hb : ∀ e, -1125899906842624 ≤ f e ∧ f e ≤ 1125899906842624) : PolyOk p := by
  refine ⟨h.fits hb, by have := h.len hs; omega, fun i j hij hj => ?_, fun i hi => ?_⟩
  · by_cases e : i = j
    · subst e; exact Int.le_refl _
    · have := List.pairwise_iff_getElem.1 h.asc.asc i j (by omega) hj (by omega)
      simp only [List.getD_eq_getElem?_getD, List.getElem?_eq_getElem hj, List.getElem?_eq_getElem (show i < p.length by omega), Option.getD_some]
      omega
  · have := hs _ (h.mem (getD_in hi)).2
    omega
theorem cfL_memP {p : List (Int × Int)} (h : p.Pairwise fun a b => a.1 < b.1) {t : Int × Int} (ht : t ∈ p) : cfL p t.1 = t.2 := by
  induction p with
  | nil => cases ht
  | cons u p ih =>
    have h1 := List.pairwise_cons.1 h
    simp only [cfL]
    rcases List.mem_cons.1 ht with rfl | ht
    · rw [if_pos rfl, cfL_none fun v hv => by have := h1.1 v hv; omega]; omega
    · rw [if_neg (by have := h1.1 t ht; omega), ih h1.2 ht]; omega
theorem add_ok {p q : List (Int × Int)} {f g : Int → Int} (hp : PolyB p f) (hq : PolyB q g) (hs : ∀ e, f e ≠ 0 → -1000 ≤ e ∧ e ≤ 1000) (ht : ∀ e, g e ≠ 0 → -1000 ≤ e ∧ e ≤ 1000)
    (hf : ∀ e, -562949953421312 ≤ f e ∧ f e ≤ 562949953421312) (hg : ∀ e, -562949953421312 ≤ g e ∧ g e ≤ 562949953421312) :
    ∃ r, PolyB r (fun e => f e + g e) ∧ Fn Tryz.prog 28 [plA false p, plA false q] (plA false r) := by
  have ha := mrg_asc addF p q hp.asc.asc hq.asc.asc
  have hc : ∀ x, cfL (mrg addF p q) x = f x + g x := fun x => by rw [cfL_mrg addF rfl p q hp.asc.asc hq.asc.asc, hp.cf, hq.cf]; rfl
  refine ⟨nz (mrg addF p q), ⟨nz_asc ha, fun e => by rw [cfL_nz, hc]⟩, fn_Add p q (hp.fits fun e => by have := hf e; omega) (hq.fits fun e => by have := hg e; omega) (by have := hp.len hs; omega) (by have := hq.len ht; omega) ?_⟩
  unfold cmbOk
  rw [List.all_eq_true]
  intro t ht
  have := cfL_memP ha ht
  rw [hc] at this
  have h1 := hf t.1
  have h2 := hg t.1
  exact fit_true (by omega) (by omega)
theorem trm_ok (c e : Int) : PolyB (trm c e) (fun x => if x = e then c else 0) := by
  unfold trm
  split
  · rename_i h
    exact PolyB.nil.congr fun x => by rw [h]; split <;> rfl
  · rename_i h
    refine ⟨⟨by simp, fun t ht => by simp only [List.mem_singleton] at ht; subst ht; exact h⟩, fun x => ?_⟩
    simp only [cfL, Int.add_zero]
    by_cases hx : x = e
    · rw [if_pos hx.symm, if_pos hx]
    · rw [if_neg (fun h => hx h.symm), if_neg hx]
theorem dAsc : AscN [(-2, -1), (2, -1)] := ⟨by decide, by decide⟩
theorem mulG_ok {p q : List (Int × Int)} {f g h : Int → Int} (hp : PolyB p f) (hq : PolyB q g) (hs : ∀ e, f e ≠ 0 → -1000 ≤ e ∧ e ≤ 1000) (hs2 : ∀ e, g e ≠ 0 → -1000 ≤ e ∧ e ≤ 1000)
    (hb : ∀ e, -1125899906842624 ≤ f e ∧ f e ≤ 1125899906842624) (hb2 : ∀ e, -1125899906842624 ≤ g e ∧ g e ≤ 1125899906842624) (hh : ∀ e, cvL p g e = h e) (hb3 : ∀ e, -1125899906842624 ≤ h e ∧ h e ≤ 1125899906842624)
    (hp0 : 0 < p.length) (hq0 : 0 < q.length) (hd : highE p + highE q - (lowE p + lowE q) ≤ 64 + 4 * (p.length : Int) * q.length) :
    ∃ r, PolyB r h ∧ Fn Tryz.prog 27 [plA false p, plA false q] (plA false r) := by
  have a0 := hs _ (hp.mem (getD_in (i := 0) hp0)).2
  have a1 := hs _ (hp.mem (getD_in (i := p.length - 1) (by omega))).2
  have b0 := hs2 _ (hq.mem (getD_in (i := 0) hq0)).2
  have b1 := hs2 _ (hq.mem (getD_in (i := q.length - 1) (by omega))).2
  have hgq : cfL q = g := funext hq.cf
  have hc : ∀ e, cfL (tmI (lowE p + lowE q) (mulZ p q)) e = h e := fun e => by rw [cfL_mul hp.asc hq.asc, hgq, hh]
  refine ⟨_, ⟨tmI_asc _ _, hc⟩, fn_Mul p q (hp.ok hs hb) (hq.ok hs2 hb2) hp0 hq0 ?_ ?_ ?_ hd fun z hz => ?_⟩
  · unfold lowE; omega
  · unfold highE; omega
  · unfold lowE highE; omega
  · obtain ⟨i, hi, rfl⟩ := List.mem_iff_getElem.1 hz
    have h1 := cfL_tmI (lowE p + lowE q) (mulZ p q) (lowE p + lowE q + i)
    rw [if_pos (by omega), show (lowE p + lowE q + (i : Int) - (lowE p + lowE q)).toNat = i by omega, hc] at h1
    have h2 : (mulZ p q).getD i 0 = (mulZ p q)[i] := by simp [List.getD_eq_getElem?_getD, hi]
    rw [← h2, ← h1]; exact hb3 _
theorem mul_ok {p : List (Int × Int)} {f : Int → Int} (hp : PolyB p f) (hs : ∀ e, f e ≠ 0 → -1000 ≤ e ∧ e ≤ 1000) (hb : ∀ e, -281474976710656 ≤ f e ∧ f e ≤ 281474976710656) (hd : 0 < p.length → highE p - lowE p + 4 ≤ 64 + 8 * (p.length : Int)) :
    ∃ q, PolyB q (dml f) ∧ Fn Tryz.prog 27 [plA false p, plA false [(-2, -1), (2, -1)]] (plA false q) := by
  by_cases hp0 : 0 < p.length
  · have hq : PolyB [(-2, -1), (2, -1)] (cfL [(-2, -1), (2, -1)]) := ⟨dAsc, fun _ => rfl⟩
    refine mulG_ok hp hq hs (fun e he => ?_) (fun e => by have := hb e; omega) (fun e => ?_) (h := dml f) (fun e => by rw [cvL_d, show cfL p = f from funext hp.cf]) (fun e => ?_) hp0 (by decide) ?_
    · simp only [cfL] at he
      by_cases h1 : (-2 : Int) = e
      · omega
      · rw [if_neg h1] at he
        by_cases h2 : (2 : Int) = e
        · omega
        · rw [if_neg h2] at he; exact absurd rfl he
    · simp only [cfL]; split <;> split <;> omega
    · have h1 := hb (e + 2)
      have h2 := hb (e - 2)
      unfold dml; omega
    · have := hd hp0
      have e1 : highE [((-2 : Int), (-1 : Int)), (2, -1)] = 2 := rfl
      have e2 : lowE [((-2 : Int), (-1 : Int)), (2, -1)] = -2 := rfl
      rw [e1, e2, show ([((-2 : Int), (-1 : Int)), (2, -1)] : List (Int × Int)).length = 2 from rfl]
      omega
  · obtain rfl : p = [] := List.length_eq_zero_iff.1 (by omega)
    refine ⟨[], PolyB.nil.congr fun e => ?_, fn_Mul0 _⟩
    have h1 := hp.cf (e + 2)
    have h2 := hp.cf (e - 2)
    simp only [cfL] at h1 h2
    unfold dml; rw [← h1, ← h2]; rfl
def listOf (f : Int → Int) : List (Int × Int) := tmI (-1000) ((List.range 2001).map fun (i : Nat) => f ((i : Int) - 1000))
theorem listOf_ok {f : Int → Int} (hs : ∀ e, f e ≠ 0 → -1000 ≤ e ∧ e ≤ 1000) : PolyB (listOf f) f := by
  refine ⟨tmI_asc _ _, fun e => ?_⟩
  unfold listOf
  rw [cfL_tmI]
  by_cases h0 : f e = 0
  · rw [h0]
    split
    · by_cases h1 : (e - -1000).toNat < 2001
      · simp only [List.getD_eq_getElem?_getD, List.getElem?_map, List.getElem?_range h1, Option.map_some, Option.getD_some]
        rw [show (((e - -1000).toNat : Nat) : Int) - 1000 = e by omega, h0]
      · rw [List.getD_eq_getElem?_getD, List.getElem?_eq_none (by simp; omega)]; rfl
    · rfl
  · have := hs e h0
    rw [if_pos (by omega)]
    have h1 : (e - -1000).toNat < 2001 := by omega
    simp only [List.getD_eq_getElem?_getD, List.getElem?_map, List.getElem?_range h1, Option.map_some, Option.getD_some]
    rw [show (((e - -1000).toNat : Nat) : Int) - 1000 = e by omega]
theorem PolyB.eq {p : List (Int × Int)} {f : Int → Int} (h : PolyB p f) (hs : ∀ e, f e ≠ 0 → -1000 ≤ e ∧ e ≤ 1000) : p = listOf f :=
  AscN.ext h.asc (listOf_ok hs).asc fun e => by rw [h.cf, (listOf_ok hs).cf]
def brP (m : List Int) (n L : Nat) : List (Int × Int) := listOf (brT m n L 1)
theorem brT_sup {m : List Int} {n L : Nat} (hp : PmOk m n) (hn : n ≤ 9) (hL : L ≤ 20) {j : Nat} (hj : 1 ≤ j) {e : Int} (he : brT m n L j e ≠ 0) : -1000 ≤ e ∧ e ≤ 1000 := by
  have h1 := brT_supp hp he
  have h2 := cirS_max hp (fun _ => true)
  have h3 := cirS_max hp (fun _ => false)
  omega
theorem brT_bnd {m : List Int} {n L : Nat} (hp : PmOk m n) (hn : n ≤ 9) (hL : L ≤ 20) {j : Nat} (hj : 1 ≤ j) (e : Int) : -70368744177664 ≤ brT m n L j e ∧ brT m n L j e ≤ 70368744177664 := by
  have h1 := brT_abs hp (L := L) (j := j) (M := 37) (by omega) e
  have h2 : 2 ^ (37 + n) ≤ 2 ^ 46 := Nat.pow_le_pow_right (by omega) (by omega)
  omega
theorem rowT_bnd {m : List Int} {n L K j : Nat} {r : List Int} (h : rowB m n L K (j : Int) = some r) (hK : K ≤ 512) (hn : n ≤ 9) (x : Nat) (hx : x ≤ n + 1) (e : Int) : -10000 ≤ rowT n r x e ∧ rowT n r x e ≤ 10000 := by
  unfold rowT
  have := sm_abs (f := fun y => if e = (n : Int) - 2 * y then r.getD y 0 else 0) (b := 512) (n := x) fun y hy => by
    have := rowB_bound h (x := y) (by omega)
    split <;> omega
  omega
theorem rowT_sup {n : Nat} {r : List Int} (hn : n ≤ 9) {x : Nat} (hx : x ≤ n + 1) {e : Int} (he : rowT n r x e ≠ 0) : -1000 ≤ e ∧ e ≤ 1000 := by
  obtain ⟨y, hy, h⟩ := sm_ne he
  by_cases h1 : e = (n : Int) - 2 * y
  · omega
  · exact absurd (if_neg h1) h
end Go.Proofs.YtalmkaiiffodnaaGreatDoor
