/- Plain: a row of parents and the representatives that it stands for. -/
import Derived.Test.YtmfdclbiljpmgaaDoorPc
set_option linter.unusedSimpArgs false
set_option linter.unusedVariables false
namespace Go.Proofs.YtmfdclbiljpmgaaDoor
structure UF (l R : List Int) (N : Nat) : Prop where
  rep : RepR R N
  len : l.length = N
  rng : ∀ x, x < N → 0 ≤ l.getD x 0 ∧ l.getD x 0 < N
  same : ∀ x, x < N → R.getD (l.getD x 0).toNat 0 = R.getD x 0
  root : ∀ x : Nat, x < N → (l.getD x 0 = x ↔ R.getD x 0 = x)
  rank : ∃ rk : Nat → Nat, ∀ x : Nat, x < N → l.getD x 0 ≠ x → rk (l.getD x 0).toNat < rk x
theorem gset_eq {l : List Int} {i : Nat} {v : Int} (h : i < l.length) : (l.set i v).getD i 0 = v := by simp [h]
theorem gset_ne {l : List Int} {i j : Nat} {v : Int} (h : i ≠ j) : (l.set i v).getD j 0 = l.getD j 0 := by simp [List.getD_eq_getElem?_getD, List.getElem?_set_ne h]
section
variable {l R : List Int} {N : Nat}
theorem UF.rkR (h : UF l R N) {rk : Nat → Nat} (hr : ∀ x : Nat, x < N → l.getD x 0 ≠ x → rk (l.getD x 0).toNat < rk x) : ∀ (n x : Nat), rk x ≤ n → x < N → R.getD x 0 ≠ x → rk (R.getD x 0).toNat < rk x
  | n, x, hn, hx, hne => by
    have h1 := h.rng x hx
    have h2 := hr x hx (fun e => hne ((h.root x hx).1 e))
    have h3 := h.same x hx
    by_cases e : R.getD (l.getD x 0).toNat 0 = ((l.getD x 0).toNat : Int)
    · rw [← h3, e, Int.toNat_natCast]; exact h2
    · match n, hn with
      | 0, hn => omega
      | n + 1, hn =>
        have := UF.rkR h hr n (l.getD x 0).toNat (by omega) (by omega) e
        rw [h3] at this; omega
theorem UF.half (h : UF l R N) {x : Nat} (hx : x < N) (hne : l.getD x 0 ≠ x) : UF (l.set x (l.getD (l.getD x 0).toNat 0)) R N := by
  have h1 := h.rng x hx
  have h2 := h.rng (l.getD x 0).toNat (by omega)
  obtain ⟨rk, hr⟩ := h.rank
  have r1 := hr x hx hne
  have r2 : rk (l.getD (l.getD x 0).toNat 0).toNat ≤ rk (l.getD x 0).toNat := by
    by_cases e : l.getD (l.getD x 0).toNat 0 = ((l.getD x 0).toNat : Int)
    · rw [e, Int.toNat_natCast]; exact Nat.le_refl _
    · exact Nat.le_of_lt (hr _ (by omega) e)
  refine ⟨h.rep, by simp [h.len], fun y hy => ?_, fun y hy => ?_, fun y hy => ?_, rk, fun y hy hny => ?_⟩
  · by_cases e : x = y
    · subst e; rw [gset_eq (by rw [h.len]; exact hx)]; exact h2
    · rw [gset_ne e]; exact h.rng y hy
  · by_cases e : x = y
    · subst e; rw [gset_eq (by rw [h.len]; exact hx), h.same _ (by omega), h.same _ hx]
    · rw [gset_ne e]; exact h.same y hy
  · by_cases e : x = y
    · subst e; rw [gset_eq (by rw [h.len]; exact hx)]
      constructor
      · intro e2; rw [e2] at r2; simp only [Int.toNat_natCast] at r2; omega
      · intro e2; exact absurd ((h.root x hx).2 e2) hne
    · rw [gset_ne e]; exact h.root y hy
  · by_cases e : x = y
    · subst e; rw [gset_eq (by rw [h.len]; exact hx)]; omega
    · rw [gset_ne e] at hny ⊢; exact hr y hy hny
theorem UF.put (h : UF l R N) {x : Nat} (hx : x < N) : UF (l.set x (R.getD x 0)) R N := by
  obtain ⟨rk, hr⟩ := h.rank
  have h1 := h.rep.rng x hx
  refine ⟨h.rep, by simp [h.len], fun y hy => ?_, fun y hy => ?_, fun y hy => ?_, rk, fun y hy hny => ?_⟩
  · by_cases e : x = y
    · subst e; rw [gset_eq (by rw [h.len]; exact hx)]; exact h1
    · rw [gset_ne e]; exact h.rng y hy
  · by_cases e : x = y
    · subst e; rw [gset_eq (by rw [h.len]; exact hx), h.rep.idem _ hx]
    · rw [gset_ne e]; exact h.same y hy
  · by_cases e : x = y
    · subst e; rw [gset_eq (by rw [h.len]; exact hx)]
    · rw [gset_ne e]; exact h.root y hy
  · by_cases e : x = y
    · subst e; rw [gset_eq (by rw [h.len]; exact hx)] at hny ⊢; exact h.rkR hr (rk x) x (Nat.le_refl _) hx hny
    · rw [gset_ne e] at hny ⊢; exact hr y hy hny
theorem UF.join (h : UF l R N) {g k : Nat} (hg : g < N) (hk : k < N) (hne : R.getD g 0 ≠ R.getD k 0) : UF (l.set (R.getD g 0).toNat (R.getD k 0)) (joinR R g k) N := by
  obtain ⟨rk, hr⟩ := h.rank
  have g1 := h.rep.rng g hg
  have k1 := h.rep.rng k hk
  have gi := h.rep.idem g hg
  have ki := h.rep.idem k hk
  have hl := h.rep.len
  have hG : (R.getD g 0).toNat < l.length := by rw [h.len]; omega
  refine ⟨joinR_rep h.rep hg hk, by simp [h.len], fun y hy => ?_, fun y hy => ?_, fun y hy => ?_, fun x => if R.getD x 0 = R.getD g 0 then rk x + rk (R.getD k 0).toNat + 1 else rk x, fun y hy hny => ?_⟩
  · by_cases e : (R.getD g 0).toNat = y
    · subst e; rw [gset_eq hG]; exact k1
    · rw [gset_ne e]; exact h.rng y hy
  · by_cases e : (R.getD g 0).toNat = y
    · subst e
      rw [gset_eq hG, joinR_get hl (by omega), joinR_get hl (by omega), gi, ki, if_pos rfl]
      split <;> rfl
    · have := h.rng y hy
      rw [gset_ne e, joinR_get hl (by omega), joinR_get hl hy, h.same y hy]
  · by_cases e : (R.getD g 0).toNat = y
    · subst e
      rw [gset_eq hG, joinR_get hl (by omega), gi, if_pos rfl]
    · rw [gset_ne e, joinR_get hl hy, h.root y hy]
      split
      · rename_i e2
        constructor
        · intro e3; omega
        · intro e3; exfalso
          have : R.getD y 0 = R.getD k 0 := by
            have hyk : (R.getD k 0).toNat = y := by omega
            rw [hyk] at ki; exact ki
          omega
      · rfl
  · by_cases e : (R.getD g 0).toNat = y
    · subst e
      rw [gset_eq hG]
      simp only [gi, ki, if_true]
      rw [if_neg (fun e => hne e.symm)]
      omega
    · rw [gset_ne e] at hny ⊢
      have := hr y hy hny
      simp only [h.same y hy]
      split <;> omega
theorem UF.halfR (h : UF l R N) {rk : Nat → Nat} (hr : ∀ x : Nat, x < N → l.getD x 0 ≠ x → rk (l.getD x 0).toNat < rk x) {x : Nat} (hx : x < N) (hne : l.getD x 0 ≠ x) :
    (∀ y : Nat, y < N → (l.set x (l.getD (l.getD x 0).toNat 0)).getD y 0 ≠ y → rk ((l.set x (l.getD (l.getD x 0).toNat 0)).getD y 0).toNat < rk y) ∧ rk (l.getD (l.getD x 0).toNat 0).toNat < rk x ∧
    (∀ y, y < N → l.getD y 0 = R.getD y 0 → (l.set x (l.getD (l.getD x 0).toNat 0)).getD y 0 = R.getD y 0) := by
  have h1 := h.rng x hx
  have r1 := hr x hx hne
  have r2 : rk (l.getD (l.getD x 0).toNat 0).toNat ≤ rk (l.getD x 0).toNat := by
    by_cases e : l.getD (l.getD x 0).toNat 0 = ((l.getD x 0).toNat : Int)
    · rw [e, Int.toNat_natCast]; exact Nat.le_refl _
    · exact Nat.le_of_lt (hr _ (by omega) e)
  refine ⟨fun y hy hny => ?_, by omega, fun y hy e0 => ?_⟩
  · by_cases e : x = y
    · subst e; rw [gset_eq (by rw [h.len]; exact hx)]; omega
    · rw [gset_ne e] at hny ⊢; exact hr y hy hny
  · by_cases e : x = y
    · subst e
      rw [gset_eq (by rw [h.len]; exact hx), e0]
      have hi := h.rep.idem x hx
      have hg := h.rep.rng x hx
      have := (h.root (R.getD x 0).toNat (by omega)).2 (by omega)
      omega
    · rw [gset_ne e]; exact e0
theorem UF.init (N : Nat) : UF ((List.range N).map (Nat.cast : Nat → Int)) ((List.range N).map (Nat.cast : Nat → Int)) N := by
  have hg : ∀ x, x < N → ((List.range N).map (Nat.cast : Nat → Int)).getD x 0 = x := fun x hx => by simp [hx]
  exact ⟨⟨by simp, fun x hx => by rw [hg x hx]; omega, fun x hx => by rw [hg x hx]; simpa using hg x hx⟩, by simp, fun x hx => by rw [hg x hx]; omega, fun x hx => by rw [hg x hx]; simpa using hg x hx,
    fun x hx => by rw [hg x hx], fun x => x, fun x hx hn => absurd (hg x hx) hn⟩
end
end Go.Proofs.YtmfdclbiljpmgaaDoor
