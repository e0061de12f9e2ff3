/- The reference's strands are the program's. -/
import Derived.Test.YtmplhbgolhlicaaDoorRf4
import Derived.Test.YtmplhbgolhlicaaDoorCw1
set_option linter.unusedSimpArgs false
set_option linter.unusedVariables false
namespace Go.Proofs.YtmplhbgolhlicaaDoor
open Go Go.RowKit
set_option maxRecDepth 100000
theorem outB_turn2 {s : List Int} {h : Int} (h0 : 0 ≤ h) (hs : s.getD (h / 4).toNat 0 = 1 ∨ s.getD (h / 4).toNat 0 = -1) : outB s (turnM h 2) = !outB s h := by
  have e : turnM h 2 = h - h % 4 + (h % 4 + 2) % 4 := by
    unfold turnM
    have : Int.tmod 2 4 = 2 := rfl
    rw [this]; omega
  have ed : turnM h 2 / 4 = h / 4 := by rw [e]; omega
  have em : turnM h 2 % 4 = (h % 4 + 2) % 4 := by rw [e]; omega
  unfold outB
  rw [ed, em]
  have : h % 4 = 0 ∨ h % 4 = 1 ∨ h % 4 = 2 ∨ h % 4 = 3 := by omega
  rcases this with g | g | g | g <;> rcases hs with k | k <;> rw [g, k] <;> decide
theorem outB_nx {s m : List Int} {L : Int} (hv : Valid1 s m L) {x : Nat} (hx : x < 4 * s.length) : outB s (strNx m x) = outB s x := by
  have hm := hv.mt x hx
  have hr := hm.1
  have hl := hm.2.1
  have := outB_turn2 (s := s) (h := m.getD x 0) hr (hv.sg _ (by omega))
  unfold strNx
  rw [Int.toNat_natCast, this]
  have hne := hm.2.2.2.2
  cases h1 : outB s x <;> cases h2 : outB s (m.getD x 0) <;> simp_all
theorem outB_it {s m : List Int} {L : Int} (hv : Valid1 s m L) {x : Nat} (hx : x < 4 * s.length) : ∀ j, outB s (it (strNx m) j x) = outB s x
  | 0 => rfl
  | j + 1 => by
    have hR : InR s.length (x : Int) := by unfold InR; omega
    have hS := (str_perm hv.prd).it hR j
    unfold InR at hS
    have e : it (strNx m) j (x : Int) = ((it (strNx m) j (x : Int)).toNat : Int) := by omega
    have h1 := outB_nx hv (x := (it (strNx m) j (x : Int)).toNat) (by omega)
    rw [← e] at h1
    show outB s (strNx m (it (strNx m) j x)) = _
    rw [h1, outB_it hv hx j]
theorem strands_ref {s m : List Int} {L : Int} (hv : Valid1 s m L) : lstR (fun h => orbF (strNx m) m.length h) (flS s m) m.length = strandsM s m := by
  have hl := hv.len
  have hR : ∀ x : Nat, x < m.length → InR s.length (x : Int) := fun x hx => by unfold InR; omega
  have hof := fun (x : Nat) (hx : x < m.length) => by
    have := orb_facts (str_perm hv.prd) (hR x hx)
    rw [← hl] at this; exact this
  refine (cysN_eq (N := m.length) (want := outB s) (orb := orbF (strNx m) m.length) ?_ ?_ ?_ ?_ m.length (Nat.le_refl _)).1.symm
  · intro x hx _ y hy
    have := (hof x hx).2.1 y hy
    unfold InR at this; omega
  · intro x hx _
    exact (hof x hx).2.2.2.2.1
  · intro x y hx hy hw hm
    refine ⟨?_, (hof x hx).2.2.1 y hm⟩
    obtain ⟨j, hj⟩ := ((hof x hx).1 y).1 hm
    rw [← hj, outB_it hv (by omega) j]; exact hw
  · intro x y z hx hy hz _ h1 h2
    exact (hof x hx).2.2.2.1 y h1 z h2
end Go.Proofs.YtmplhbgolhlicaaDoor
