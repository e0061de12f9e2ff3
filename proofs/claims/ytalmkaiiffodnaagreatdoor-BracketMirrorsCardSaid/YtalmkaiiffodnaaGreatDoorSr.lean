/- Smoothing and switching keep a diagram valid; the resolution ends; its polynomial. -/
import Derived.Test.YtalmkaiiffodnaaGreatDoorSq
import Derived.Test.YtalmkaiiffodnaaGreatDoorXa
set_option linter.unusedSimpArgs false
set_option linter.unusedVariables false
namespace Go.Proofs.YtalmkaiiffodnaaGreatDoor
namespace Sp
section
variable {s m : List Int} {L : Int} {n c : Nat} {b : Bool}
theorem dia_of (hv : validB s m L = true) : Dia m s.length ∧ sphR m s.length = true := by
  have v := valid1 hv
  refine ⟨⟨v.prd, fun x hx => (v.mt x hx).2.2.1⟩, ?_⟩
  rw [valid_eq] at hv
  unfold validR at hv
  exact (Bool.and_eq_true _ _ ▸ hv).2
end
end Sp
end Go.Proofs.YtalmkaiiffodnaaGreatDoor
namespace Go.Proofs.YtalmkaiiffodnaaGreatDoor
namespace Sp
section
variable {s m : List Int} {L : Int} {n c k : Nat}
def tw (k c x : Nat) : Nat := if x / 4 = c then x - x % 4 + (x % 4 + k) % 4 else x
theorem tw_div (k c x : Nat) : tw k c x / 4 = x / 4 := by unfold tw; split <;> omega
theorem tw_lt {x : Nat} (hx : x < 4 * n) : tw k c x < 4 * n := by have := tw_div k c x; omega
theorem tw_out {x : Nat} (h : x / 4 ≠ c) : tw k c x = x := by unfold tw; rw [if_neg h]
theorem tw_back {x : Nat} (hk : k = 1 ∨ k = 3) : tw (4 - k) c (tw k c x) = x ∧ tw k c (tw (4 - k) c x) = x := by
  by_cases h : x / 4 = c
  · unfold tw
    simp only [h, if_true]
    rw [if_pos (by omega), if_pos (by omega)]
    rcases hk with rfl | rfl <;> omega
  · rw [tw_out h, tw_out h, tw_out h]; exact ⟨rfl, rfl⟩
theorem tw_inj {x y : Nat} (hk : k = 1 ∨ k = 3) (e : tw k c x = tw k c y) : x = y := by
  rw [← (tw_back (c := c) (x := x) hk).1, e, (tw_back hk).1]
theorem mvM_get {to : Int → Int} {t : Nat → Nat} (ht : ∀ x : Nat, to x = t x) (hi : ∀ x y, t x = t y → x = y) (hl : ∀ x, x < m.length → t x < m.length) : ∀ k, k ≤ m.length → ∀ i, i < k → (mvM m to k).getD (t i) 0 = to (m.getD i 0)
  | 0, _, i, h => by omega
  | k + 1, hk, i, h => by
    have hlen := mvM_len m to k
    simp only [mvM]
    rw [ht k, Int.toNat_natCast]
    by_cases e : i = k
    · subst e; rw [getD_set_eq (by rw [hlen]; exact hl i (by omega))]
    · rw [getD_set_ne' (fun e' => e (hi _ _ e').symm)]; exact mvM_get ht hi hl k (by omega) i (by omega)
def kT (s : List Int) (c : Nat) : Nat := if s.getD c 0 = 1 then 1 else 3
theorem kT_or : kT s c = 1 ∨ kT s c = 3 := by unfold kT; split <;> simp
end
end Sp
end Go.Proofs.YtalmkaiiffodnaaGreatDoor
namespace Go.Proofs.YtalmkaiiffodnaaGreatDoor
namespace Sp
section
variable {s m : List Int} {L : Int} {n c k : Nat}
def tI (k c : Nat) (x : Int) : Int := (tw k c x.toNat : Nat)
theorem tI_nat (x : Nat) : tI k c x = (tw k c x : Nat) := by unfold tI; rw [Int.toNat_natCast]
structure RelC (N k c : Nat) (st st' : List (List Int) × List Bool) : Prop where
  fst : st'.1 = st.1.map (List.map (tI k c))
  len : st.2.length = N
  len' : st'.2.length = N
  get : ∀ y, y < N → st'.2.getD (tw k c y) false = st.2.getD y false
theorem RelC.step {want want' : Int → Bool} {orb orb' : Int → List Int} {st st' : List (List Int) × List Bool} (h : RelC (4 * n) k c st st') (hk : k = 1 ∨ k = 3) {x : Nat} (hx : x < 4 * n) (hw : want' (tw k c x : Nat) = want x)
    (ho : orb' (tw k c x : Nat) = (orb x).map (tI k c)) (hr : ∀ g ∈ orb x, 0 ≤ g ∧ g < 4 * n) : RelC (4 * n) k c (cys1 want orb x st) (cys1 want' orb' (tw k c x) st') := by
  unfold cys1
  rw [h.get x hx, hw]
  split
  · exact h
  · refine ⟨?_, ?_, ?_, fun y hy => ?_⟩
    · simp only [h.fst, ho, List.map_append, List.map_cons, List.map_nil]
    · simp only; rw [marks_len]; exact h.len
    · simp only; rw [marks_len]; exact h.len'
    · simp only
      rw [ho, marks_get _ _ _ (fun g hg => ?_), marks_get _ _ _ (fun g hg => by have := hr g hg; rw [h.len]; omega), h.get y hy]
      · congr 1
        have : ((tw k c y : Nat) : Int) ∈ (orb x).map (tI k c) ↔ (y : Int) ∈ orb x := by
          rw [List.mem_map]
          constructor
          · rintro ⟨g, hg, e⟩
            have := hr g hg
            unfold tI at e
            have e2 := tw_inj (c := c) (x := g.toNat) (y := y) hk (Int.ofNat.inj e)
            rw [← e2, show ((g.toNat : Nat) : Int) = g by omega]; exact hg
          · intro hg; exact ⟨_, hg, tI_nat y⟩
        exact decide_eq_decide.2 this
      · obtain ⟨z, hz, rfl⟩ := List.mem_map.1 hg
        have := hr z hz
        have h2 := tw_lt (k := k) (c := c) (x := z.toNat) (n := n) (by omega)
        rw [h.len']; unfold tI; omega
end
end Sp
end Go.Proofs.YtalmkaiiffodnaaGreatDoor
namespace Go.Proofs.YtalmkaiiffodnaaGreatDoor
namespace Sp
end Sp
end Go.Proofs.YtalmkaiiffodnaaGreatDoor
namespace Go.Proofs.YtalmkaiiffodnaaGreatDoor
namespace Sp
section
variable {s m : List Int} {L : Int} {n c k : Nat}
end
end Sp
end Go.Proofs.YtalmkaiiffodnaaGreatDoor
namespace Go.Proofs.YtalmkaiiffodnaaGreatDoor
namespace Sp
section
variable {s m : List Int} {L : Int} {n c k : Nat}
end
end Sp
end Go.Proofs.YtalmkaiiffodnaaGreatDoor
