/- A frame may say less. -/
import Derived.Test.YtebdkebfkpbmpaaGreatDoorGd
set_option linter.unusedSimpArgs false
set_option linter.unusedVariables false
namespace Go.Proofs.YtebdkebfkpbmpaaGreatDoor
open Go Go.RowKit
inductive LeFr : Fr -> Fr -> Prop
 | nil : LeFr [] []
 | cons {i : Nat} {x y : AV} {fr fr' : Fr} : LeA x y -> LeFr fr fr' -> LeFr ((i, x) :: fr) ((i, y) :: fr')
theorem LeFr.refl : ∀ fr : Fr, LeFr fr fr
 | [] => .nil
 | (_, x) :: fr => .cons (LeA.refl x) (LeFr.refl fr)
theorem LeFr.get {fr fr' : Fr} (h : LeFr fr fr') (t : Nat) : LeA (fget fr t) (fget fr' t) := by
 induction h with
 | nil => exact LeA.refl _
 | cons h1 _ ih =>
   simp only [fget]
   split
   ·exact h1
   ·exact ih
theorem Wk.le {fr fr' : Fr} {H : Hp} (h : LeFr fr fr') : Wk fr H fr' H := fun _ _ _ _ _ ρ _ hs => ⟨ρ, hs.reslot fun t => (h.get t).out _ _ _ _ _ (hs.frv t)⟩
theorem yo6 (H : Hp) (i j : Nat) : hget (H ++ [(i, .gone)]) j = match hget H j with | some o => some o | none => if i = j then some .gone else none := by
 induction H with
 | nil => simp [hget]
 | cons p H ih =>
   obtain ⟨k, o⟩ := p
   rw [List.cons_append]
   simp only [hget]
   by_cases e : k = j
   ·rw [if_pos e, if_pos e]
   ·rw [if_neg e, if_neg e]; exact ih
theorem Wk.gone {fr : Fr} {H : Hp} (i : Nat) (h : hget H i = none) : Wk fr H fr (H ++ [(i, .gone)]) := by
 intro B w0 Mx N w ρ a hs
 have up : ∀ j o, hget H j = some o -> hget (H ++ [(i, .gone)]) j = some o := fun j o hj => by rw [yo6, hj]
 have dn : ∀ j o, hget (H ++ [(i, .gone)]) j = some o -> o = .gone \/ hget H j = some o := fun j o hj => by
  rw [yo6] at hj
  cases hq : hget H j with
  | some o' => rw [hq] at hj; exact .inr hj
  | none =>
    rw [hq] at hj
    simp only at hj
    split at hj
    ·cases hj; exact .inl rfl
    ·cases hj
 have dl : ∀ j o, hget (H ++ [(i, .gone)]) j = some o -> o.live = true -> hget H j = some o := fun j o hj hl => by
  rcases dn j o hj with rfl | h2
  ·cases hl
  ·exact h2
 have hM : ∀ b, ¬ MM Mx H ρ b -> ¬ MM Mx (H ++ [(i, .gone)]) ρ b := fun b hn hm => hn (by
  rcases hm with h1 | ⟨id, o, h1, h2, h3⟩
  ·exact .inl h1
  ·exact .inr ⟨id, o, dl id o h1 h2, h2, h3⟩)
 have hc : ∀ {v : Value} {x : AV}, VR w (MM Mx H ρ) ρ (DD H) v x -> VR w (MM Mx (H ++ [(i, .gone)]) ρ) ρ (DD (H ++ [(i, .gone)])) v x := fun hv =>
  hv.carry (Nat.le_refl _) (fun b _ hm => ⟨rfl, hM b hm⟩) (fun id hd => ⟨let ⟨o, ho⟩ := hd; ⟨o, up id o ho⟩, rfl, fun arr t ha => ⟨arr, ha, rfl⟩⟩)
 refine ⟨ρ, hs.below, hs.hB, hs.mx, fun id o h1 h2 => hs.own id o (dl id o h1 h2) h2, fun id o h1 => ?_, fun id o id' o' h1 h2 h3 h4 h5 => hs.inj id o id' o' (dl _ _ h1 h2) h2 (dl _ _ h3 h4) h4 h5, fun t => hc (hs.frv t), hs.defers, hs.size⟩
 rcases dn id o h1 with rfl | h2
 ·trivial
 have hr := hs.objs id o h2
 cases o with
 | gone => trivial
 | cells t c =>
   obtain ⟨g1, arr, g2, g3, g4⟩ := hr
   exact ⟨g1, arr, g2, g3, fun j hj => let ⟨u, hu, hv⟩ := g4 j hj; ⟨u, hu, hc hv⟩⟩
 | gmap t ck l =>
   obtain ⟨es, g1, g2, g3⟩ := hr
   exact ⟨es, g1, g2, fun j e' q he hl => let ⟨k1, k2, k3⟩ := g3 j e' q he hl; ⟨k1, k2, hc k3⟩⟩
 | iter mid s sn la =>
   obtain ⟨g1, g2, g3⟩ := hr
   obtain ⟨om, hom⟩ := g1
   exact ⟨⟨om, up mid om hom⟩, g2, g3⟩
 | imap t l =>
   obtain ⟨g0, es, ck, g1, g2, g3⟩ := hr
   exact ⟨g0, es, ck, g1, g2, fun j e' k x he hl => let ⟨k1, k2, k3⟩ := g3 j e' k x he hl; ⟨k1, hc k2, k3⟩⟩
 | fmap t c => exact hr
end Go.Proofs.YtebdkebfkpbmpaaGreatDoor
set_option linter.unusedSimpArgs false
set_option linter.unusedVariables false
namespace Go.Proofs.YtebdkebfkpbmpaaGreatDoor
open Go Go.RowKit
theorem Fn.args {P : Program} {f : Nat} {xs ys : List AV} {r : AV} (h : Fn P f ys r) (hl : LeL xs ys) : Fn P f xs r :=
 ⟨h.1, fun w Mx vs hm hlen hv => h.2 w Mx vs hm (hlen.trans hl.len) fun i v y hi hy => by
  obtain ⟨x, hx⟩ : ∃ x, xs[i]? = some x := by
   have : i < ys.length := (List.getElem?_eq_some_iff.1 hy).1
   exact ⟨_, List.getElem?_eq_getElem (by rw [hl.len]; exact this)⟩
  exact (hl.get i x y hx hy).out _ _ _ _ v (hv i v x hi hx)⟩
end Go.Proofs.YtebdkebfkpbmpaaGreatDoor
