/- The author's own program logic: small facts; two objects change their numbers. -/
import Derived.Test.YtebdkebfkpbmpaaGreatDoorTy
set_option linter.unusedSimpArgs false
set_option linter.unusedVariables false
namespace Go.Proofs.YtebdkebfkpbmpaaGreatDoor
open Go Go.RowKit
theorem y56 {x : AV} (H : Hp) (n : Nat) (h : p1 x = true) : snap H (n + 1) x = x := by cases x <;> first | rfl | cases h
theorem y18 {x : AV} (H : Hp) (n : Nat) (h : p1 x = true) : yao H (n + 1) x := by cases x <;> first | trivial | cases h
theorem y8h {x : AV} (H : Hp) (n : Nat) (h : p1 x = true) : frzV H (n + 1) x = x := by cases x <;> first | rfl | cases h
theorem y57 {x : AV} (H : Hp) (n : Nat) (h : p1 x = true) : frzP H (n + 1) x := by cases x <;> first | trivial | cases h
section
variable {c : List AV} (h : c.all p1 = true)
include h
theorem ytn (H : Hp) (n : Nat) : c.map (snap H (n + 1)) = c := by
 conv => rhs; rw [← List.map_id c]
 exact List.map_congr_left fun x hx => y56 H n (List.all_eq_true.1 h x hx)
theorem yqv (H : Hp) (n : Nat) : (∀ x ∈ c, yao H (n + 1) x) = True := eq_true fun x hx => y18 H n (List.all_eq_true.1 h x hx)
theorem yyb (H : Hp) (n : Nat) : c.map (frzV H (n + 1)) = c := by
 conv => rhs; rw [← List.map_id c]
 exact List.map_congr_left fun x hx => y8h H n (List.all_eq_true.1 h x hx)
theorem yto (H : Hp) (n : Nat) : (∀ x ∈ c, frzP H (n + 1) x) = True := eq_true fun x hx => y57 H n (List.all_eq_true.1 h x hx)
end
end Go.Proofs.YtebdkebfkpbmpaaGreatDoor
namespace Go.Proofs.YtebdkebfkpbmpaaGreatDoor
open Go Go.RowKit
def swI (i j n : Nat) : Nat := if n = i then j else if n = j then i else n
theorem ydv (i j n : Nat) : swI i j (swI i j n) = n := by
 unfold swI
 by_cases h1 : n = i
 ·rw [if_pos h1]
  by_cases h2 : j = i
  ·rw [if_pos h2]; omega
  ·rw [if_neg h2, if_pos rfl]; omega
 ·rw [if_neg h1]
  by_cases h2 : n = j
  ·rw [if_pos h2, if_pos rfl]; omega
  ·rw [if_neg h2, if_neg h1, if_neg h2]
def swV (i j : Nat) : Nat -> AV -> AV
 | 0, x => if p1 x then x else .any
 | n + 1, x => match x with
   | .sl es id off len => .sl es (swI i j id) off len
   | .ptr id off => .ptr (swI i j id) off
   | .mp id => .mp (swI i j id)
   | .agg xs => .agg (xs.map (swV i j n))
   | .tup xs => .tup (xs.map (swV i j n))
   | .fn f xs => .fn f (xs.map (swV i j n))
   | x => x
def swO (i j : Nat) : AObj -> AObj
 | .cells t (.lst l) => .cells t (.lst (l.map (swV i j 4)))
 | .imap t l => .imap t (l.map fun q => (q.1, swV i j 4 q.2))
 | .gmap t ck l => .gmap t ck (l.map fun q => (q.1, q.2.1, swV i j 4 q.2.2))
 | .iter m s sn la => .iter (swI i j m) s sn la
 | o => o
def swH (i j : Nat) : Hp -> Hp
 | [] => []
 | (k, o) :: r => (swI i j k, swO i j o) :: swH i j r
def swF (i j : Nat) : Fr -> Fr
 | [] => []
 | (t, x) :: r => (t, swV i j 4 x) :: swF i j r
theorem yh6 (i j : Nat) : ∀ (H : Hp) (k : Nat), hget (swH i j H) (swI i j k) = (hget H k).map (swO i j)
 | [], k => rfl
 | (n, o) :: r, k => by
   simp only [swH, hget]
   by_cases e : n = k
   ·subst e; simp
   ·have : ¬ swI i j n = swI i j k := fun h => e (by have := congrArg (swI i j) h; rwa [ydv, ydv] at this)
    rw [if_neg this, if_neg e]; exact yh6 i j r k
theorem yov (i j : Nat) (H : Hp) (k : Nat) : hget (swH i j H) k = (hget H (swI i j k)).map (swO i j) := by
 have := yh6 i j H (swI i j k); rwa [ydv] at this
theorem yk6 (i j : Nat) : ∀ (fr : Fr) (t : Nat), fget (swF i j fr) t = swV i j 4 (fget fr t)
 | [], t => rfl
 | (s, x) :: r, t => by
   simp only [swF, fget]
   split
   ·rfl
   ·exact yk6 i j r t
theorem yf2 (i j : Nat) (o : AObj) : (swO i j o).live = o.live := by unfold swO; split <;> rfl
theorem y3u {w : World} {M : Nat -> Prop} {ρ ρ' : Nat -> Addr} {D D' : Nat -> Prop} {i j : Nat} (hD : ∀ k, D k -> D' (swI i j k) /\ ρ' (swI i j k) = ρ k) : ∀ (n : Nat) (v : Value) (x : AV), VR w M ρ D v x -> VR w M ρ' D' v (swV i j n x) := by
 intro n
 induction n with
 | zero =>
   intro v x hv
   simp only [swV]
   split
   ·rename_i hp; exact hv.pure1 hp
   ·exact .any _
 | succ n ih =>
   intro v x hv
   cases hv with
   | any v => exact .any _
   | int k m => exact .int _ _
   | bool b => exact .bool _
   | str s => exact .str _
   | nils => exact .nils
   | mp id hd => obtain ⟨h1, h2⟩ := hD id hd; simp only [swV]; rw [← h2]; exact .mp _ h1
   | ro es len c ad cap x hl hc he h0 hv => exact VR.pure1 (VR.ro (D := D) es len c ad cap x hl hc he h0 hv) rfl
   | rp c off b x hb hm hj hv => exact VR.pure1 (VR.rp (D := D) c off b x hb hm hj hv) rfl
   | ptr id off hd => obtain ⟨h1, h2⟩ := hD id hd; simp only [swV]; rw [← h2]; exact .ptr _ _ h1
   | sl es id off len cap hd hc arr t ad ha hb hr =>
     obtain ⟨h1, h2⟩ := hD id hd
     exact .sl es (swI i j id) off len cap h1 hc arr t ad (fun h => by rw [h2]; exact ha h) (by rw [h2]; exact hb) (by rw [h2]; exact hr)
   | agg vs xs hl hx =>
     simp only [swV]
     refine .agg vs _ (by simp [hl]) fun k u y hu hy => ?_
     simp only [List.getElem?_map] at hy
     obtain ⟨y', g1, rfl⟩ := Option.map_eq_some_iff.1 hy
     exact ih u y' (hx k u y' hu g1)
   | tup vs xs hl hx =>
     simp only [swV]
     refine .tup vs _ (by simp [hl]) fun k u y hu hy => ?_
     simp only [List.getElem?_map] at hy
     obtain ⟨y', g1, rfl⟩ := Option.map_eq_some_iff.1 hy
     exact ih u y' (hx k u y' hu g1)
   | fn f vs xs hl hx =>
     simp only [swV]
     refine .fn f vs _ (by simp [hl]) fun k u y hu hy => ?_
     simp only [List.getElem?_map] at hy
     obtain ⟨y', g1, rfl⟩ := Option.map_eq_some_iff.1 hy
     exact ih u y' (hx k u y' hu g1)
theorem y58 {w : World} {M : Nat -> Prop} {ρ ρ' : Nat -> Addr} {D D' : Nat -> Prop} {i j : Nat} (hD : ∀ k, D k -> D' (swI i j k) /\ ρ' (swI i j k) = ρ k) {k : Nat} {o : AObj} (hi : D k) (h : ObjR w M ρ D k o) : ObjR w M ρ' D' (swI i j k) (swO i j o) := by
 have hr := y3u (w := w) (M := M) (ρ' := ρ') (D' := D') hD
 have he := (hD k hi).2
 cases o with
 | gone => trivial
 | cells t c =>
   obtain ⟨e1, arr, e2, e3, e4⟩ := h
   cases c with
   | ints l => exact ⟨by rw [he]; exact e1, arr, by rw [he]; exact e2, by rw [he]; exact e3, fun j hj => let ⟨u, hu, hx⟩ := e4 j hj; ⟨u, by rw [he]; exact hu, hx.pure1 rfl⟩⟩
   | bools l => exact ⟨by rw [he]; exact e1, arr, by rw [he]; exact e2, by rw [he]; exact e3, fun j hj => let ⟨u, hu, hx⟩ := e4 j hj; ⟨u, by rw [he]; exact hu, hx.pure1 rfl⟩⟩
   | lst l =>
     refine ⟨by rw [he]; exact e1, arr, by rw [he]; exact e2, by rw [he]; simpa [swO, Cs.len] using e3, fun n hj => ?_⟩
     simp only [Cs.len, List.length_map] at hj
     obtain ⟨u, hu, hx⟩ := e4 n hj
     refine ⟨u, by rw [he]; exact hu, ?_⟩
     simp only [Cs.get, List.getD_eq_getElem?_getD, List.getElem?_eq_getElem hj, Option.getD_some] at hx
     have := hr 4 u _ hx
     simpa [Cs.get, hj] using this
 | fmap t c =>
   obtain ⟨k0, es, ck, k1, k2⟩ := h
   exact ⟨k0, es, ck, by rw [he]; exact k1, k2⟩
 | gmap t ck l =>
   obtain ⟨es, k1, k2, k3⟩ := h
   refine ⟨es, by rw [he]; exact k1, by simpa using k2, fun j e q h1 h2 => ?_⟩
   simp only [List.getElem?_map] at h2
   obtain ⟨q', g1, g2⟩ := Option.map_eq_some_iff.1 h2
   cases g2
   obtain ⟨g3, g4, g5⟩ := k3 j e q' h1 g1
   exact ⟨g3, g4, hr 4 _ _ g5⟩
 | iter mid s sn la =>
   obtain ⟨k1, k2, k3⟩ := h
   obtain ⟨d1, d2⟩ := hD mid k1
   exact ⟨d1, by rw [he]; exact k2, by rw [he, d2]; exact k3⟩
 | imap t l =>
   obtain ⟨k0, es, ck, k1, k2, k3⟩ := h
   refine ⟨fun k x hx => ?_, es, ck, by rw [he]; exact k1, by simpa using k2, fun j e k x h1 h2 => ?_⟩
   ·obtain ⟨q, g1, g2⟩ := List.mem_map.1 hx
    cases g2
    have := k0 q.1 q.2 g1
    cases hq : q.2 <;> rw [hq] at this <;> first | (cases this; done) | rfl
   simp only [List.getElem?_map] at h2
   obtain ⟨q, g1, g2⟩ := Option.map_eq_some_iff.1 h2
   cases g2
   obtain ⟨g3, g4, g5⟩ := k3 j e q.1 q.2 h1 g1
   exact ⟨g3, hr 4 _ _ g4, g5⟩
section
variable {B : Nat} {w0 : ybd} {Mx : Nat -> Prop} {N : Nat} {w : World} {ρ : Nat -> Addr} {fr : Fr} {H : Hp} {a : Act}
theorem Sim.swap (h : Sim B w0 Mx N w ρ fr H a) (i j : Nat) : Sim B w0 Mx N w (fun k => ρ (swI i j k)) (swF i j fr) (swH i j H) a := by
 have hg : ∀ k o, hget (swH i j H) k = some o -> ∃ o', hget H (swI i j k) = some o' /\ o = swO i j o' := fun k o hk => by
  rw [yov] at hk
  obtain ⟨o', h1, h2⟩ := Option.map_eq_some_iff.1 hk
  exact ⟨o', h1, h2.symm⟩
 have hM : MM Mx (swH i j H) (fun k => ρ (swI i j k)) = MM Mx H ρ := by
  funext b
  apply propext
  constructor
  ·rintro (g | ⟨id, o, g1, g2, g3⟩)
   ·exact .inl g
   ·obtain ⟨o', k1, rfl⟩ := hg id o g1
    exact .inr ⟨_, o', k1, by rw [yf2] at g2; exact g2, g3⟩
  ·rintro (g | ⟨id, o, g1, g2, g3⟩)
   ·exact .inl g
   ·exact .inr ⟨swI i j id, swO i j o, by rw [yh6, g1]; rfl, by rw [yf2]; exact g2, by show (ρ (swI i j (swI i j id))).block = b; rw [ydv]; exact g3⟩
 have hD : ∀ k, DD H k -> DD (swH i j H) (swI i j k) /\ (fun k => ρ (swI i j k)) (swI i j k) = ρ k := fun k ⟨o, ho⟩ => ⟨⟨swO i j o, by rw [yh6, ho]; rfl⟩, by show ρ (swI i j (swI i j k)) = ρ k; rw [ydv]⟩
 refine ⟨h.below, h.hB, h.mx, fun id o ho hl => ?_, fun id o ho => ?_, fun id o id' o' ho hl ho' hl' e => ?_, fun t => ?_, h.defers, h.size⟩
 ·obtain ⟨o', k1, rfl⟩ := hg id o ho
  exact h.own _ o' k1 (by rw [yf2] at hl; exact hl)
 ·obtain ⟨o', k1, rfl⟩ := hg id o ho
  have := y58 (w := w) (M := MM Mx H ρ) (ρ' := fun k => ρ (swI i j k)) hD ⟨o', k1⟩ (h.objs _ o' k1)
  rw [ydv] at this
  rw [hM]; exact this
 ·obtain ⟨q, k1, rfl⟩ := hg id o ho
  obtain ⟨q', k1', rfl⟩ := hg id' o' ho'
  have := h.inj _ q _ q' k1 (by rw [yf2] at hl; exact hl) k1' (by rw [yf2] at hl'; exact hl') e
  have := congrArg (swI i j) this
  rwa [ydv, ydv] at this
 ·rw [hM, yk6]
  exact y3u hD 4 _ _ (h.frv t)
end
theorem Wk.swap (i j : Nat) (fr : Fr) (H : Hp) : Wk fr H (swF i j fr) (swH i j H) := fun _ _ _ _ _ ρ _ hs => ⟨fun k => ρ (swI i j k), hs.swap i j⟩
theorem Wk.subS (i j : Nat) {fr fr' fr1 : Fr} {H H' H1 : Hp} (e1 : swF i j fr' = fr1) (e2 : swH i j H' = H1) (e3 : swF i j fr1 = fr') (e4 : swH i j H1 = H') (hf : subF fr H1 fr1) (hh : subH H H1 H1) : Wk fr H fr' H' := by
 have := (Wk.sub hf hh).trans (Wk.swap i j fr1 H1)
 rwa [e3, e4] at this
attribute [go_sem] swI swV swO swH swF
end Go.Proofs.YtebdkebfkpbmpaaGreatDoor
