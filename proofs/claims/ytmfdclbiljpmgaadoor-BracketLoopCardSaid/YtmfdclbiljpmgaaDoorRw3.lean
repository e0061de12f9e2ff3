/- Arguments, with the bounds of their sizes. -/
import Derived.Test.YtmfdclbiljpmgaaDoorRw1
import Derived.SizedLaws
set_option linter.unusedSimpArgs false
set_option linter.unusedVariables false
namespace Go.Proofs.YtmfdclbiljpmgaaDoor
open Go Go.Joins Go.ChangeShapes Go.WideShapes Go.ChangeAt Go.WideMaps Go.WideElems Go.RowKit
set_option maxRecDepth 100000
section
variable {H : Type} {enc : TypeId × Value → H}
theorem ints_w {w : World} {fuel : Nat} {v : Value} {x : DataW H × List MemPlace} (h : DataW.trod enc Tryd.prog w 0 (fun _ => true) true fuel 22 [v] = some x) (hw : ∀ n ∈ x.1.weights Tryd.prog 22, n ≤ reachBytes) : ∃ s : List Int, VR w (fun _ => False) ρ0 (fun _ => False) v (roI s) ∧ s.length ≤ 140737488351232 := by
  rcases open_ints Tryd.underlying22 Tryd.underlying3 (by kernel_rfl) h with ⟨hc, _⟩ | ⟨a, len, cap, zs, hc, _, hl, _, hz, hx, hcell, _⟩
  · simp only [List.cons.injEq, and_true] at hc
    subst hc
    exact ⟨[], .ro 1 0 (.ints []) none 0 (fun _ => undef) rfl (Nat.le_refl _) (by decide) (fun h => absurd h (by decide)) (fun j hj => by simp [Cs.len] at hj), by decide⟩
  · simp only [List.cons.injEq, and_true] at hc
    subst hc
    simp only [if_true] at hz
    have e : (zs.take len).length = len := by rw [List.length_take]; omega
    refine ⟨zs.take len, ?_, ?_⟩
    rotate_left
    · have hb : Tryd.prog.bytesOf 3 = 8 := by kernel_rfl
      have := hw (((lits .i64 (zs.take len) : List (DataW H)).length + (lits .i64 (zs.drop len) : List (DataW H)).length) * 8) (by rw [hx]; simp only [DataW.weights, Tryd.underlying22, hb]; exact List.mem_cons_self ..)
      unfold reachBytes at this
      simp only [lits, List.length_map] at this
      omega
    unfold roI
    rw [e]
    refine .ro 1 len (.ints (zs.take len)) (some a) cap (fun j => .int .i64 (zs.getD j 0)) (by simp [Cs.len]; omega) hl (by decide) (fun h0 => ⟨a, rfl, ?_, fun h => h, fun j hj => ?_⟩) fun j hj => ?_
    · have h1 := hcell 0 (by omega)
      unfold World.cell? at h1
      rw [show (a.add 0) = a from rfl] at h1
      split at h1
      · rename_i hb; exact (Array.getElem?_eq_some_iff.1 hb).1
      · cases h1
    · exact hcell j (by simp [Cs.len] at hj; omega)
    · have hj' : j < len := by simp [Cs.len] at hj; omega
      simp only [Cs.get]
      rw [show (zs.take len).getD j 0 = zs.getD j 0 by simp [List.getD_eq_getElem?_getD, List.getElem?_take, hj']]
      exact .int _ _
theorem dg_w {w : World} {r : Reach} {b0 : Nat} {v : Value} {d : DataW H} {p : List MemPlace} (hv : Value.okWide Tryd.prog w r b0 24 v) (h : DataW.Trod enc Tryd.prog w 0 (fun _ => true) true 24 v d p) (hw : ∀ n ∈ d.weights Tryd.prog 24, n ≤ reachBytes) :
    ∃ (s m : List Int) (L : Int), VR w (fun _ => False) ρ0 (fun _ => False) v (dgA s m L) ∧ s.length ≤ 140737488351232 ∧ m.length ≤ 140737488351232 := by
  obtain ⟨v0, v1, v2, y0, y1, y2, n, rfl, hd, _, h0, h1, h2⟩ := open_agg3 Tryd.underlying24 (by kernel_rfl) (by kernel_rfl) hv h
  obtain ⟨s, hs, bs⟩ := ints_w h0 (fun n hn => hw n (by rw [hd]; simp only [DataW.weights, Tryd.underlying24]; exact DataW.weights_mem_each (j := 0) rfl rfl n hn))
  obtain ⟨m, hm, bm⟩ := ints_w h1 (fun n hn => hw n (by rw [hd]; simp only [DataW.weights, Tryd.underlying24]; exact DataW.weights_mem_each (j := 1) rfl rfl n hn))
  obtain ⟨L, e, _⟩ := DataW.trod_int Tryd.underlying3 h2
  simp only [List.cons.injEq, and_true] at e
  subst e
  refine ⟨s, m, L, .agg [v0, v1, .int .i64 L] [roI s, roI m, I L] rfl fun i u x hu hx => ?_, bs, bm⟩
  match i, hu, hx with
  | 0, hu, hx => simp at hu hx; subst hu hx; exact hs
  | 1, hu, hx => simp at hu hx; subst hu hx; exact hm
  | 2, hu, hx => simp at hu hx; subst hu hx; exact .int _ _
end
end Go.Proofs.YtmfdclbiljpmgaaDoor
