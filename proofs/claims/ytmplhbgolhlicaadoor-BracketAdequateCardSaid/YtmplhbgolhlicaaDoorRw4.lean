/- Arguments: bools and rows of bools. -/
import Derived.Test.YtmplhbgolhlicaaDoorRw1
import Derived.Deep.Grids
set_option linter.unusedSimpArgs false
set_option linter.unusedVariables false
namespace Go.Proofs.YtmplhbgolhlicaaDoor
open Go Go.Joins Go.ChangeShapes Go.WideShapes Go.ChangeAt Go.WideMaps Go.WideElems Go.RowKit
set_option maxRecDepth 100000
section
variable {H : Type} {enc : TypeId × Value → H}
theorem cells_self {w : World} {r : Reach} {b0 t : Nat} {v : Value} (hu : ∀ fs, Tryd.prog.underlying t ≠ some (.struct fs)) (ha : ∀ n e, Tryd.prog.underlying t ≠ some (.array n e)) (hv : Value.okWide Tryd.prog w r b0 t v) : v.cells.toList = [v] := by
  unfold Value.okWide at hv
  split at hv
  · exact absurd ‹_› (hu _)
  · exact absurd ‹_› (ha _ _)
  · unfold Cell.okWide at hv
    cases v <;> first | rfl | (exfalso; split at hv <;> simp_all [Cell.ok])
theorem bl_VR {w : World} {r : Reach} {b0 : Nat} {v : Value} {d : DataW H} {p : List MemPlace} (hv : Value.okWide Tryd.prog w r b0 4 v) (h : DataW.Trod enc Tryd.prog w 0 (fun _ => true) true 4 v d p) :
    ∃ b : Bool, VR w (fun _ => False) ρ0 (fun _ => False) v (.bool b) := by
  obtain ⟨fuel, hf⟩ := h
  obtain ⟨b, hc, _⟩ := DataW.trod_bool Tryd.underlying4 hf
  rw [cells_self (fun fs => by rw [Tryd.underlying4]; simp) (fun n e => by rw [Tryd.underlying4]; simp) hv] at hc
  simp only [List.cons.injEq, and_true] at hc
  subst hc
  exact ⟨b, .bool b⟩
theorem bls_VR {w : World} {r : Reach} {b0 : Nat} {v : Value} {d : DataW H} {p : List MemPlace} (hv : Value.okWide Tryd.prog w r b0 53 v) (h : DataW.Trod enc Tryd.prog w 0 (fun _ => true) true 53 v d p) :
    ∃ st : List Bool, VR w (fun _ => False) ρ0 (fun _ => False) v (roB st) := by
  obtain ⟨fuel, hf⟩ := h
  rw [cells_self (fun fs => by rw [Tryd.underlying53]; simp) (fun n e => by rw [Tryd.underlying53]; simp) hv] at hf
  rcases Deep.open_bools Tryd.underlying53 Tryd.underlying4 (by kernel_rfl) hf with ⟨hc, _⟩ | ⟨a, len, cap, B, hc, _, hl, _, _, hcell⟩
  · simp only [List.cons.injEq, and_true] at hc
    subst hc
    exact ⟨[], .ro 1 0 (.bools []) none 0 (fun _ => undef) rfl (Nat.le_refl _) (by decide) (fun h => absurd h (by decide)) (fun j hj => by simp [Cs.len] at hj)⟩
  · simp only [List.cons.injEq, and_true] at hc
    subst hc
    refine ⟨(List.range len).map B, ?_⟩
    have e : ((List.range len).map B).length = len := by simp
    unfold roB
    rw [e]
    refine .ro 1 len (.bools ((List.range len).map B)) (some a) cap (fun j => .bool (B j)) (by simp [Cs.len]) hl (by decide) (fun h0 => ⟨a, rfl, ?_, fun h => h, fun j hj => ?_⟩) fun j hj => ?_
    · have h1 := hcell 0 (by omega)
      unfold World.cell? at h1
      rw [show (a.add 0) = a from rfl] at h1
      split at h1
      · rename_i hb; exact (Array.getElem?_eq_some_iff.1 hb).1
      · cases h1
    · exact hcell j (by simp [Cs.len] at hj; omega)
    · have hj' : j < len := by simp [Cs.len] at hj; omega
      simp only [Cs.get]
      rw [show ((List.range len).map B).getD j false = B j by simp [hj']]
      exact .bool _
end
end Go.Proofs.YtmplhbgolhlicaaDoor
