/- Layer 15: the bracket of the chapter's examples. -/
import Derived.Test.YtalmkaiiffodnaaGreatDoorBr8
set_option linter.unusedSimpArgs false
set_option linter.unusedVariables false
namespace Go.Proofs.YtalmkaiiffodnaaGreatDoor
open Go Go.RowKit
set_option maxRecDepth 100000
theorem brP_of {s m : List Int} {L : Nat} (hv : validB s m L = true) (hs : s.length ≤ 9) (hL : L ≤ 20) {p : List (Int × Int)} (ha : AscN p) (N : Nat) (hN : 5 * s.length + 2 * L ≤ N + 2) (hp : ∀ t ∈ p, -(N : Int) ≤ t.1 ∧ t.1 ≤ N)
    (h : ((List.range (2 * N + 1)).all fun i => decide (cfL p ((i : Int) - N) = brT m s.length L 1 ((i : Int) - N))) = true) : brP m s.length L = p := by
  have hq := pmOk hv
  have h1 := cirS_max hq (fun _ => true)
  have h2 := cirS_max hq (fun _ => false)
  have : PolyB p (brT m s.length L 1) := ⟨ha, fun e => by
    by_cases he : -(N : Int) ≤ e ∧ e ≤ N
    · have := List.all_eq_true.1 h (e + N).toNat (List.mem_range.2 (by omega))
      rw [decide_eq_true_iff, show (((e + (N : Int)).toNat : Nat) : Int) - N = e by omega] at this
      exact this
    · rw [cfL_none fun t ht => by have := hp t ht; omega]
      by_cases h0 : brT m s.length L 1 e = 0
      · exact h0.symm
      · have := brT_supp hq h0
        omega⟩
  exact (this.eq fun e he => brT_sup hq hs hL (by omega) he).symm
theorem ex1_br : Fn Tryz.prog 7 [dgA [1] [1, 0, 3, 2] 0] (.tup [plA false [(3, -1)], I 0]) := by
  have hv : validB [1] [1, 0, 3, 2] 0 = true := by decide +kernel
  have h := fn_Bracket [1] [1, 0, 3, 2] 0 hv (by decide) (by decide) (by decide)
  rw [brP_of (s := [1]) (m := [1, 0, 3, 2]) (L := 0) hv (by decide) (by decide) (p := [(3, -1)]) ⟨by decide, by decide⟩ 4 (by decide) (by decide) (by decide +kernel)] at h
  exact h
theorem ex3_br : Fn Tryz.prog 7 [dgA [1, 1, 1] [9, 4, 7, 10, 1, 8, 11, 2, 5, 0, 3, 6] 0] (.tup [plA false [(-7, 1), (-3, -1), (5, -1)], I 0]) := by
  have hv : validB [1, 1, 1] [9, 4, 7, 10, 1, 8, 11, 2, 5, 0, 3, 6] 0 = true := by decide +kernel
  have h := fn_Bracket [1, 1, 1] [9, 4, 7, 10, 1, 8, 11, 2, 5, 0, 3, 6] 0 hv (by decide) (by decide) (by decide)
  rw [brP_of (s := [1, 1, 1]) (m := [9, 4, 7, 10, 1, 8, 11, 2, 5, 0, 3, 6]) (L := 0) hv (by decide) (by decide) (p := [(-7, 1), (-3, -1), (5, -1)]) ⟨by decide, by decide⟩ 14 (by decide) (by decide) (by decide +kernel)] at h
  exact h
end Go.Proofs.YtalmkaiiffodnaaGreatDoor
