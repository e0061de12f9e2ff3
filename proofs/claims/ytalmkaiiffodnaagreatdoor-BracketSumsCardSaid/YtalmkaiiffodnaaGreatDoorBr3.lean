/- Layer 15: the bracket of the chapter's examples. -/
import Derived.Test.YtalmkaiiffodnaaGreatDoorBr2
import Derived.Test.YtalmkaiiffodnaaGreatDoorOf1
import Derived.Test.YtalmkaiiffodnaaGreatDoorXb
set_option linter.unusedSimpArgs false
set_option linter.unusedVariables false
namespace Go.Proofs.YtalmkaiiffodnaaGreatDoor
open Go Go.RowKit
set_option maxHeartbeats 8000000
set_option maxRecDepth 100000
theorem land1 (x : Nat) (h : x < 9223372036854775808) : land64 (x : Int) 1 = ((x % 2 : Nat) : Int) := by
  unfold land64
  have h1 : (BitVec.ofInt 64 (x : Int) &&& BitVec.ofInt 64 1).toNat = x % 2 := by
    rw [BitVec.toNat_and]
    have e1 : (BitVec.ofInt 64 (x : Int)).toNat = x := by simp [BitVec.toNat_ofInt]; omega
    have e2 : (BitVec.ofInt 64 1).toNat = 1 := by decide
    rw [e1, e2, Nat.and_one_is_mod]
  rw [h1]
  exact wrap_InI (by unfold InI; omega)
theorem fn_chB (b c : Nat) (hb : b ≤ 100000) (hc : c ≤ 60) : Fn Tryz.prog 25 [I c, .rp (.lst [I b]) 0] (.bool (chB b c)) := by
  have e0 : (b : Int) / 2 ^ c = ((b / 2 ^ c : Nat) : Int) := by simp
  have hlt : b / 2 ^ c ≤ b := Nat.div_le_self _ _
  have e1 := land1 (b / 2 ^ c) (by omega)
  have e2 : (((b / 2 ^ c % 2 : Nat) : Int) == 1) = chB b c := by
    unfold chB
    by_cases h : b / 2 ^ c % 2 = 1
    · simp [h]
    · have : ((b / 2 ^ c % 2 : Nat) : Int) ≠ 1 := by omega
      rw [beq_eq_false_iff_ne.2 this, beq_eq_false_iff_ne.2 h]
  refine Fn.intro [.tmp 3] Tryz.func25 rfl rfl (by decide) (by simp [Tryz.ntmps25]) ?_; rw [Tryz.ntmps25]
  repeat' (first | omega | ((first | refine awC_sound _ _ _ _ ?_ | skip); simp only [go_sem, sevalprocAttr, ↓reduceIte, reduceCtorEq, e0, e1, e2, Int.toNat_natCast]) | (refine gspDI ?_ ?_ <;> (intro _hh; (try simp only [_hh]); revert _hh)) | refine gspLI ?_ ?_ | refine condLI ?_ ?_ | refine gspI ?_ ?_ | refine And.intro ?_ ?_ | with_reducible intro _hh | trivial | (simp only [cl1, cl2, cl3, List.length_cons, List.length_nil, List.length_append]; omega))
theorem fn_OfD : Fn Tryz.prog 26 [I (-2), .ro 1 5 (.ints [-1, 0, 0, 0, -1])] (plA false [(-2, -1), (2, -1)]) := by
  have h := fn_Of (-2) [-1, 0, 0, 0, -1] (by decide) (by decide) (by decide)
  rw [show tmI (-2) [-1, 0, 0, 0, -1] = [(-2, -1), (2, -1)] by decide] at h
  exact h
theorem fn_Mul0n (q : List (Int × Int)) : Fn Tryz.prog 27 [.agg [.bool false, .nils], plA false q] (plA false []) := by
  refine Fn.introL [.cell 4 29] Tryz.func27 rfl rfl (by decide) (by simp [Tryz.ntmps27]) ?_; rw [Tryz.ntmps27]
  repeat' (first | omega | ((first | refine awC_sound _ _ _ _ ?_ | skip); simp only [go_sem, sevalprocAttr, ↓reduceIte, reduceCtorEq]) | (refine gspDI ?_ ?_ <;> (intro _hh; (try simp only [_hh]); revert _hh)) | refine gspLI ?_ ?_ | refine condLI ?_ ?_ | refine gspI ?_ ?_ | refine And.intro ?_ ?_ | with_reducible intro _hh | trivial | (simp only [cl1, cl2, cl3, List.length_cons, List.length_nil, List.length_append]; omega))
  all_goals exact LeA.aggL (.cons (LeA.refl _) (.cons (LeA.nils (by omega) rfl) .nil))
end Go.Proofs.YtalmkaiiffodnaaGreatDoor
