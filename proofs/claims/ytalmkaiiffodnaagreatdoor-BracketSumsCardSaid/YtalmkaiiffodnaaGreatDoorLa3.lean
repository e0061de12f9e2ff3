/- Layer 12: sum, negative, shift, Of. -/
import Derived.Test.YtalmkaiiffodnaaGreatDoorLa2
set_option linter.unusedSimpArgs false
set_option linter.unusedVariables false
namespace Go.Proofs.YtalmkaiiffodnaaGreatDoor
open Go Go.RowKit
set_option maxRecDepth 100000
set_option maxHeartbeats 8000000
theorem fn_Add1 (a b : Int) (h1 : -1125899906842624 ≤ a) (h2 : a ≤ 1125899906842624) (h3 : -1125899906842624 ≤ b) (h4 : b ≤ 1125899906842624) : Fn Tryz.prog 65 [I a, I b] (I (addF a b)) := by
  unfold addF
  refine Fn.intro [.tmp 4] Tryz.func65 rfl rfl (by decide) (by simp [Tryz.ntmps65]) ?_; rw [Tryz.ntmps65]
  repeat' (first | omega | ((first | refine awC_sound _ _ _ _ ?_ | skip); simp only [go_sem, sevalprocAttr, ↓reduceIte, reduceCtorEq]) | (refine gspDI ?_ ?_ <;> (intro _hh; (try simp only [_hh]); revert _hh)) | refine gspLI ?_ ?_ | refine condLI ?_ ?_ | refine gspI ?_ ?_ | refine And.intro ?_ ?_ | with_reducible intro _hh | trivial | (simp only [cl1, cl2, cl3, List.length_cons, List.length_nil, List.length_append]; omega))
theorem fn_Add (p q : List (Int × Int)) (hp : cfits p) (hq : cfits q) (hpl : p.length ≤ 500000) (hql : q.length ≤ 500000) (hok : cmbOk (mrg addF p q) = true) : Fn Tryz.prog 28 [plA false p, plA false q] (plA false (nz (mrg addF p q))) := by
  have hc := fn_combine p q 65 addF hp hq hpl hql (fun a b h1 h2 h3 h4 => fn_Add1 a b h1 h2 h3 h4)
  rw [if_pos hok] at hc
  refine Fn.intro [.cell 4 29] Tryz.func28 rfl rfl (by decide) (by simp [Tryz.ntmps28]) ?_; rw [Tryz.ntmps28]
  repeat' (first | omega | ((first | refine awC_sound _ _ _ _ ?_ | skip); simp only [go_sem, sevalprocAttr, ↓reduceIte, reduceCtorEq]) | (refine gspDI ?_ ?_ <;> (intro _hh; (try simp only [_hh]); revert _hh)) | refine gspLI ?_ ?_ | refine condLI ?_ ?_ | refine gspI ?_ ?_ | refine And.intro ?_ ?_ | with_reducible intro _hh | trivial | (simp only [cl1, cl2, cl3, List.length_cons, List.length_nil, List.length_append]; omega))
  refine ⟨CallB.fn rfl hc ?_⟩
  repeat' (first | omega | ((first | refine awC_sound _ _ _ _ ?_ | skip); simp only [go_sem, sevalprocAttr, ↓reduceIte, reduceCtorEq]) | (refine gspDI ?_ ?_ <;> (intro _hh; (try simp only [_hh]); revert _hh)) | refine gspLI ?_ ?_ | refine condLI ?_ ?_ | refine gspI ?_ ?_ | refine And.intro ?_ ?_ | with_reducible intro _hh | trivial | (simp only [cl1, cl2, cl3, List.length_cons, List.length_nil, List.length_append]; omega))
end Go.Proofs.YtalmkaiiffodnaaGreatDoor
