/- Layer 17: the law TransferOrders. -/
import Derived.Test.YtebdkebfkpbmpaaDoorAwt
import Derived.Test.YtebdkebfkpbmpaaDoorRo2
import Derived.Test.YtebdkebfkpbmpaaDoorRf9
namespace Go.Proofs.YtebdkebfkpbmpaaDoor
open Go Go.RowKit
set_option maxRecDepth 100000
set_option maxHeartbeats 8000000
set_option linter.unusedVariables false
set_option linter.unusedSimpArgs false
theorem fn_TransferOrders (s m : List Int) (L : Int) (o : List Int) : Fn Tryd.prog 3 [dgA s m L, roI o] (.bool true) := by
  have hA := fn_awake17
  by_cases h1 : s.length ≤ 30 ∧ m.length ≤ 120 ∧ o.length ≤ 40
  · obtain ⟨h1, h2, h3⟩ := h1
    have b1 : decide ((30 : Int) < s.length) = false := by rw [decide_eq_false_iff_not]; omega
    have b2 : decide ((120 : Int) < m.length) = false := by rw [decide_eq_false_iff_not]; omega
    have b3 : decide ((40 : Int) < o.length) = false := by rw [decide_eq_false_iff_not]; omega
    have hO := fn_Order s m L (by omega)
    have hW := fn_Width s m L o (by omega) (by omega)
    have hV := fn_rValid s m L
    unfold widA at hW
    cases hv : validB s m L with
    | false =>
      rw [hv] at hV
      rw [if_neg (by simp [hv])] at hO hW
      refine Fn.intro [.tmp 4] Tryd.func3 rfl rfl (by decide) (by simp [Tryd.ntmps3]) ?_; rw [Tryd.ntmps3]
      repeat' (first | omega | ((try refine awC_sound _ _ _ _ ?_); simp only [go_sem, sevalprocAttr, ↓reduceIte, reduceCtorEq]) | (apply gspDI <;> (intro h_; (try simp only [h_]); revert h_)) | apply gspLI | apply condLI | apply gspI | apply And.intro | with_reducible intro h_ | trivial | (simp only [go_sem, List.length_append]; omega))
      refine ⟨CallB.fn rfl hA ?_⟩
      repeat' (first | omega | ((try refine awC_sound _ _ _ _ ?_); simp only [go_sem, sevalprocAttr, ↓reduceIte, reduceCtorEq, b1, b2, b3]) | (apply gspDI <;> (intro h_; (try simp only [h_]); revert h_)) | apply gspLI | apply condLI | apply gspI | apply And.intro | with_reducible intro h_ | trivial | (simp only [go_sem, List.length_append]; omega))
      refine ⟨CallB.fn rfl hO ?_⟩
      repeat' (first | omega | ((try refine awC_sound _ _ _ _ ?_); simp only [go_sem, sevalprocAttr, ↓reduceIte, reduceCtorEq]) | (apply gspDI <;> (intro h_; (try simp only [h_]); revert h_)) | apply gspLI | apply condLI | apply gspI | apply And.intro | with_reducible intro h_ | trivial | (simp only [go_sem, List.length_append]; omega))
      refine ⟨CallB.fn rfl hW ?_⟩
      repeat' (first | omega | ((try refine awC_sound _ _ _ _ ?_); simp only [go_sem, sevalprocAttr, ↓reduceIte, reduceCtorEq]) | (apply gspDI <;> (intro h_; (try simp only [h_]); revert h_)) | apply gspLI | apply condLI | apply gspI | apply And.intro | with_reducible intro h_ | trivial | (simp only [go_sem, List.length_append]; omega))
      refine ⟨CallB.fn rfl hV ?_⟩
      repeat' (first | omega | ((try refine awC_sound _ _ _ _ ?_); simp only [go_sem, sevalprocAttr, ↓reduceIte, reduceCtorEq]) | (apply gspDI <;> (intro h_; (try simp only [h_]); revert h_)) | apply gspLI | apply condLI | apply gspI | apply And.intro | with_reducible intro h_ | trivial | (simp only [go_sem, List.length_append]; omega))
    | true =>
      rw [hv] at hV
      rw [if_pos hv] at hO hW
      have hp := (valid1 hv).prd
      have hR := fn_rOrder s m L hp.ok (by omega)
      have hol := orN_len m s.length s.length
      have hI := fn_rInts (orN m s.length s.length) (orN m s.length s.length) (by omega)
      rw [decide_eq_true (show orN m s.length s.length = orN m s.length s.length from rfl)] at hI
      have hP := fn_rIsPerm o s.length (by omega) (by omega)
      cases hpb : permB o s.length with
      | false =>
        rw [hpb] at hP
        rw [if_neg (by simp [hpb])] at hW
        refine Fn.intro [.tmp 4] Tryd.func3 rfl rfl (by decide) (by simp [Tryd.ntmps3]) ?_; rw [Tryd.ntmps3]
        repeat' (first | omega | ((try refine awC_sound _ _ _ _ ?_); simp only [go_sem, sevalprocAttr, ↓reduceIte, reduceCtorEq]) | (apply gspDI <;> (intro h_; (try simp only [h_]); revert h_)) | apply gspLI | apply condLI | apply gspI | apply And.intro | with_reducible intro h_ | trivial | (simp only [go_sem, List.length_append]; omega))
        refine ⟨CallB.fn rfl hA ?_⟩
        repeat' (first | omega | ((try refine awC_sound _ _ _ _ ?_); simp only [go_sem, sevalprocAttr, ↓reduceIte, reduceCtorEq, b1, b2, b3]) | (apply gspDI <;> (intro h_; (try simp only [h_]); revert h_)) | apply gspLI | apply condLI | apply gspI | apply And.intro | with_reducible intro h_ | trivial | (simp only [go_sem, List.length_append]; omega))
        refine ⟨CallB.fn rfl hO ?_⟩
        repeat' (first | omega | ((try refine awC_sound _ _ _ _ ?_); simp only [go_sem, sevalprocAttr, ↓reduceIte, reduceCtorEq]) | (apply gspDI <;> (intro h_; (try simp only [h_]); revert h_)) | apply gspLI | apply condLI | apply gspI | apply And.intro | with_reducible intro h_ | trivial | (simp only [go_sem, List.length_append]; omega))
        refine ⟨CallB.fn rfl hW ?_⟩
        repeat' (first | omega | ((try refine awC_sound _ _ _ _ ?_); simp only [go_sem, sevalprocAttr, ↓reduceIte, reduceCtorEq]) | (apply gspDI <;> (intro h_; (try simp only [h_]); revert h_)) | apply gspLI | apply condLI | apply gspI | apply And.intro | with_reducible intro h_ | trivial | (simp only [go_sem, List.length_append]; omega))
        refine ⟨CallB.fn rfl hV ?_⟩
        repeat' (first | omega | ((try refine awC_sound _ _ _ _ ?_); simp only [go_sem, sevalprocAttr, ↓reduceIte, reduceCtorEq]) | (apply gspDI <;> (intro h_; (try simp only [h_]); revert h_)) | apply gspLI | apply condLI | apply gspI | apply And.intro | with_reducible intro h_ | trivial | (simp only [go_sem, List.length_append]; omega))
        refine ⟨CallB.fn rfl hR ?_⟩
        repeat' (first | omega | ((try refine awC_sound _ _ _ _ ?_); simp only [go_sem, sevalprocAttr, ↓reduceIte, reduceCtorEq]) | (apply gspDI <;> (intro h_; (try simp only [h_]); revert h_)) | apply gspLI | apply condLI | apply gspI | apply And.intro | with_reducible intro h_ | trivial | (simp only [go_sem, List.length_append]; omega))
        refine ⟨CallB.fn rfl hI ?_⟩
        repeat' (first | omega | ((try refine awC_sound _ _ _ _ ?_); simp only [go_sem, sevalprocAttr, ↓reduceIte, reduceCtorEq]) | (apply gspDI <;> (intro h_; (try simp only [h_]); revert h_)) | apply gspLI | apply condLI | apply gspI | apply And.intro | with_reducible intro h_ | trivial | (simp only [go_sem, List.length_append]; omega))
        refine ⟨CallB.fn rfl hP ?_⟩
        repeat' (first | omega | ((try refine awC_sound _ _ _ _ ?_); simp only [go_sem, sevalprocAttr, ↓reduceIte, reduceCtorEq]) | (apply gspDI <;> (intro h_; (try simp only [h_]); revert h_)) | apply gspLI | apply condLI | apply gspI | apply And.intro | with_reducible intro h_ | trivial | (simp only [go_sem, List.length_append]; omega))
      | true =>
        rw [hpb] at hP
        rw [if_pos hpb] at hW
        obtain ⟨hprm, hlo⟩ := permB_prm hpb
        have hRW := fn_rWidth s m L o hp.ok (by omega) (by omega) hprm.rg
        rw [rw_wd hp.ok hp.inv hprm o.length (Nat.le_refl _)] at hRW
        generalize wdN m o o.length = wd at *
        have bw : (wd == wd) = true := by simp
        refine Fn.intro [.tmp 4] Tryd.func3 rfl rfl (by decide) (by simp [Tryd.ntmps3]) ?_; rw [Tryd.ntmps3]
        repeat' (first | omega | ((try refine awC_sound _ _ _ _ ?_); simp only [go_sem, sevalprocAttr, ↓reduceIte, reduceCtorEq]) | (apply gspDI <;> (intro h_; (try simp only [h_]); revert h_)) | apply gspLI | apply condLI | apply gspI | apply And.intro | with_reducible intro h_ | trivial | (simp only [go_sem, List.length_append]; omega))
        refine ⟨CallB.fn rfl hA ?_⟩
        repeat' (first | omega | ((try refine awC_sound _ _ _ _ ?_); simp only [go_sem, sevalprocAttr, ↓reduceIte, reduceCtorEq, b1, b2, b3]) | (apply gspDI <;> (intro h_; (try simp only [h_]); revert h_)) | apply gspLI | apply condLI | apply gspI | apply And.intro | with_reducible intro h_ | trivial | (simp only [go_sem, List.length_append]; omega))
        refine ⟨CallB.fn rfl hO ?_⟩
        repeat' (first | omega | ((try refine awC_sound _ _ _ _ ?_); simp only [go_sem, sevalprocAttr, ↓reduceIte, reduceCtorEq]) | (apply gspDI <;> (intro h_; (try simp only [h_]); revert h_)) | apply gspLI | apply condLI | apply gspI | apply And.intro | with_reducible intro h_ | trivial | (simp only [go_sem, List.length_append]; omega))
        refine ⟨CallB.fn rfl hW ?_⟩
        repeat' (first | omega | ((try refine awC_sound _ _ _ _ ?_); simp only [go_sem, sevalprocAttr, ↓reduceIte, reduceCtorEq]) | (apply gspDI <;> (intro h_; (try simp only [h_]); revert h_)) | apply gspLI | apply condLI | apply gspI | apply And.intro | with_reducible intro h_ | trivial | (simp only [go_sem, List.length_append]; omega))
        refine ⟨CallB.fn rfl hV ?_⟩
        repeat' (first | omega | ((try refine awC_sound _ _ _ _ ?_); simp only [go_sem, sevalprocAttr, ↓reduceIte, reduceCtorEq]) | (apply gspDI <;> (intro h_; (try simp only [h_]); revert h_)) | apply gspLI | apply condLI | apply gspI | apply And.intro | with_reducible intro h_ | trivial | (simp only [go_sem, List.length_append]; omega))
        refine ⟨CallB.fn rfl hR ?_⟩
        repeat' (first | omega | ((try refine awC_sound _ _ _ _ ?_); simp only [go_sem, sevalprocAttr, ↓reduceIte, reduceCtorEq]) | (apply gspDI <;> (intro h_; (try simp only [h_]); revert h_)) | apply gspLI | apply condLI | apply gspI | apply And.intro | with_reducible intro h_ | trivial | (simp only [go_sem, List.length_append]; omega))
        refine ⟨CallB.fn rfl hI ?_⟩
        repeat' (first | omega | ((try refine awC_sound _ _ _ _ ?_); simp only [go_sem, sevalprocAttr, ↓reduceIte, reduceCtorEq]) | (apply gspDI <;> (intro h_; (try simp only [h_]); revert h_)) | apply gspLI | apply condLI | apply gspI | apply And.intro | with_reducible intro h_ | trivial | (simp only [go_sem, List.length_append]; omega))
        refine ⟨CallB.fn rfl hP ?_⟩
        repeat' (first | omega | ((try refine awC_sound _ _ _ _ ?_); simp only [go_sem, sevalprocAttr, ↓reduceIte, reduceCtorEq]) | (apply gspDI <;> (intro h_; (try simp only [h_]); revert h_)) | apply gspLI | apply condLI | apply gspI | apply And.intro | with_reducible intro h_ | trivial | (simp only [go_sem, List.length_append]; omega))
        refine ⟨CallB.fn rfl hRW ?_⟩
        repeat' (first | omega | ((try refine awC_sound _ _ _ _ ?_); simp only [go_sem, sevalprocAttr, ↓reduceIte, reduceCtorEq, bw]) | (apply gspDI <;> (intro h_; (try simp only [h_]); revert h_)) | apply gspLI | apply condLI | apply gspI | apply And.intro | with_reducible intro h_ | trivial | (simp only [go_sem, List.length_append]; omega))
  · have b1 : decide ((30 : Int) < s.length) = true ∨ (decide ((30 : Int) < s.length) = false ∧ decide ((120 : Int) < m.length) = true) ∨ (decide ((30 : Int) < s.length) = false ∧ decide ((120 : Int) < m.length) = false ∧ decide ((40 : Int) < o.length) = true) := by
      simp only [decide_eq_true_eq, decide_eq_false_iff_not]; omega
    refine Fn.intro [.tmp 4] Tryd.func3 rfl rfl (by decide) (by simp [Tryd.ntmps3]) ?_; rw [Tryd.ntmps3]
    repeat' (first | omega | ((try refine awC_sound _ _ _ _ ?_); simp only [go_sem, sevalprocAttr, ↓reduceIte, reduceCtorEq]) | (apply gspDI <;> (intro h_; (try simp only [h_]); revert h_)) | apply gspLI | apply condLI | apply gspI | apply And.intro | with_reducible intro h_ | trivial | (simp only [go_sem, List.length_append]; omega))
    refine ⟨CallB.fn rfl hA ?_⟩
    rcases b1 with b1 | ⟨b1, b2⟩ | ⟨b1, b2, b3⟩
    · repeat' (first | omega | ((try refine awC_sound _ _ _ _ ?_); simp only [go_sem, sevalprocAttr, ↓reduceIte, reduceCtorEq, b1]) | (apply gspDI <;> (intro h_; (try simp only [h_]); revert h_)) | apply gspLI | apply condLI | apply gspI | apply And.intro | with_reducible intro h_ | trivial | (simp only [go_sem, List.length_append]; omega))
    · repeat' (first | omega | ((try refine awC_sound _ _ _ _ ?_); simp only [go_sem, sevalprocAttr, ↓reduceIte, reduceCtorEq, b1, b2]) | (apply gspDI <;> (intro h_; (try simp only [h_]); revert h_)) | apply gspLI | apply condLI | apply gspI | apply And.intro | with_reducible intro h_ | trivial | (simp only [go_sem, List.length_append]; omega))
    · repeat' (first | omega | ((try refine awC_sound _ _ _ _ ?_); simp only [go_sem, sevalprocAttr, ↓reduceIte, reduceCtorEq, b1, b2, b3]) | (apply gspDI <;> (intro h_; (try simp only [h_]); revert h_)) | apply gspLI | apply condLI | apply gspI | apply And.intro | with_reducible intro h_ | trivial | (simp only [go_sem, List.length_append]; omega))
end Go.Proofs.YtebdkebfkpbmpaaDoor
