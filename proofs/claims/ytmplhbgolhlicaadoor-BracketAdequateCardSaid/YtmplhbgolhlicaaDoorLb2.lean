/- Layer 15: the law BracketAdequate. -/
import Derived.Test.YtmplhbgolhlicaaDoorAw5
import Derived.Test.YtmplhbgolhlicaaDoorBr6
import Derived.Test.YtmplhbgolhlicaaDoorPd
import Derived.Test.YtmplhbgolhlicaaDoorRb3
import Derived.Test.YtmplhbgolhlicaaDoorRf9
set_option linter.unusedSimpArgs false
set_option linter.unusedVariables false
namespace Go.Proofs.YtmplhbgolhlicaaDoor
open Go Go.RowKit
set_option maxRecDepth 100000
set_option maxHeartbeats 8000000
theorem adq_eq {s m : List Int} {L : Int} (hv : validB s m L = true) (b : Bool) : ∀ k, k ≤ s.length →
    adqN (mgB m (fun _ => b) s.length) k = adO (crN (mtF m) (jnF (List.replicate s.length b)) m.length m.length) b k := by
  have v1 := valid1 hv
  have hp := v1.prd
  have hst : ∀ x : Int, InR s.length x → jnF (List.replicate s.length b) x = jnB b x := fun x hx => by
    unfold InR at hx
    simp only [jnF]
    rw [show (List.replicate s.length b).getD (x / 4).toNat false = b by
      have : (x / 4).toNat < s.length := by omega
      simp [this]]
  have hi := Inv2_of hp.ok (fun x hx => hp.inv x hx) (fun x hx => (v1.mt x hx).2.2.1) (fun c => (List.replicate s.length b).getD c false)
  have h2 := crN_R hi
  rw [← v1.len] at h2
  have h1 := mgB_R (ch := fun c => (List.replicate s.length b).getD c false) hp.ok (fun x hx => hp.inv x hx) (fun x hx => (v1.mt x hx).2.2.1)
  have hmg : mgB m (fun c => (List.replicate s.length b).getD c false) s.length = mgB m (fun _ => b) s.length := by
    have : ∀ k, k ≤ s.length → mgB m (fun c => (List.replicate s.length b).getD c false) k = mgB m (fun _ => b) k := by
      intro k
      induction k with
      | zero => intro _; rfl
      | succ k ih =>
        intro hk
        have hb : (List.replicate s.length b).getD k false = b := by simp [show k < s.length by omega]
        simp only [mgB, ih (by omega), hb]
    exact this _ (Nat.le_refl _)
  rw [hmg] at h1
  have h2' : CirR s.length (fun x => m.getD x.toNat 0) (fun x => jnB ((List.replicate s.length b).getD (x / 4).toNat false) x) (crN (mtF m) (jnF (List.replicate s.length b)) m.length m.length) := h2
  generalize crN (mtF m) (jnF (List.replicate s.length b)) m.length m.length = C at *
  generalize mgB m (fun _ => b) s.length = R at *
  intro k
  induction k with
  | zero => intro _; rfl
  | succ k ih =>
    intro hk
    simp only [adqN, adO]
    rw [ih (by omega)]
    congr 1
    have same : ∀ x y : Nat, x < 4 * s.length → y < 4 * s.length → (R.getD x 0 == R.getD y 0) = (C.getD x 0 == C.getD y 0) := fun x y hx hy => by
      have e1 := h1.iff x y hx hy
      have e2 := h2'.iff x y hx hy
      by_cases c : R.getD x 0 = R.getD y 0
      · have c2 := e2.2 (e1.1 c)
        rw [beq_iff_eq.2 c, beq_iff_eq.2 c2]
      · have c2 : ¬ C.getD x 0 = C.getD y 0 := fun c2 => c (e1.2 (e2.1 c2))
        rw [beq_eq_false_iff_ne.2 c, beq_eq_false_iff_ne.2 c2]
    rw [same (4 * k) (4 * k + 2) (by omega) (by omega)]
    have jn : ∀ x : Nat, x < 4 * s.length → ∀ y : Nat, jnB b x = y → C.getD y 0 = C.getD x 0 := fun x hx y hy => by
      have hc := Cir.join (mt := fun x => m.getD x.toNat 0) (jn := fun x => jnB ((List.replicate s.length b).getD (x / 4).toNat false) x) (Cir.refl (x : Int))
      have hj := hst x (by unfold InR; omega)
      simp only [jnF] at hj
      simp only [hj, hy] at hc
      have hd := jnB_div b x
      exact ((h2'.iff x y hx (by omega)).2 hc).symm
    obtain ⟨t0, t1, t2, t3, f0, f1, f2, f3⟩ := jn_ev k
    have c0 : (4 * (k : Int)) = ((4 * k : Nat) : Int) := by omega
    simp only [adI, c0]
    cases b with
    | true =>
      have e12 := jn (4 * k + 1) (by omega) _ t1
      rw [t0]
      have n1 : (((4 * k : Nat) : Int) + ((0 : Nat) : Int) != ((4 * k : Nat) : Int)) = false := by simp
      have n2 : (((4 * k : Nat) : Int) + ((1 : Nat) : Int) != ((4 * k : Nat) : Int)) = true := bne_iff_ne.2 (by omega)
      have n3 : (((4 * k : Nat) : Int) + ((1 : Nat) : Int) != ((4 * k + 3 : Nat) : Int)) = true := bne_iff_ne.2 (by omega)
      have n4 : (((4 * k : Nat) : Int) + ((2 : Nat) : Int) != ((4 * k : Nat) : Int)) = true := bne_iff_ne.2 (by omega)
      have n5 : (((4 * k : Nat) : Int) + ((2 : Nat) : Int) != ((4 * k + 3 : Nat) : Int)) = true := bne_iff_ne.2 (by omega)
      have n6 : (((4 * k : Nat) : Int) + ((3 : Nat) : Int) != ((4 * k + 3 : Nat) : Int)) = false := by simp [bne]
      rw [n1, n2, n3, n4, n5, n6, ← e12]
      rw [show (C.getD (4 * k) 0 == C.getD (4 * k + 2) 0) = (C.getD (4 * k + 2) 0 == C.getD (4 * k) 0) from BEq.comm]
      cases (C.getD (4 * k + 2) 0 == C.getD (4 * k) 0) <;> simp
    | false =>
      have e23 := jn (4 * k + 2) (by omega) _ f2
      rw [f0]
      have n1 : (((4 * k : Nat) : Int) + ((0 : Nat) : Int) != ((4 * k : Nat) : Int)) = false := by simp
      have n2 : (((4 * k : Nat) : Int) + ((1 : Nat) : Int) != ((4 * k + 1 : Nat) : Int)) = false := by simp [bne]
      have n4 : (((4 * k : Nat) : Int) + ((2 : Nat) : Int) != ((4 * k : Nat) : Int)) = true := bne_iff_ne.2 (by omega)
      have n5 : (((4 * k : Nat) : Int) + ((2 : Nat) : Int) != ((4 * k + 1 : Nat) : Int)) = true := bne_iff_ne.2 (by omega)
      have n6 : (((4 * k : Nat) : Int) + ((3 : Nat) : Int) != ((4 * k : Nat) : Int)) = true := bne_iff_ne.2 (by omega)
      have n7 : (((4 * k : Nat) : Int) + ((3 : Nat) : Int) != ((4 * k + 1 : Nat) : Int)) = true := bne_iff_ne.2 (by omega)
      rw [n1, n2, n4, n5, n6, n7, e23]
      rw [show (C.getD (4 * k) 0 == C.getD (4 * k + 2) 0) = (C.getD (4 * k + 2) 0 == C.getD (4 * k) 0) from BEq.comm]
      cases (C.getD (4 * k + 2) 0 == C.getD (4 * k) 0) <;> simp
theorem fn_BracketAdequate (s m : List Int) (L : Int) (p : Bool) : Fn Tryd.prog 8 [dgA s m L, .bool p] (.bool true) := by
  have hA := fn_awake15
  by_cases h14 : 14 < s.length
  · have b0 : decide ((14 : Int) < s.length) = true := by simp; omega
    refine Fn.intro [.tmp 4] Tryd.func8 rfl rfl (by decide) (by simp [Tryd.ntmps8]) ?_; rw [Tryd.ntmps8]
    repeat' (first | omega | ((first | refine awC_sound _ _ _ _ ?_ | skip); simp only [go_sem, Nat.reduceLT, Nat.reduceLeDiff, Nat.reduceEqDiff, Nat.reduceBEq, Nat.reduceBNe, Nat.reduceAdd, Nat.reduceMul, Nat.reduceSub, Nat.reduceDiv, Nat.reduceMod, Int.reduceToNat, Int.reduceAdd, Int.reduceLT, Int.reduceLE, Int.reduceEq, Int.reduceSub, Int.reduceMul, Int.reduceNeg, ↓reduceIte, reduceCtorEq]) | (refine gspDI ?_ ?_ <;> (intro _hh; (try simp only [_hh]); revert _hh)) | refine gspLI ?_ ?_ | refine condLI ?_ ?_ | refine gspI ?_ ?_ | refine And.intro ?_ ?_ | with_reducible intro _hh | trivial | (simp only [cl1, cl2, cl3, List.length_cons, List.length_nil, List.length_append]; omega))
    refine ⟨CallB.fn rfl hA ?_⟩
    repeat' (first | omega | ((first | refine awC_sound _ _ _ _ ?_ | skip); simp only [go_sem, Nat.reduceLT, Nat.reduceLeDiff, Nat.reduceEqDiff, Nat.reduceBEq, Nat.reduceBNe, Nat.reduceAdd, Nat.reduceMul, Nat.reduceSub, Nat.reduceDiv, Nat.reduceMod, Int.reduceToNat, Int.reduceAdd, Int.reduceLT, Int.reduceLE, Int.reduceEq, Int.reduceSub, Int.reduceMul, Int.reduceNeg, ↓reduceIte, reduceCtorEq, b0]) | (refine gspDI ?_ ?_ <;> (intro _hh; (try simp only [_hh]); revert _hh)) | refine gspLI ?_ ?_ | refine condLI ?_ ?_ | refine gspI ?_ ?_ | refine And.intro ?_ ?_ | with_reducible intro _hh | trivial | (simp only [cl1, cl2, cl3, List.length_cons, List.length_nil, List.length_append]; omega))
  have b0 : decide ((14 : Int) < s.length) = false := by simp; omega
  have hAd := fn_Adequate s m L p (by omega)
  have hV := fn_rValid s m L
  cases hv : validB s m L with
  | false =>
    rw [hv] at hAd hV
    simp only [Bool.false_eq_true, if_false, Bool.false_and] at hAd
    refine Fn.intro [.tmp 4] Tryd.func8 rfl rfl (by decide) (by simp [Tryd.ntmps8]) ?_; rw [Tryd.ntmps8]
    repeat' (first | omega | ((first | refine awC_sound _ _ _ _ ?_ | skip); simp only [go_sem, Nat.reduceLT, Nat.reduceLeDiff, Nat.reduceEqDiff, Nat.reduceBEq, Nat.reduceBNe, Nat.reduceAdd, Nat.reduceMul, Nat.reduceSub, Nat.reduceDiv, Nat.reduceMod, Int.reduceToNat, Int.reduceAdd, Int.reduceLT, Int.reduceLE, Int.reduceEq, Int.reduceSub, Int.reduceMul, Int.reduceNeg, ↓reduceIte, reduceCtorEq]) | (refine gspDI ?_ ?_ <;> (intro _hh; (try simp only [_hh]); revert _hh)) | refine gspLI ?_ ?_ | refine condLI ?_ ?_ | refine gspI ?_ ?_ | refine And.intro ?_ ?_ | with_reducible intro _hh | trivial | (simp only [cl1, cl2, cl3, List.length_cons, List.length_nil, List.length_append]; omega))
    refine ⟨CallB.fn rfl hA ?_⟩
    repeat' (first | omega | ((first | refine awC_sound _ _ _ _ ?_ | skip); simp only [go_sem, Nat.reduceLT, Nat.reduceLeDiff, Nat.reduceEqDiff, Nat.reduceBEq, Nat.reduceBNe, Nat.reduceAdd, Nat.reduceMul, Nat.reduceSub, Nat.reduceDiv, Nat.reduceMod, Int.reduceToNat, Int.reduceAdd, Int.reduceLT, Int.reduceLE, Int.reduceEq, Int.reduceSub, Int.reduceMul, Int.reduceNeg, ↓reduceIte, reduceCtorEq, b0]) | (refine gspDI ?_ ?_ <;> (intro _hh; (try simp only [_hh]); revert _hh)) | refine gspLI ?_ ?_ | refine condLI ?_ ?_ | refine gspI ?_ ?_ | refine And.intro ?_ ?_ | with_reducible intro _hh | trivial | (simp only [cl1, cl2, cl3, List.length_cons, List.length_nil, List.length_append]; omega))
    refine ⟨CallB.fn rfl hAd ?_⟩
    repeat' (first | omega | ((first | refine awC_sound _ _ _ _ ?_ | skip); simp only [go_sem, Nat.reduceLT, Nat.reduceLeDiff, Nat.reduceEqDiff, Nat.reduceBEq, Nat.reduceBNe, Nat.reduceAdd, Nat.reduceMul, Nat.reduceSub, Nat.reduceDiv, Nat.reduceMod, Int.reduceToNat, Int.reduceAdd, Int.reduceLT, Int.reduceLE, Int.reduceEq, Int.reduceSub, Int.reduceMul, Int.reduceNeg, ↓reduceIte, reduceCtorEq]) | (refine gspDI ?_ ?_ <;> (intro _hh; (try simp only [_hh]); revert _hh)) | refine gspLI ?_ ?_ | refine condLI ?_ ?_ | refine gspI ?_ ?_ | refine And.intro ?_ ?_ | with_reducible intro _hh | trivial | (simp only [cl1, cl2, cl3, List.length_cons, List.length_nil, List.length_append]; omega))
    refine ⟨CallB.fn rfl hV ?_⟩
    repeat' (first | omega | ((first | refine awC_sound _ _ _ _ ?_ | skip); simp only [go_sem, Nat.reduceLT, Nat.reduceLeDiff, Nat.reduceEqDiff, Nat.reduceBEq, Nat.reduceBNe, Nat.reduceAdd, Nat.reduceMul, Nat.reduceSub, Nat.reduceDiv, Nat.reduceMod, Int.reduceToNat, Int.reduceAdd, Int.reduceLT, Int.reduceLE, Int.reduceEq, Int.reduceSub, Int.reduceMul, Int.reduceNeg, ↓reduceIte, reduceCtorEq]) | (refine gspDI ?_ ?_ <;> (intro _hh; (try simp only [_hh]); revert _hh)) | refine gspLI ?_ ?_ | refine condLI ?_ ?_ | refine gspI ?_ ?_ | refine And.intro ?_ ?_ | with_reducible intro _hh | trivial | (simp only [cl1, cl2, cl3, List.length_cons, List.length_nil, List.length_append]; omega))
  | true =>
    rw [hv] at hAd hV
    simp only [if_true, Bool.true_and] at hAd
    have v1 := valid1 hv
    have hR := fn_rAdequate s m L p (by omega) v1.prd.ok
    rw [← adq_eq hv (!p) s.length (Nat.le_refl _)] at hR
    generalize adqN (mgB m (fun _ => !p) s.length) s.length = z at *
    have b3 : (z == z) = true := by simp
    refine Fn.intro [.tmp 4] Tryd.func8 rfl rfl (by decide) (by simp [Tryd.ntmps8]) ?_; rw [Tryd.ntmps8]
    repeat' (first | omega | ((first | refine awC_sound _ _ _ _ ?_ | skip); simp only [go_sem, Nat.reduceLT, Nat.reduceLeDiff, Nat.reduceEqDiff, Nat.reduceBEq, Nat.reduceBNe, Nat.reduceAdd, Nat.reduceMul, Nat.reduceSub, Nat.reduceDiv, Nat.reduceMod, Int.reduceToNat, Int.reduceAdd, Int.reduceLT, Int.reduceLE, Int.reduceEq, Int.reduceSub, Int.reduceMul, Int.reduceNeg, ↓reduceIte, reduceCtorEq]) | (refine gspDI ?_ ?_ <;> (intro _hh; (try simp only [_hh]); revert _hh)) | refine gspLI ?_ ?_ | refine condLI ?_ ?_ | refine gspI ?_ ?_ | refine And.intro ?_ ?_ | with_reducible intro _hh | trivial | (simp only [cl1, cl2, cl3, List.length_cons, List.length_nil, List.length_append]; omega))
    refine ⟨CallB.fn rfl hA ?_⟩
    repeat' (first | omega | ((first | refine awC_sound _ _ _ _ ?_ | skip); simp only [go_sem, Nat.reduceLT, Nat.reduceLeDiff, Nat.reduceEqDiff, Nat.reduceBEq, Nat.reduceBNe, Nat.reduceAdd, Nat.reduceMul, Nat.reduceSub, Nat.reduceDiv, Nat.reduceMod, Int.reduceToNat, Int.reduceAdd, Int.reduceLT, Int.reduceLE, Int.reduceEq, Int.reduceSub, Int.reduceMul, Int.reduceNeg, ↓reduceIte, reduceCtorEq, b0]) | (refine gspDI ?_ ?_ <;> (intro _hh; (try simp only [_hh]); revert _hh)) | refine gspLI ?_ ?_ | refine condLI ?_ ?_ | refine gspI ?_ ?_ | refine And.intro ?_ ?_ | with_reducible intro _hh | trivial | (simp only [cl1, cl2, cl3, List.length_cons, List.length_nil, List.length_append]; omega))
    refine ⟨CallB.fn rfl hAd ?_⟩
    repeat' (first | omega | ((first | refine awC_sound _ _ _ _ ?_ | skip); simp only [go_sem, Nat.reduceLT, Nat.reduceLeDiff, Nat.reduceEqDiff, Nat.reduceBEq, Nat.reduceBNe, Nat.reduceAdd, Nat.reduceMul, Nat.reduceSub, Nat.reduceDiv, Nat.reduceMod, Int.reduceToNat, Int.reduceAdd, Int.reduceLT, Int.reduceLE, Int.reduceEq, Int.reduceSub, Int.reduceMul, Int.reduceNeg, ↓reduceIte, reduceCtorEq]) | (refine gspDI ?_ ?_ <;> (intro _hh; (try simp only [_hh]); revert _hh)) | refine gspLI ?_ ?_ | refine condLI ?_ ?_ | refine gspI ?_ ?_ | refine And.intro ?_ ?_ | with_reducible intro _hh | trivial | (simp only [cl1, cl2, cl3, List.length_cons, List.length_nil, List.length_append]; omega))
    refine ⟨CallB.fn rfl hV ?_⟩
    repeat' (first | omega | ((first | refine awC_sound _ _ _ _ ?_ | skip); simp only [go_sem, Nat.reduceLT, Nat.reduceLeDiff, Nat.reduceEqDiff, Nat.reduceBEq, Nat.reduceBNe, Nat.reduceAdd, Nat.reduceMul, Nat.reduceSub, Nat.reduceDiv, Nat.reduceMod, Int.reduceToNat, Int.reduceAdd, Int.reduceLT, Int.reduceLE, Int.reduceEq, Int.reduceSub, Int.reduceMul, Int.reduceNeg, ↓reduceIte, reduceCtorEq]) | (refine gspDI ?_ ?_ <;> (intro _hh; (try simp only [_hh]); revert _hh)) | refine gspLI ?_ ?_ | refine condLI ?_ ?_ | refine gspI ?_ ?_ | refine And.intro ?_ ?_ | with_reducible intro _hh | trivial | (simp only [cl1, cl2, cl3, List.length_cons, List.length_nil, List.length_append]; omega))
    refine ⟨CallB.fn rfl hR ?_⟩
    repeat' (first | omega | ((first | refine awC_sound _ _ _ _ ?_ | skip); simp only [go_sem, Nat.reduceLT, Nat.reduceLeDiff, Nat.reduceEqDiff, Nat.reduceBEq, Nat.reduceBNe, Nat.reduceAdd, Nat.reduceMul, Nat.reduceSub, Nat.reduceDiv, Nat.reduceMod, Int.reduceToNat, Int.reduceAdd, Int.reduceLT, Int.reduceLE, Int.reduceEq, Int.reduceSub, Int.reduceMul, Int.reduceNeg, ↓reduceIte, reduceCtorEq, b3]) | (refine gspDI ?_ ?_ <;> (intro _hh; (try simp only [_hh]); revert _hh)) | refine gspLI ?_ ?_ | refine condLI ?_ ?_ | refine gspI ?_ ?_ | refine And.intro ?_ ?_ | with_reducible intro _hh | trivial | (simp only [cl1, cl2, cl3, List.length_cons, List.length_nil, List.length_append]; omega))
end Go.Proofs.YtmplhbgolhlicaaDoor
