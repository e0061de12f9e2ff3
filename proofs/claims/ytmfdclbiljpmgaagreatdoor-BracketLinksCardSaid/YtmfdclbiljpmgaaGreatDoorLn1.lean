/- Layer 15: the law BracketLinks. -/
import Derived.Test.YtmfdclbiljpmgaaGreatDoorAw5
import Derived.Test.YtmfdclbiljpmgaaGreatDoorBr7
import Derived.Test.YtmfdclbiljpmgaaGreatDoorBr8
import Derived.Test.YtmfdclbiljpmgaaGreatDoorAt1
set_option linter.unusedSimpArgs false
set_option linter.unusedVariables false
namespace Go.Proofs.YtmfdclbiljpmgaaGreatDoor
open Go Go.RowKit
set_option maxRecDepth 100000
set_option maxHeartbeats 8000000
theorem brP_ok {s m : List Int} {L : Nat} (hp : PmOk m s.length) (hs : s.length ≤ 9) (hL : L ≤ 20) : PolyB (brP m s.length L) (brT m s.length L 1) := listOf_ok fun e he => brT_sup hp hs hL (by omega) he
theorem brP_one {s m : List Int} {L : Nat} (hv : validB s m L = true) (h0 : ¬ (s.length = 0 ∧ L = 0)) (hs : s.length ≤ 9) (hL : L ≤ 20) : evL (brP m s.length L) = (-1) ^ s.length * (-2 : Int) ^ ((strandsM s m).length + L - 1) := by
  have hp := pmOk hv
  have v1 := valid1 hv
  have hP := brP_ok hp hs hL
  rw [← evF_cfL 1000 (brP m s.length L) fun t ht => brT_sup hp hs hL (j := 1) (by omega) (hP.mem ht).2, show cfL (brP m s.length L) = brT m s.length L 1 from funext hP.cf]
  have h1 := evF_hrT (K := 2 ^ s.length) (c := cN m s.length L) (w := wB s.length) 1 1000 fun k _ hk => by
    have a := cN_le hp (L := L) k
    have b := cntB_le k s.length
    unfold wB; omega
  have h2 : evF (brT m s.length L 1) 1000 = sm (fun k => (-2 : Int) ^ (cN m s.length L k - 1)) (2 ^ s.length) := by
    refine Eq.trans h1 (sm_congr fun k _ => ?_)
    rw [if_pos]
    by_cases hn : 0 < s.length
    · have := cirS_pos hp (chB k) hn
      unfold cN; omega
    · unfold cN; omega
  rw [h2]
  by_cases hn : 0 < s.length
  · rw [br_one hp hn L, strands_cir v1 hp]
  · have hn0 : s.length = 0 := by omega
    have hm0 : m = [] := List.length_eq_zero_iff.1 (by have := v1.len; omega)
    subst hm0
    rw [hn0]
    have e1 : cN [] 0 L 0 = L := by unfold cN; simp [cirS, mgB, mgA, roots]
    have e2 : (strandsM s []).length = 0 := by have := strandsM_len s []; simpa using this
    simp only [Nat.pow_zero, sm, e1, e2]
    simp
theorem brP_sgn {s m : List Int} {L : Nat} (hv : validB s m L = true) (h0 : ¬ (s.length = 0 ∧ L = 0)) (hs : s.length ≤ 9) (hL : L ≤ 20) : evL (brP m s.length L) = 2 ^ ((strandsM s m).length + L - 1) ∨ evL (brP m s.length L) = -2 ^ ((strandsM s m).length + L - 1) := by
  rw [brP_one hv h0 hs hL]
  generalize (strandsM s m).length + L - 1 = q
  have key : ∀ q : Nat, (-2 : Int) ^ q = 2 ^ q ∨ (-2 : Int) ^ q = -2 ^ q := fun q => by
    induction q with
    | zero => exact .inl rfl
    | succ q ih =>
      rw [Int.pow_succ, Int.pow_succ]
      rcases ih with h | h <;> rw [h] <;> omega
  have k1 : ∀ q : Nat, (-1 : Int) ^ q = 1 ∨ (-1 : Int) ^ q = -1 := fun q => by
    induction q with
    | zero => exact .inl rfl
    | succ q ih =>
      rw [Int.pow_succ]
      rcases ih with h | h <;> rw [h] <;> omega
  rcases key q with h | h <;> rcases k1 s.length with h2 | h2 <;> rw [h, h2] <;> omega
theorem fn_BracketLinks (s m : List Int) (L : Int) : Fn Tryz.prog 5 [dgA s m L] (.bool true) := by
  have hA := fn_awake15
  have hG := fn_great15 s m L
  cases hg : grB15 s m L with
  | true =>
    rw [hg] at hG
    refine Fn.intro [.tmp 2] Tryz.func5 rfl rfl (by decide) (by simp [Tryz.ntmps5]) ?_; rw [Tryz.ntmps5]
    repeat' (first | omega | ((first | refine awC_sound _ _ _ _ ?_ | skip); simp only [go_sem, Nat.reduceLT, Nat.reduceLeDiff, Nat.reduceEqDiff, Nat.reduceBEq, Nat.reduceBNe, Nat.reduceAdd, Nat.reduceMul, Nat.reduceSub, Nat.reduceDiv, Nat.reduceMod, Int.reduceToNat, Int.reduceAdd, Int.reduceLT, Int.reduceLE, Int.reduceEq, Int.reduceSub, Int.reduceMul, Int.reduceNeg, ↓reduceIte, reduceCtorEq]) | (refine gspDI ?_ ?_ <;> (intro _hh; (try simp only [_hh]); revert _hh)) | refine gspLI ?_ ?_ | refine condLI ?_ ?_ | refine gspI ?_ ?_ | refine And.intro ?_ ?_ | with_reducible intro _hh | trivial | (simp only [cl1, cl2, cl3, List.length_cons, List.length_nil, List.length_append]; omega))
    refine ⟨CallB.fn rfl hA ?_⟩
    repeat' (first | omega | ((first | refine awC_sound _ _ _ _ ?_ | skip); simp only [go_sem, Nat.reduceLT, Nat.reduceLeDiff, Nat.reduceEqDiff, Nat.reduceBEq, Nat.reduceBNe, Nat.reduceAdd, Nat.reduceMul, Nat.reduceSub, Nat.reduceDiv, Nat.reduceMod, Int.reduceToNat, Int.reduceAdd, Int.reduceLT, Int.reduceLE, Int.reduceEq, Int.reduceSub, Int.reduceMul, Int.reduceNeg, ↓reduceIte, reduceCtorEq]) | (refine gspDI ?_ ?_ <;> (intro _hh; (try simp only [_hh]); revert _hh)) | refine gspLI ?_ ?_ | refine condLI ?_ ?_ | refine gspI ?_ ?_ | refine And.intro ?_ ?_ | with_reducible intro _hh | trivial | (simp only [cl1, cl2, cl3, List.length_cons, List.length_nil, List.length_append]; omega))
    refine ⟨CallB.fn rfl hG ?_⟩
    repeat' (first | omega | ((first | refine awC_sound _ _ _ _ ?_ | skip); simp only [go_sem, Nat.reduceLT, Nat.reduceLeDiff, Nat.reduceEqDiff, Nat.reduceBEq, Nat.reduceBNe, Nat.reduceAdd, Nat.reduceMul, Nat.reduceSub, Nat.reduceDiv, Nat.reduceMod, Int.reduceToNat, Int.reduceAdd, Int.reduceLT, Int.reduceLE, Int.reduceEq, Int.reduceSub, Int.reduceMul, Int.reduceNeg, ↓reduceIte, reduceCtorEq]) | (refine gspDI ?_ ?_ <;> (intro _hh; (try simp only [_hh]); revert _hh)) | refine gspLI ?_ ?_ | refine condLI ?_ ?_ | refine gspI ?_ ?_ | refine And.intro ?_ ?_ | with_reducible intro _hh | trivial | (simp only [cl1, cl2, cl3, List.length_cons, List.length_nil, List.length_append]; omega))
  | false =>
    rw [hg] at hG
    have off : ∀ (p : List (Int × Int)) (e : Int), e ≠ 0 → Fn Tryz.prog 12 [dgA s m L] (.tup [plA false p, I e]) → Fn Tryz.prog 5 [dgA s m L] (.bool true) := fun p e he hB => by
      have be : (e != 0) = true := by simpa using he
      refine Fn.intro [.tmp 2] Tryz.func5 rfl rfl (by decide) (by simp [Tryz.ntmps5]) ?_; rw [Tryz.ntmps5]
      repeat' (first | omega | ((first | refine awC_sound _ _ _ _ ?_ | skip); simp only [go_sem, Nat.reduceLT, Nat.reduceLeDiff, Nat.reduceEqDiff, Nat.reduceBEq, Nat.reduceBNe, Nat.reduceAdd, Nat.reduceMul, Nat.reduceSub, Nat.reduceDiv, Nat.reduceMod, Int.reduceToNat, Int.reduceAdd, Int.reduceLT, Int.reduceLE, Int.reduceEq, Int.reduceSub, Int.reduceMul, Int.reduceNeg, ↓reduceIte, reduceCtorEq]) | (refine gspDI ?_ ?_ <;> (intro _hh; (try simp only [_hh]); revert _hh)) | refine gspLI ?_ ?_ | refine condLI ?_ ?_ | refine gspI ?_ ?_ | refine And.intro ?_ ?_ | with_reducible intro _hh | trivial | (simp only [cl1, cl2, cl3, List.length_cons, List.length_nil, List.length_append]; omega))
      refine ⟨CallB.fn rfl hA ?_⟩
      repeat' (first | omega | ((first | refine awC_sound _ _ _ _ ?_ | skip); simp only [go_sem, Nat.reduceLT, Nat.reduceLeDiff, Nat.reduceEqDiff, Nat.reduceBEq, Nat.reduceBNe, Nat.reduceAdd, Nat.reduceMul, Nat.reduceSub, Nat.reduceDiv, Nat.reduceMod, Int.reduceToNat, Int.reduceAdd, Int.reduceLT, Int.reduceLE, Int.reduceEq, Int.reduceSub, Int.reduceMul, Int.reduceNeg, ↓reduceIte, reduceCtorEq]) | (refine gspDI ?_ ?_ <;> (intro _hh; (try simp only [_hh]); revert _hh)) | refine gspLI ?_ ?_ | refine condLI ?_ ?_ | refine gspI ?_ ?_ | refine And.intro ?_ ?_ | with_reducible intro _hh | trivial | (simp only [cl1, cl2, cl3, List.length_cons, List.length_nil, List.length_append]; omega))
      refine ⟨CallB.fn rfl hG ?_⟩
      repeat' (first | omega | ((first | refine awC_sound _ _ _ _ ?_ | skip); simp only [go_sem, Nat.reduceLT, Nat.reduceLeDiff, Nat.reduceEqDiff, Nat.reduceBEq, Nat.reduceBNe, Nat.reduceAdd, Nat.reduceMul, Nat.reduceSub, Nat.reduceDiv, Nat.reduceMod, Int.reduceToNat, Int.reduceAdd, Int.reduceLT, Int.reduceLE, Int.reduceEq, Int.reduceSub, Int.reduceMul, Int.reduceNeg, ↓reduceIte, reduceCtorEq]) | (refine gspDI ?_ ?_ <;> (intro _hh; (try simp only [_hh]); revert _hh)) | refine gspLI ?_ ?_ | refine condLI ?_ ?_ | refine gspI ?_ ?_ | refine And.intro ?_ ?_ | with_reducible intro _hh | trivial | (simp only [cl1, cl2, cl3, List.length_cons, List.length_nil, List.length_append]; omega))
      refine ⟨CallB.fn rfl hB ?_⟩
      repeat' (first | omega | ((first | refine awC_sound _ _ _ _ ?_ | skip); simp only [go_sem, Nat.reduceLT, Nat.reduceLeDiff, Nat.reduceEqDiff, Nat.reduceBEq, Nat.reduceBNe, Nat.reduceAdd, Nat.reduceMul, Nat.reduceSub, Nat.reduceDiv, Nat.reduceMod, Int.reduceToNat, Int.reduceAdd, Int.reduceLT, Int.reduceLE, Int.reduceEq, Int.reduceSub, Int.reduceMul, Int.reduceNeg, ↓reduceIte, reduceCtorEq, be]) | (refine gspDI ?_ ?_ <;> (intro _hh; (try simp only [_hh]); revert _hh)) | refine gspLI ?_ ?_ | refine condLI ?_ ?_ | refine gspI ?_ ?_ | refine And.intro ?_ ?_ | with_reducible intro _hh | trivial | (simp only [cl1, cl2, cl3, List.length_cons, List.length_nil, List.length_append]; omega))
    cases hv : validB s m L with
    | false => exact off [] 1 (by decide) (fn_BracketI s m L hv)
    | true =>
      have v1 := valid1 hv
      have hl0 := v1.l0
      obtain ⟨Ln, rfl⟩ : ∃ Ln : Nat, L = Ln := ⟨L.toNat, by omega⟩
      by_cases h0 : s.length = 0 ∧ Ln = 0
      · have hs0 : s = [] := List.length_eq_zero_iff.1 h0.1
        obtain ⟨_, rfl⟩ := h0
        subst hs0
        exact off [] 8 (by decide) (fn_BracketE m hv)
      by_cases hf : 14 < s.length ∨ (20 : Int) < Ln
      · exact off [] 5 (by decide) (fn_BracketF s m Ln hv (fun h => h0 ⟨h.1, by omega⟩) hf)
      have hsz : s.length ≤ 9 ∧ Ln ≤ 20 := by
        unfold grB15 at hg
        simp only [Bool.or_eq_false_iff, Bool.and_eq_false_iff, decide_eq_false_iff_not] at hg
        omega
      have hB := fn_Bracket s m Ln hv h0 hsz.1 hsz.2
      have hp := pmOk hv
      have hP := brP_ok hp hsz.1 hsz.2
      have hC := fn_Components s m Ln
      rw [if_pos hv] at hC
      have hsl := strandsM_len s m
      have hml := v1.len
      obtain ⟨q, hq⟩ : ∃ q, (strandsM s m).length + Ln - 1 = q := ⟨_, rfl⟩
      have hsg := brP_sgn hv h0 hsz.1 hsz.2
      rw [hq] at hsg
      have hL10 : Ln ≤ 10 := by
        unfold grB15 at hg
        simp only [Bool.or_eq_false_iff, Bool.and_eq_false_iff, decide_eq_false_iff_not] at hg
        omega
      have hq1 : 2 ^ q ≤ 2 ^ 46 := Nat.pow_le_pow_right (by omega) (by omega)
      obtain ⟨Z, hZ⟩ : ∃ Z : Nat, 2 ^ q = Z := ⟨_, rfl⟩
      rw [hZ] at hq1
      have hZi : (2 : Int) ^ q = Z := by rw [← hZ]; simp
      rw [hZi] at hsg
      have hZ0 : 0 < Z := by rw [← hZ]; exact Nat.pow_pos (by omega)
      have hPl := hP.len fun e he => brT_sup hp hsz.1 hsz.2 (j := 1) (by omega) he
      have hPf := hP.fits fun e => by have := brT_bnd hp hsz.1 hsz.2 (j := 1) (by omega) e; omega
      have hAt := fn_At1 (brP m s.length Ln) (by omega) hPf (by omega) (by omega)
      have hcp : 1 ≤ (strandsM s m).length + Ln := by
        by_cases hn : 0 < s.length
        · have := cir_one s.length (cir3_R hp (stX s.length 0 0)) hn
          rw [strands_cir v1 hp]
          unfold cir3; omega
        · omega
      have hcc : ((strandsM s m).length : Int) + (Ln : Int) - 1 = (q : Int) := by omega
      generalize evL (brP m s.length Ln) = E at *
      rcases hsg with rfl | rfl
      · have b1 : ((Z : Int) == (Z : Int)) = true := by simp
        refine Fn.intro [.tmp 2] Tryz.func5 rfl rfl (by decide) (by simp [Tryz.ntmps5]) ?_; rw [Tryz.ntmps5]
        repeat' (first | omega | ((first | refine awC_sound _ _ _ _ ?_ | skip); simp only [go_sem, Nat.reduceLT, Nat.reduceLeDiff, Nat.reduceEqDiff, Nat.reduceBEq, Nat.reduceBNe, Nat.reduceAdd, Nat.reduceMul, Nat.reduceSub, Nat.reduceDiv, Nat.reduceMod, Int.reduceToNat, Int.reduceAdd, Int.reduceLT, Int.reduceLE, Int.reduceEq, Int.reduceSub, Int.reduceMul, Int.reduceNeg, ↓reduceIte, reduceCtorEq]) | (refine gspDI ?_ ?_ <;> (intro _hh; (try simp only [_hh]); revert _hh)) | refine gspLI ?_ ?_ | refine condLI ?_ ?_ | refine gspI ?_ ?_ | refine And.intro ?_ ?_ | with_reducible intro _hh | trivial | (simp only [cl1, cl2, cl3, List.length_cons, List.length_nil, List.length_append]; omega))
        refine ⟨CallB.fn rfl hA ?_⟩
        repeat' (first | omega | ((first | refine awC_sound _ _ _ _ ?_ | skip); simp only [go_sem, Nat.reduceLT, Nat.reduceLeDiff, Nat.reduceEqDiff, Nat.reduceBEq, Nat.reduceBNe, Nat.reduceAdd, Nat.reduceMul, Nat.reduceSub, Nat.reduceDiv, Nat.reduceMod, Int.reduceToNat, Int.reduceAdd, Int.reduceLT, Int.reduceLE, Int.reduceEq, Int.reduceSub, Int.reduceMul, Int.reduceNeg, ↓reduceIte, reduceCtorEq]) | (refine gspDI ?_ ?_ <;> (intro _hh; (try simp only [_hh]); revert _hh)) | refine gspLI ?_ ?_ | refine condLI ?_ ?_ | refine gspI ?_ ?_ | refine And.intro ?_ ?_ | with_reducible intro _hh | trivial | (simp only [cl1, cl2, cl3, List.length_cons, List.length_nil, List.length_append]; omega))
        refine ⟨CallB.fn rfl hG ?_⟩
        repeat' (first | omega | ((first | refine awC_sound _ _ _ _ ?_ | skip); simp only [go_sem, Nat.reduceLT, Nat.reduceLeDiff, Nat.reduceEqDiff, Nat.reduceBEq, Nat.reduceBNe, Nat.reduceAdd, Nat.reduceMul, Nat.reduceSub, Nat.reduceDiv, Nat.reduceMod, Int.reduceToNat, Int.reduceAdd, Int.reduceLT, Int.reduceLE, Int.reduceEq, Int.reduceSub, Int.reduceMul, Int.reduceNeg, ↓reduceIte, reduceCtorEq]) | (refine gspDI ?_ ?_ <;> (intro _hh; (try simp only [_hh]); revert _hh)) | refine gspLI ?_ ?_ | refine condLI ?_ ?_ | refine gspI ?_ ?_ | refine And.intro ?_ ?_ | with_reducible intro _hh | trivial | (simp only [cl1, cl2, cl3, List.length_cons, List.length_nil, List.length_append]; omega))
        refine ⟨CallB.fn rfl hB ?_⟩
        repeat' (first | omega | ((first | refine awC_sound _ _ _ _ ?_ | skip); simp only [go_sem, Nat.reduceLT, Nat.reduceLeDiff, Nat.reduceEqDiff, Nat.reduceBEq, Nat.reduceBNe, Nat.reduceAdd, Nat.reduceMul, Nat.reduceSub, Nat.reduceDiv, Nat.reduceMod, Int.reduceToNat, Int.reduceAdd, Int.reduceLT, Int.reduceLE, Int.reduceEq, Int.reduceSub, Int.reduceMul, Int.reduceNeg, ↓reduceIte, reduceCtorEq, tmC_s3]) | (refine gspDI ?_ ?_ <;> (intro _hh; (try simp only [_hh]); revert _hh)) | refine gspLI ?_ ?_ | refine condLI ?_ ?_ | refine gspI ?_ ?_ | refine And.intro ?_ ?_ | with_reducible intro _hh | trivial | (simp only [cl1, cl2, cl3, List.length_cons, List.length_nil, List.length_append]; omega))
        refine ⟨CallB.fn rfl hAt ?_⟩
        repeat' (first | omega | ((first | refine awC_sound _ _ _ _ ?_ | skip); simp only [go_sem, Nat.reduceLT, Nat.reduceLeDiff, Nat.reduceEqDiff, Nat.reduceBEq, Nat.reduceBNe, Nat.reduceAdd, Nat.reduceMul, Nat.reduceSub, Nat.reduceDiv, Nat.reduceMod, Int.reduceToNat, Int.reduceAdd, Int.reduceLT, Int.reduceLE, Int.reduceEq, Int.reduceSub, Int.reduceMul, Int.reduceNeg, ↓reduceIte, reduceCtorEq]) | (refine gspDI ?_ ?_ <;> (intro _hh; (try simp only [_hh]); revert _hh)) | refine gspLI ?_ ?_ | refine condLI ?_ ?_ | refine gspI ?_ ?_ | refine And.intro ?_ ?_ | with_reducible intro _hh | trivial | (simp only [cl1, cl2, cl3, List.length_cons, List.length_nil, List.length_append]; omega))
        refine ⟨CallB.fn rfl hC ?_⟩
        repeat' (first | omega | ((first | refine awC_sound _ _ _ _ ?_ | skip); simp only [go_sem, Nat.reduceLT, Nat.reduceLeDiff, Nat.reduceEqDiff, Nat.reduceBEq, Nat.reduceBNe, Nat.reduceAdd, Nat.reduceMul, Nat.reduceSub, Nat.reduceDiv, Nat.reduceMod, Int.reduceToNat, Int.reduceAdd, Int.reduceLT, Int.reduceLE, Int.reduceEq, Int.reduceSub, Int.reduceMul, Int.reduceNeg, ↓reduceIte, reduceCtorEq, hcc, Int.toNat_natCast, hZi, Int.one_mul, b1]) | (refine gspDI ?_ ?_ <;> (intro _hh; (try simp only [_hh]); revert _hh)) | refine gspLI ?_ ?_ | refine condLI ?_ ?_ | refine gspI ?_ ?_ | refine And.intro ?_ ?_ | with_reducible intro _hh | trivial | (simp only [cl1, cl2, cl3, List.length_cons, List.length_nil, List.length_append]; omega))
        all_goals trace_state
      · have b1 : (-(Z : Int) == (Z : Int)) = false := by rw [beq_eq_false_iff_ne]; omega
        have b2 : (-(Z : Int) == -(Z : Int)) = true := by simp
        refine Fn.intro [.tmp 2] Tryz.func5 rfl rfl (by decide) (by simp [Tryz.ntmps5]) ?_; rw [Tryz.ntmps5]
        repeat' (first | omega | ((first | refine awC_sound _ _ _ _ ?_ | skip); simp only [go_sem, Nat.reduceLT, Nat.reduceLeDiff, Nat.reduceEqDiff, Nat.reduceBEq, Nat.reduceBNe, Nat.reduceAdd, Nat.reduceMul, Nat.reduceSub, Nat.reduceDiv, Nat.reduceMod, Int.reduceToNat, Int.reduceAdd, Int.reduceLT, Int.reduceLE, Int.reduceEq, Int.reduceSub, Int.reduceMul, Int.reduceNeg, ↓reduceIte, reduceCtorEq]) | (refine gspDI ?_ ?_ <;> (intro _hh; (try simp only [_hh]); revert _hh)) | refine gspLI ?_ ?_ | refine condLI ?_ ?_ | refine gspI ?_ ?_ | refine And.intro ?_ ?_ | with_reducible intro _hh | trivial | (simp only [cl1, cl2, cl3, List.length_cons, List.length_nil, List.length_append]; omega))
        refine ⟨CallB.fn rfl hA ?_⟩
        repeat' (first | omega | ((first | refine awC_sound _ _ _ _ ?_ | skip); simp only [go_sem, Nat.reduceLT, Nat.reduceLeDiff, Nat.reduceEqDiff, Nat.reduceBEq, Nat.reduceBNe, Nat.reduceAdd, Nat.reduceMul, Nat.reduceSub, Nat.reduceDiv, Nat.reduceMod, Int.reduceToNat, Int.reduceAdd, Int.reduceLT, Int.reduceLE, Int.reduceEq, Int.reduceSub, Int.reduceMul, Int.reduceNeg, ↓reduceIte, reduceCtorEq]) | (refine gspDI ?_ ?_ <;> (intro _hh; (try simp only [_hh]); revert _hh)) | refine gspLI ?_ ?_ | refine condLI ?_ ?_ | refine gspI ?_ ?_ | refine And.intro ?_ ?_ | with_reducible intro _hh | trivial | (simp only [cl1, cl2, cl3, List.length_cons, List.length_nil, List.length_append]; omega))
        refine ⟨CallB.fn rfl hG ?_⟩
        repeat' (first | omega | ((first | refine awC_sound _ _ _ _ ?_ | skip); simp only [go_sem, Nat.reduceLT, Nat.reduceLeDiff, Nat.reduceEqDiff, Nat.reduceBEq, Nat.reduceBNe, Nat.reduceAdd, Nat.reduceMul, Nat.reduceSub, Nat.reduceDiv, Nat.reduceMod, Int.reduceToNat, Int.reduceAdd, Int.reduceLT, Int.reduceLE, Int.reduceEq, Int.reduceSub, Int.reduceMul, Int.reduceNeg, ↓reduceIte, reduceCtorEq]) | (refine gspDI ?_ ?_ <;> (intro _hh; (try simp only [_hh]); revert _hh)) | refine gspLI ?_ ?_ | refine condLI ?_ ?_ | refine gspI ?_ ?_ | refine And.intro ?_ ?_ | with_reducible intro _hh | trivial | (simp only [cl1, cl2, cl3, List.length_cons, List.length_nil, List.length_append]; omega))
        refine ⟨CallB.fn rfl hB ?_⟩
        repeat' (first | omega | ((first | refine awC_sound _ _ _ _ ?_ | skip); simp only [go_sem, Nat.reduceLT, Nat.reduceLeDiff, Nat.reduceEqDiff, Nat.reduceBEq, Nat.reduceBNe, Nat.reduceAdd, Nat.reduceMul, Nat.reduceSub, Nat.reduceDiv, Nat.reduceMod, Int.reduceToNat, Int.reduceAdd, Int.reduceLT, Int.reduceLE, Int.reduceEq, Int.reduceSub, Int.reduceMul, Int.reduceNeg, ↓reduceIte, reduceCtorEq, tmC_s3]) | (refine gspDI ?_ ?_ <;> (intro _hh; (try simp only [_hh]); revert _hh)) | refine gspLI ?_ ?_ | refine condLI ?_ ?_ | refine gspI ?_ ?_ | refine And.intro ?_ ?_ | with_reducible intro _hh | trivial | (simp only [cl1, cl2, cl3, List.length_cons, List.length_nil, List.length_append]; omega))
        refine ⟨CallB.fn rfl hAt ?_⟩
        repeat' (first | omega | ((first | refine awC_sound _ _ _ _ ?_ | skip); simp only [go_sem, Nat.reduceLT, Nat.reduceLeDiff, Nat.reduceEqDiff, Nat.reduceBEq, Nat.reduceBNe, Nat.reduceAdd, Nat.reduceMul, Nat.reduceSub, Nat.reduceDiv, Nat.reduceMod, Int.reduceToNat, Int.reduceAdd, Int.reduceLT, Int.reduceLE, Int.reduceEq, Int.reduceSub, Int.reduceMul, Int.reduceNeg, ↓reduceIte, reduceCtorEq]) | (refine gspDI ?_ ?_ <;> (intro _hh; (try simp only [_hh]); revert _hh)) | refine gspLI ?_ ?_ | refine condLI ?_ ?_ | refine gspI ?_ ?_ | refine And.intro ?_ ?_ | with_reducible intro _hh | trivial | (simp only [cl1, cl2, cl3, List.length_cons, List.length_nil, List.length_append]; omega))
        refine ⟨CallB.fn rfl hC ?_⟩
        repeat' (first | omega | ((first | refine awC_sound _ _ _ _ ?_ | skip); simp only [go_sem, Nat.reduceLT, Nat.reduceLeDiff, Nat.reduceEqDiff, Nat.reduceBEq, Nat.reduceBNe, Nat.reduceAdd, Nat.reduceMul, Nat.reduceSub, Nat.reduceDiv, Nat.reduceMod, Int.reduceToNat, Int.reduceAdd, Int.reduceLT, Int.reduceLE, Int.reduceEq, Int.reduceSub, Int.reduceMul, Int.reduceNeg, ↓reduceIte, reduceCtorEq, hcc, Int.toNat_natCast, hZi, Int.one_mul, b1]) | (refine gspDI ?_ ?_ <;> (intro _hh; (try simp only [_hh]); revert _hh)) | refine gspLI ?_ ?_ | refine condLI ?_ ?_ | refine gspI ?_ ?_ | refine And.intro ?_ ?_ | with_reducible intro _hh | trivial | (simp only [cl1, cl2, cl3, List.length_cons, List.length_nil, List.length_append]; omega))
        all_goals (try (refine ⟨CallB.fn rfl hC ?_⟩))
        all_goals (repeat' (first | omega | ((first | refine awC_sound _ _ _ _ ?_ | skip); simp only [go_sem, Nat.reduceLT, Nat.reduceLeDiff, Nat.reduceEqDiff, Nat.reduceBEq, Nat.reduceBNe, Nat.reduceAdd, Nat.reduceMul, Nat.reduceSub, Nat.reduceDiv, Nat.reduceMod, Int.reduceToNat, Int.reduceAdd, Int.reduceLT, Int.reduceLE, Int.reduceEq, Int.reduceSub, Int.reduceMul, Int.reduceNeg, ↓reduceIte, reduceCtorEq, hcc, Int.toNat_natCast, hZi, Int.one_mul, Int.neg_one_mul, Int.neg_mul, b1, b2]) | (refine gspDI ?_ ?_ <;> (intro _hh; (try simp only [_hh]); revert _hh)) | refine gspLI ?_ ?_ | refine condLI ?_ ?_ | refine gspI ?_ ?_ | refine And.intro ?_ ?_ | with_reducible intro _hh | trivial | (simp only [cl1, cl2, cl3, List.length_cons, List.length_nil, List.length_append]; omega)))
        all_goals trace_state
end Go.Proofs.YtmfdclbiljpmgaaGreatDoor
