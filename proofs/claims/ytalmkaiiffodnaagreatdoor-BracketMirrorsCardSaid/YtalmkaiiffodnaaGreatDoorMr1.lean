/- Layer 15: the law BracketMirrors. -/
import Derived.Test.YtalmkaiiffodnaaGreatDoorAw5
import Derived.Test.YtalmkaiiffodnaaGreatDoorBr7
import Derived.Test.YtalmkaiiffodnaaGreatDoorBr8
import Derived.Test.YtalmkaiiffodnaaGreatDoorEq1
import Derived.Test.YtalmkaiiffodnaaGreatDoorFl1
import Derived.Test.YtalmkaiiffodnaaGreatDoorXd
import Derived.Test.YtalmkaiiffodnaaGreatDoorRn1
set_option linter.unusedSimpArgs false
set_option linter.unusedVariables false
namespace Go.Proofs.YtalmkaiiffodnaaGreatDoor
open Go Go.RowKit
set_option maxRecDepth 100000
set_option maxHeartbeats 8000000
theorem bP_ok {s m : List Int} {L : Nat} (hp : PmOk m s.length) (hs : s.length ≤ 9) (hL : L ≤ 20) : PolyB (brP m s.length L) (brT m s.length L 1) := listOf_ok fun e he => brT_sup hp hs hL (by omega) he
theorem ngP_cf (e : Int) : ∀ (p : List (Int × Int)), cfL (ngP p) e = cfL p (-e)
  | [] => rfl
  | t :: p => by
    have := ngP_cf e p
    have h : ngP (t :: p) = (-t.1, t.2) :: ngP p := rfl
    rw [h]
    simp only [cfL, this]
    by_cases h1 : t.1 = -e
    · rw [if_pos (by omega), if_pos h1]
    · rw [if_neg (by omega), if_neg h1]
theorem cfL_rev (e : Int) (p : List (Int × Int)) : cfL p.reverse e = cfL p e := by
  induction p with
  | nil => rfl
  | cons t p ih => rw [List.reverse_cons, cfL_app, ih]; simp only [cfL]; omega
theorem flP_asc {p : List (Int × Int)} (h : AscN p) : AscN (flP p) := by
  unfold flP ngP
  refine ⟨?_, fun t ht => ?_⟩
  · rw [List.pairwise_reverse, List.pairwise_map]
    exact h.asc.imp fun hab => by show -_ < -_; omega
  · obtain ⟨u, hu, rfl⟩ := List.mem_map.1 (List.mem_reverse.1 ht)
    exact h.nz u hu
theorem flP_br {s m m' : List Int} {n L : Nat} (hP : PolyB (brP m n L) (brT m n L 1)) (hf : ∀ e, brT m' n L 1 e = brT m n L 1 (-e)) (hs : ∀ e, brT m' n L 1 e ≠ 0 → -1000 ≤ e ∧ e ≤ 1000) : brP m' n L = flP (brP m n L) := by
  have : PolyB (flP (brP m n L)) (brT m' n L 1) := ⟨flP_asc hP.asc, fun e => by unfold flP; rw [cfL_rev, ngP_cf, hP.cf, hf]⟩
  exact (this.eq hs).symm
theorem fn_BracketMirrors (s m : List Int) (L : Int) (o : List Int) : Fn Tryz.prog 4 [dgA s m L, roI o] (.bool true) := by
  have hA := fn_awake15
  have hG := fn_great15 s m L
  cases hg : grB15 s m L with
  | true =>
    rw [hg] at hG
    refine Fn.intro [.tmp 4] Tryz.func4 rfl rfl (by decide) (by simp [Tryz.ntmps4]) ?_; rw [Tryz.ntmps4]
    repeat' (first | omega | ((first | refine awC_sound _ _ _ _ ?_ | skip); simp only [go_sem, Nat.reduceLT, Nat.reduceLeDiff, Nat.reduceEqDiff, Nat.reduceBEq, Nat.reduceBNe, Nat.reduceAdd, Nat.reduceMul, Nat.reduceSub, Nat.reduceDiv, Nat.reduceMod, Int.reduceToNat, Int.reduceAdd, Int.reduceLT, Int.reduceLE, Int.reduceEq, Int.reduceSub, Int.reduceMul, Int.reduceNeg, ↓reduceIte, reduceCtorEq]) | (refine gspDI ?_ ?_ <;> (intro _hh; (try simp only [_hh]); revert _hh)) | refine gspLI ?_ ?_ | refine condLI ?_ ?_ | refine gspI ?_ ?_ | refine And.intro ?_ ?_ | with_reducible intro _hh | trivial | (simp only [cl1, cl2, cl3, List.length_cons, List.length_nil, List.length_append]; omega))
    refine ⟨CallB.fn rfl hA ?_⟩
    repeat' (first | omega | ((first | refine awC_sound _ _ _ _ ?_ | skip); simp only [go_sem, Nat.reduceLT, Nat.reduceLeDiff, Nat.reduceEqDiff, Nat.reduceBEq, Nat.reduceBNe, Nat.reduceAdd, Nat.reduceMul, Nat.reduceSub, Nat.reduceDiv, Nat.reduceMod, Int.reduceToNat, Int.reduceAdd, Int.reduceLT, Int.reduceLE, Int.reduceEq, Int.reduceSub, Int.reduceMul, Int.reduceNeg, ↓reduceIte, reduceCtorEq]) | (refine gspDI ?_ ?_ <;> (intro _hh; (try simp only [_hh]); revert _hh)) | refine gspLI ?_ ?_ | refine condLI ?_ ?_ | refine gspI ?_ ?_ | refine And.intro ?_ ?_ | with_reducible intro _hh | trivial | (simp only [cl1, cl2, cl3, List.length_cons, List.length_nil, List.length_append]; omega))
    refine ⟨CallB.fn rfl hG ?_⟩
    repeat' (first | omega | ((first | refine awC_sound _ _ _ _ ?_ | skip); simp only [go_sem, Nat.reduceLT, Nat.reduceLeDiff, Nat.reduceEqDiff, Nat.reduceBEq, Nat.reduceBNe, Nat.reduceAdd, Nat.reduceMul, Nat.reduceSub, Nat.reduceDiv, Nat.reduceMod, Int.reduceToNat, Int.reduceAdd, Int.reduceLT, Int.reduceLE, Int.reduceEq, Int.reduceSub, Int.reduceMul, Int.reduceNeg, ↓reduceIte, reduceCtorEq]) | (refine gspDI ?_ ?_ <;> (intro _hh; (try simp only [_hh]); revert _hh)) | refine gspLI ?_ ?_ | refine condLI ?_ ?_ | refine gspI ?_ ?_ | refine And.intro ?_ ?_ | with_reducible intro _hh | trivial | (simp only [cl1, cl2, cl3, List.length_cons, List.length_nil, List.length_append]; omega))
  | false =>
    rw [hg] at hG
    by_cases h8 : 8 < s.length
    · have c8 : decide ((8 : Int) < s.length) = true := by simp; omega
      refine Fn.intro [.tmp 4] Tryz.func4 rfl rfl (by decide) (by simp [Tryz.ntmps4]) ?_; rw [Tryz.ntmps4]
      repeat' (first | omega | ((first | refine awC_sound _ _ _ _ ?_ | skip); simp only [go_sem, Nat.reduceLT, Nat.reduceLeDiff, Nat.reduceEqDiff, Nat.reduceBEq, Nat.reduceBNe, Nat.reduceAdd, Nat.reduceMul, Nat.reduceSub, Nat.reduceDiv, Nat.reduceMod, Int.reduceToNat, Int.reduceAdd, Int.reduceLT, Int.reduceLE, Int.reduceEq, Int.reduceSub, Int.reduceMul, Int.reduceNeg, ↓reduceIte, reduceCtorEq]) | (refine gspDI ?_ ?_ <;> (intro _hh; (try simp only [_hh]); revert _hh)) | refine gspLI ?_ ?_ | refine condLI ?_ ?_ | refine gspI ?_ ?_ | refine And.intro ?_ ?_ | with_reducible intro _hh | trivial | (simp only [cl1, cl2, cl3, List.length_cons, List.length_nil, List.length_append]; omega))
      refine ⟨CallB.fn rfl hA ?_⟩
      repeat' (first | omega | ((first | refine awC_sound _ _ _ _ ?_ | skip); simp only [go_sem, Nat.reduceLT, Nat.reduceLeDiff, Nat.reduceEqDiff, Nat.reduceBEq, Nat.reduceBNe, Nat.reduceAdd, Nat.reduceMul, Nat.reduceSub, Nat.reduceDiv, Nat.reduceMod, Int.reduceToNat, Int.reduceAdd, Int.reduceLT, Int.reduceLE, Int.reduceEq, Int.reduceSub, Int.reduceMul, Int.reduceNeg, ↓reduceIte, reduceCtorEq]) | (refine gspDI ?_ ?_ <;> (intro _hh; (try simp only [_hh]); revert _hh)) | refine gspLI ?_ ?_ | refine condLI ?_ ?_ | refine gspI ?_ ?_ | refine And.intro ?_ ?_ | with_reducible intro _hh | trivial | (simp only [cl1, cl2, cl3, List.length_cons, List.length_nil, List.length_append]; omega))
      refine ⟨CallB.fn rfl hG ?_⟩
      repeat' (first | omega | ((first | refine awC_sound _ _ _ _ ?_ | skip); simp only [go_sem, Nat.reduceLT, Nat.reduceLeDiff, Nat.reduceEqDiff, Nat.reduceBEq, Nat.reduceBNe, Nat.reduceAdd, Nat.reduceMul, Nat.reduceSub, Nat.reduceDiv, Nat.reduceMod, Int.reduceToNat, Int.reduceAdd, Int.reduceLT, Int.reduceLE, Int.reduceEq, Int.reduceSub, Int.reduceMul, Int.reduceNeg, ↓reduceIte, reduceCtorEq, c8]) | (refine gspDI ?_ ?_ <;> (intro _hh; (try simp only [_hh]); revert _hh)) | refine gspLI ?_ ?_ | refine condLI ?_ ?_ | refine gspI ?_ ?_ | refine And.intro ?_ ?_ | with_reducible intro _hh | trivial | (simp only [cl1, cl2, cl3, List.length_cons, List.length_nil, List.length_append]; omega))
    have c8 : decide ((8 : Int) < s.length) = false := by simp; omega
    by_cases h20 : 20 < o.length
    · have c20 : decide ((20 : Int) < o.length) = true := by simp; omega
      refine Fn.intro [.tmp 4] Tryz.func4 rfl rfl (by decide) (by simp [Tryz.ntmps4]) ?_; rw [Tryz.ntmps4]
      repeat' (first | omega | ((first | refine awC_sound _ _ _ _ ?_ | skip); simp only [go_sem, Nat.reduceLT, Nat.reduceLeDiff, Nat.reduceEqDiff, Nat.reduceBEq, Nat.reduceBNe, Nat.reduceAdd, Nat.reduceMul, Nat.reduceSub, Nat.reduceDiv, Nat.reduceMod, Int.reduceToNat, Int.reduceAdd, Int.reduceLT, Int.reduceLE, Int.reduceEq, Int.reduceSub, Int.reduceMul, Int.reduceNeg, ↓reduceIte, reduceCtorEq]) | (refine gspDI ?_ ?_ <;> (intro _hh; (try simp only [_hh]); revert _hh)) | refine gspLI ?_ ?_ | refine condLI ?_ ?_ | refine gspI ?_ ?_ | refine And.intro ?_ ?_ | with_reducible intro _hh | trivial | (simp only [cl1, cl2, cl3, List.length_cons, List.length_nil, List.length_append]; omega))
      refine ⟨CallB.fn rfl hA ?_⟩
      repeat' (first | omega | ((first | refine awC_sound _ _ _ _ ?_ | skip); simp only [go_sem, Nat.reduceLT, Nat.reduceLeDiff, Nat.reduceEqDiff, Nat.reduceBEq, Nat.reduceBNe, Nat.reduceAdd, Nat.reduceMul, Nat.reduceSub, Nat.reduceDiv, Nat.reduceMod, Int.reduceToNat, Int.reduceAdd, Int.reduceLT, Int.reduceLE, Int.reduceEq, Int.reduceSub, Int.reduceMul, Int.reduceNeg, ↓reduceIte, reduceCtorEq]) | (refine gspDI ?_ ?_ <;> (intro _hh; (try simp only [_hh]); revert _hh)) | refine gspLI ?_ ?_ | refine condLI ?_ ?_ | refine gspI ?_ ?_ | refine And.intro ?_ ?_ | with_reducible intro _hh | trivial | (simp only [cl1, cl2, cl3, List.length_cons, List.length_nil, List.length_append]; omega))
      refine ⟨CallB.fn rfl hG ?_⟩
      repeat' (first | omega | ((first | refine awC_sound _ _ _ _ ?_ | skip); simp only [go_sem, Nat.reduceLT, Nat.reduceLeDiff, Nat.reduceEqDiff, Nat.reduceBEq, Nat.reduceBNe, Nat.reduceAdd, Nat.reduceMul, Nat.reduceSub, Nat.reduceDiv, Nat.reduceMod, Int.reduceToNat, Int.reduceAdd, Int.reduceLT, Int.reduceLE, Int.reduceEq, Int.reduceSub, Int.reduceMul, Int.reduceNeg, ↓reduceIte, reduceCtorEq, c8, c20]) | (refine gspDI ?_ ?_ <;> (intro _hh; (try simp only [_hh]); revert _hh)) | refine gspLI ?_ ?_ | refine condLI ?_ ?_ | refine gspI ?_ ?_ | refine And.intro ?_ ?_ | with_reducible intro _hh | trivial | (simp only [cl1, cl2, cl3, List.length_cons, List.length_nil, List.length_append]; omega))
    have c20 : decide ((20 : Int) < o.length) = false := by simp; omega
    have off : ∀ (p : List (Int × Int)) (e : Int), e ≠ 0 → Fn Tryz.prog 7 [dgA s m L] (.tup [plA false p, I e]) → Fn Tryz.prog 4 [dgA s m L, roI o] (.bool true) := fun p e he hB => by
      have be : (e != 0) = true := by simpa using he
      refine Fn.intro [.tmp 4] Tryz.func4 rfl rfl (by decide) (by simp [Tryz.ntmps4]) ?_; rw [Tryz.ntmps4]
      repeat' (first | omega | ((first | refine awC_sound _ _ _ _ ?_ | skip); simp only [go_sem, Nat.reduceLT, Nat.reduceLeDiff, Nat.reduceEqDiff, Nat.reduceBEq, Nat.reduceBNe, Nat.reduceAdd, Nat.reduceMul, Nat.reduceSub, Nat.reduceDiv, Nat.reduceMod, Int.reduceToNat, Int.reduceAdd, Int.reduceLT, Int.reduceLE, Int.reduceEq, Int.reduceSub, Int.reduceMul, Int.reduceNeg, ↓reduceIte, reduceCtorEq]) | (refine gspDI ?_ ?_ <;> (intro _hh; (try simp only [_hh]); revert _hh)) | refine gspLI ?_ ?_ | refine condLI ?_ ?_ | refine gspI ?_ ?_ | refine And.intro ?_ ?_ | with_reducible intro _hh | trivial | (simp only [cl1, cl2, cl3, List.length_cons, List.length_nil, List.length_append]; omega))
      refine ⟨CallB.fn rfl hA ?_⟩
      repeat' (first | omega | ((first | refine awC_sound _ _ _ _ ?_ | skip); simp only [go_sem, Nat.reduceLT, Nat.reduceLeDiff, Nat.reduceEqDiff, Nat.reduceBEq, Nat.reduceBNe, Nat.reduceAdd, Nat.reduceMul, Nat.reduceSub, Nat.reduceDiv, Nat.reduceMod, Int.reduceToNat, Int.reduceAdd, Int.reduceLT, Int.reduceLE, Int.reduceEq, Int.reduceSub, Int.reduceMul, Int.reduceNeg, ↓reduceIte, reduceCtorEq]) | (refine gspDI ?_ ?_ <;> (intro _hh; (try simp only [_hh]); revert _hh)) | refine gspLI ?_ ?_ | refine condLI ?_ ?_ | refine gspI ?_ ?_ | refine And.intro ?_ ?_ | with_reducible intro _hh | trivial | (simp only [cl1, cl2, cl3, List.length_cons, List.length_nil, List.length_append]; omega))
      refine ⟨CallB.fn rfl hG ?_⟩
      repeat' (first | omega | ((first | refine awC_sound _ _ _ _ ?_ | skip); simp only [go_sem, Nat.reduceLT, Nat.reduceLeDiff, Nat.reduceEqDiff, Nat.reduceBEq, Nat.reduceBNe, Nat.reduceAdd, Nat.reduceMul, Nat.reduceSub, Nat.reduceDiv, Nat.reduceMod, Int.reduceToNat, Int.reduceAdd, Int.reduceLT, Int.reduceLE, Int.reduceEq, Int.reduceSub, Int.reduceMul, Int.reduceNeg, ↓reduceIte, reduceCtorEq, c8, c20]) | (refine gspDI ?_ ?_ <;> (intro _hh; (try simp only [_hh]); revert _hh)) | refine gspLI ?_ ?_ | refine condLI ?_ ?_ | refine gspI ?_ ?_ | refine And.intro ?_ ?_ | with_reducible intro _hh | trivial | (simp only [cl1, cl2, cl3, List.length_cons, List.length_nil, List.length_append]; omega))
      refine ⟨CallB.fn rfl hB ?_⟩
      repeat' (first | omega | ((first | refine awC_sound _ _ _ _ ?_ | skip); simp only [go_sem, Nat.reduceLT, Nat.reduceLeDiff, Nat.reduceEqDiff, Nat.reduceBEq, Nat.reduceBNe, Nat.reduceAdd, Nat.reduceMul, Nat.reduceSub, Nat.reduceDiv, Nat.reduceMod, Int.reduceToNat, Int.reduceAdd, Int.reduceLT, Int.reduceLE, Int.reduceEq, Int.reduceSub, Int.reduceMul, Int.reduceNeg, ↓reduceIte, reduceCtorEq, be]) | (refine gspDI ?_ ?_ <;> (intro _hh; (try simp only [_hh]); revert _hh)) | refine gspLI ?_ ?_ | refine condLI ?_ ?_ | refine gspI ?_ ?_ | refine And.intro ?_ ?_ | with_reducible intro _hh | trivial | (simp only [cl1, cl2, cl3, List.length_cons, List.length_nil, List.length_append]; omega))
    cases hv : validB s m L with
    | false => exact off [] 1 (by decide) (fn_BracketI s m L hv)
    | true =>
      have v1 := valid1 hv
      have hl0 := v1.l0
      obtain ⟨Ln, rfl⟩ : ∃ Ln : Nat, L = Ln := ⟨L.toNat, by omega⟩
      by_cases h0 : s.length = 0 ∧ Ln = 0
      · have hs0 : s = [] := List.length_eq_zero_iff.1 h0.1
        obtain ⟨_, rfl⟩ := h0
        subst hs0
        exact off [] 8 (by decide) (fn_BracketE m hv)
      by_cases hf : 14 < s.length ∨ (20 : Int) < Ln
      · exact off [] 5 (by decide) (fn_BracketF s m Ln hv (fun h => h0 ⟨h.1, by omega⟩) hf)
      have hsz : s.length ≤ 9 ∧ Ln ≤ 20 := by omega
      have hB := fn_Bracket s m Ln hv h0 hsz.1 hsz.2
      have hp := pmOk hv
      have hP := bP_ok hp hsz.1 hsz.2
      have hPl := hP.len fun e he => brT_sup hp hsz.1 hsz.2 (j := 1) (by omega) he
      have vX := mirror_valid hv
      have vY := reflect_valid hv
      have vZ := reverse_valid hv
      have lX : (exS s fun _ => true).length = s.length := by unfold exS; rw [sgM_len]
      have lY : (sgM s (fun _ => -1) s.length).length = s.length := sgM_len _ _ _
      have lZ : (sgM s (fun _ => 1) s.length).length = s.length := sgM_len _ _ _
      have hX := fn_Mirror s m Ln hv
      have hY := fn_Reflect s m Ln hv
      have hZ := fn_Reverse s m Ln hv
      have bX := fn_Bracket _ _ Ln vX (by rw [lX]; exact h0) (by rw [lX]; exact hsz.1) hsz.2
      have bY := fn_Bracket _ _ Ln vY (by rw [lY]; exact h0) (by rw [lY]; exact hsz.1) hsz.2
      have bZ := fn_Bracket _ _ Ln vZ (by rw [lZ]; exact h0) (by rw [lZ]; exact hsz.1) hsz.2
      have pX := pmOk vX
      have pY := pmOk vY
      have pZ := pmOk vZ
      rw [lX] at bX pX
      rw [lY] at bY pY
      rw [lZ] at bZ pZ
      have eX : brP (exM s m fun _ => true) s.length Ln = flP (brP m s.length Ln) := flP_br (s := s) hP (mirror_br hv Ln 1) fun e he => brT_sup pX hsz.1 hsz.2 (j := 1) (by omega) he
      have eY : brP (mvM m (fun h => turnM h (4 - 2 * (h % 4))) m.length) s.length Ln = flP (brP m s.length Ln) := flP_br (s := s) hP (reflect_br hv Ln 1) fun e he => brT_sup pY hsz.1 hsz.2 (j := 1) (by omega) he
      have eZ : brP (mvM m (fun h => turnM h 2) m.length) s.length Ln = brP m s.length Ln := by
        unfold brP; rw [show brT (mvM m (fun h => turnM h 2) m.length) s.length Ln 1 = brT m s.length Ln 1 from funext (reverse_br hv Ln 1)]
      rw [eX] at bX
      rw [eY] at bY
      rw [eZ] at bZ
      have hF := fn_Flip (brP m s.length Ln) (fun t ht => by have := brT_sup hp hsz.1 hsz.2 (j := 1) (by omega) (hP.mem ht).2; omega) (fun h2 => by
        have := List.pairwise_iff_getElem.1 hP.asc.asc 0 1 (by omega) h2 (by omega)
        simpa [List.getD_eq_getElem?_getD, List.getElem?_eq_getElem h2, List.getElem?_eq_getElem (show 0 < (brP m s.length Ln).length by omega)] using this) (by omega)
      have hfl : (flP (brP m s.length Ln)).length = (brP m s.length Ln).length := by simp [flP, ngP]
      have qE := fn_Equal (brP m s.length Ln) (by omega)
      have qF := fn_Equal (flP (brP m s.length Ln)) (by omega)
      obtain ⟨x, e, hR, hRe⟩ : ∃ (x : AV) (e : Int), Fn Tryz.prog 19 [dgA s m Ln, roI o] (.tup [x, I e]) ∧ ((x = emD ∧ e = 2) ∨ (∃ s' m', x = dgA s' m' Ln ∧ e = 0 ∧ Fn Tryz.prog 7 [dgA s' m' Ln] (.tup [plA false (brP m s.length Ln), I 0]))) := by
        by_cases hol : o.length = s.length
        · rcases nu_first o s.length s.length with h | ⟨k, h1, h2, h3⟩
          · have hor := nu_ord hol h
            have vW := rn_valid hv hor
            have lW : (rnS s (fun i => (o.getD i 0).toNat) s.length).length = s.length := by simp [rnS]
            have bW := fn_Bracket _ _ Ln vW (by rw [lW]; exact h0) (by rw [lW]; exact hsz.1) hsz.2
            rw [lW] at bW
            have eW : brP (rnM m (fun i => (o.getD i 0).toNat) (fun c => ((nuL o s.length s.length).getD c 0).toNat) s.length) s.length Ln = brP m s.length Ln := by
              unfold brP; rw [show brT (rnM m (fun i => (o.getD i 0).toNat) (fun c => ((nuL o s.length s.length).getD c 0).toNat) s.length) s.length Ln 1 = brT m s.length Ln 1 from funext (rn_br hv hor Ln 1)]
            rw [eW] at bW
            exact ⟨_, _, fn_Renumber s m Ln o hv hol h, .inr ⟨_, _, rfl, rfl, bW⟩⟩
          · exact ⟨_, _, fn_RenumberB s m Ln o hv hol k h1 h2 h3, .inl ⟨rfl, rfl⟩⟩
        · exact ⟨_, _, fn_RenumberL s m Ln o hv hol (by omega), .inl ⟨rfl, rfl⟩⟩
      generalize brP m s.length Ln = P at *
      generalize (exS s fun _ => true) = sX at *
      generalize (exM s m fun _ => true) = mX at *
      generalize sgM s (fun _ => -1) s.length = sY at *
      generalize mvM m (fun h => turnM h (4 - 2 * (h % 4))) m.length = mY at *
      generalize sgM s (fun _ => 1) s.length = sZ at *
      generalize mvM m (fun h => turnM h 2) m.length = mZ at *
      generalize flP P = Q at *
      rcases hRe with ⟨rfl, rfl⟩ | ⟨s', m', rfl, rfl, bW⟩
      all_goals
        refine Fn.intro [.tmp 4] Tryz.func4 rfl rfl (by decide) (by simp [Tryz.ntmps4]) ?_; rw [Tryz.ntmps4]
        repeat' (first | omega | ((first | refine awC_sound _ _ _ _ ?_ | skip); simp only [go_sem, Nat.reduceLT, Nat.reduceLeDiff, Nat.reduceEqDiff, Nat.reduceBEq, Nat.reduceBNe, Nat.reduceAdd, Nat.reduceMul, Nat.reduceSub, Nat.reduceDiv, Nat.reduceMod, Int.reduceToNat, Int.reduceAdd, Int.reduceLT, Int.reduceLE, Int.reduceEq, Int.reduceSub, Int.reduceMul, Int.reduceNeg, ↓reduceIte, reduceCtorEq]) | (refine gspDI ?_ ?_ <;> (intro _hh; (try simp only [_hh]); revert _hh)) | refine gspLI ?_ ?_ | refine condLI ?_ ?_ | refine gspI ?_ ?_ | refine And.intro ?_ ?_ | with_reducible intro _hh | trivial | (simp only [cl1, cl2, cl3, List.length_cons, List.length_nil, List.length_append]; omega))
        refine ⟨CallB.fn rfl hA ?_⟩
        repeat' (first | omega | ((first | refine awC_sound _ _ _ _ ?_ | skip); simp only [go_sem, Nat.reduceLT, Nat.reduceLeDiff, Nat.reduceEqDiff, Nat.reduceBEq, Nat.reduceBNe, Nat.reduceAdd, Nat.reduceMul, Nat.reduceSub, Nat.reduceDiv, Nat.reduceMod, Int.reduceToNat, Int.reduceAdd, Int.reduceLT, Int.reduceLE, Int.reduceEq, Int.reduceSub, Int.reduceMul, Int.reduceNeg, ↓reduceIte, reduceCtorEq]) | (refine gspDI ?_ ?_ <;> (intro _hh; (try simp only [_hh]); revert _hh)) | refine gspLI ?_ ?_ | refine condLI ?_ ?_ | refine gspI ?_ ?_ | refine And.intro ?_ ?_ | with_reducible intro _hh | trivial | (simp only [cl1, cl2, cl3, List.length_cons, List.length_nil, List.length_append]; omega))
        refine ⟨CallB.fn rfl hG ?_⟩
        repeat' (first | omega | ((first | refine awC_sound _ _ _ _ ?_ | skip); simp only [go_sem, Nat.reduceLT, Nat.reduceLeDiff, Nat.reduceEqDiff, Nat.reduceBEq, Nat.reduceBNe, Nat.reduceAdd, Nat.reduceMul, Nat.reduceSub, Nat.reduceDiv, Nat.reduceMod, Int.reduceToNat, Int.reduceAdd, Int.reduceLT, Int.reduceLE, Int.reduceEq, Int.reduceSub, Int.reduceMul, Int.reduceNeg, ↓reduceIte, reduceCtorEq, c8, c20]) | (refine gspDI ?_ ?_ <;> (intro _hh; (try simp only [_hh]); revert _hh)) | refine gspLI ?_ ?_ | refine condLI ?_ ?_ | refine gspI ?_ ?_ | refine And.intro ?_ ?_ | with_reducible intro _hh | trivial | (simp only [cl1, cl2, cl3, List.length_cons, List.length_nil, List.length_append]; omega))
        refine ⟨CallB.fn rfl hB ?_⟩
        repeat' (first | omega | ((first | refine awC_sound _ _ _ _ ?_ | skip); simp only [go_sem, Nat.reduceLT, Nat.reduceLeDiff, Nat.reduceEqDiff, Nat.reduceBEq, Nat.reduceBNe, Nat.reduceAdd, Nat.reduceMul, Nat.reduceSub, Nat.reduceDiv, Nat.reduceMod, Int.reduceToNat, Int.reduceAdd, Int.reduceLT, Int.reduceLE, Int.reduceEq, Int.reduceSub, Int.reduceMul, Int.reduceNeg, ↓reduceIte, reduceCtorEq, tmC_s3]) | (refine gspDI ?_ ?_ <;> (intro _hh; (try simp only [_hh]); revert _hh)) | refine gspLI ?_ ?_ | refine condLI ?_ ?_ | refine gspI ?_ ?_ | refine And.intro ?_ ?_ | with_reducible intro _hh | trivial | (simp only [cl1, cl2, cl3, List.length_cons, List.length_nil, List.length_append]; omega))
        refine ⟨CallB.fn rfl hX ?_⟩
        repeat' (first | omega | ((first | refine awC_sound _ _ _ _ ?_ | skip); simp only [go_sem, Nat.reduceLT, Nat.reduceLeDiff, Nat.reduceEqDiff, Nat.reduceBEq, Nat.reduceBNe, Nat.reduceAdd, Nat.reduceMul, Nat.reduceSub, Nat.reduceDiv, Nat.reduceMod, Int.reduceToNat, Int.reduceAdd, Int.reduceLT, Int.reduceLE, Int.reduceEq, Int.reduceSub, Int.reduceMul, Int.reduceNeg, ↓reduceIte, reduceCtorEq, tmC_s3]) | (refine gspDI ?_ ?_ <;> (intro _hh; (try simp only [_hh]); revert _hh)) | refine gspLI ?_ ?_ | refine condLI ?_ ?_ | refine gspI ?_ ?_ | refine And.intro ?_ ?_ | with_reducible intro _hh | trivial | (simp only [cl1, cl2, cl3, List.length_cons, List.length_nil, List.length_append]; omega))
        refine ⟨CallB.fn rfl hY ?_⟩
        repeat' (first | omega | ((first | refine awC_sound _ _ _ _ ?_ | skip); simp only [go_sem, Nat.reduceLT, Nat.reduceLeDiff, Nat.reduceEqDiff, Nat.reduceBEq, Nat.reduceBNe, Nat.reduceAdd, Nat.reduceMul, Nat.reduceSub, Nat.reduceDiv, Nat.reduceMod, Int.reduceToNat, Int.reduceAdd, Int.reduceLT, Int.reduceLE, Int.reduceEq, Int.reduceSub, Int.reduceMul, Int.reduceNeg, ↓reduceIte, reduceCtorEq, tmC_s3]) | (refine gspDI ?_ ?_ <;> (intro _hh; (try simp only [_hh]); revert _hh)) | refine gspLI ?_ ?_ | refine condLI ?_ ?_ | refine gspI ?_ ?_ | refine And.intro ?_ ?_ | with_reducible intro _hh | trivial | (simp only [cl1, cl2, cl3, List.length_cons, List.length_nil, List.length_append]; omega))
        refine ⟨CallB.fn rfl hZ ?_⟩
        repeat' (first | omega | ((first | refine awC_sound _ _ _ _ ?_ | skip); simp only [go_sem, Nat.reduceLT, Nat.reduceLeDiff, Nat.reduceEqDiff, Nat.reduceBEq, Nat.reduceBNe, Nat.reduceAdd, Nat.reduceMul, Nat.reduceSub, Nat.reduceDiv, Nat.reduceMod, Int.reduceToNat, Int.reduceAdd, Int.reduceLT, Int.reduceLE, Int.reduceEq, Int.reduceSub, Int.reduceMul, Int.reduceNeg, ↓reduceIte, reduceCtorEq, tmC_s3]) | (refine gspDI ?_ ?_ <;> (intro _hh; (try simp only [_hh]); revert _hh)) | refine gspLI ?_ ?_ | refine condLI ?_ ?_ | refine gspI ?_ ?_ | refine And.intro ?_ ?_ | with_reducible intro _hh | trivial | (simp only [cl1, cl2, cl3, List.length_cons, List.length_nil, List.length_append]; omega))
        refine ⟨CallB.fn rfl bX ?_⟩
        repeat' (first | omega | ((first | refine awC_sound _ _ _ _ ?_ | skip); simp only [go_sem, Nat.reduceLT, Nat.reduceLeDiff, Nat.reduceEqDiff, Nat.reduceBEq, Nat.reduceBNe, Nat.reduceAdd, Nat.reduceMul, Nat.reduceSub, Nat.reduceDiv, Nat.reduceMod, Int.reduceToNat, Int.reduceAdd, Int.reduceLT, Int.reduceLE, Int.reduceEq, Int.reduceSub, Int.reduceMul, Int.reduceNeg, ↓reduceIte, reduceCtorEq, tmC_s3]) | (refine gspDI ?_ ?_ <;> (intro _hh; (try simp only [_hh]); revert _hh)) | refine gspLI ?_ ?_ | refine condLI ?_ ?_ | refine gspI ?_ ?_ | refine And.intro ?_ ?_ | with_reducible intro _hh | trivial | (simp only [cl1, cl2, cl3, List.length_cons, List.length_nil, List.length_append]; omega))
        refine ⟨CallB.fn rfl bY ?_⟩
        repeat' (first | omega | ((first | refine awC_sound _ _ _ _ ?_ | skip); simp only [go_sem, Nat.reduceLT, Nat.reduceLeDiff, Nat.reduceEqDiff, Nat.reduceBEq, Nat.reduceBNe, Nat.reduceAdd, Nat.reduceMul, Nat.reduceSub, Nat.reduceDiv, Nat.reduceMod, Int.reduceToNat, Int.reduceAdd, Int.reduceLT, Int.reduceLE, Int.reduceEq, Int.reduceSub, Int.reduceMul, Int.reduceNeg, ↓reduceIte, reduceCtorEq, tmC_s3]) | (refine gspDI ?_ ?_ <;> (intro _hh; (try simp only [_hh]); revert _hh)) | refine gspLI ?_ ?_ | refine condLI ?_ ?_ | refine gspI ?_ ?_ | refine And.intro ?_ ?_ | with_reducible intro _hh | trivial | (simp only [cl1, cl2, cl3, List.length_cons, List.length_nil, List.length_append]; omega))
        refine ⟨CallB.fn rfl bZ ?_⟩
        repeat' (first | omega | ((first | refine awC_sound _ _ _ _ ?_ | skip); simp only [go_sem, Nat.reduceLT, Nat.reduceLeDiff, Nat.reduceEqDiff, Nat.reduceBEq, Nat.reduceBNe, Nat.reduceAdd, Nat.reduceMul, Nat.reduceSub, Nat.reduceDiv, Nat.reduceMod, Int.reduceToNat, Int.reduceAdd, Int.reduceLT, Int.reduceLE, Int.reduceEq, Int.reduceSub, Int.reduceMul, Int.reduceNeg, ↓reduceIte, reduceCtorEq, tmC_s3]) | (refine gspDI ?_ ?_ <;> (intro _hh; (try simp only [_hh]); revert _hh)) | refine gspLI ?_ ?_ | refine condLI ?_ ?_ | refine gspI ?_ ?_ | refine And.intro ?_ ?_ | with_reducible intro _hh | trivial | (simp only [cl1, cl2, cl3, List.length_cons, List.length_nil, List.length_append]; omega))
        refine ⟨CallB.fn rfl hR ?_⟩
        repeat' (first | omega | ((first | refine awC_sound _ _ _ _ ?_ | skip); simp only [go_sem, Nat.reduceLT, Nat.reduceLeDiff, Nat.reduceEqDiff, Nat.reduceBEq, Nat.reduceBNe, Nat.reduceAdd, Nat.reduceMul, Nat.reduceSub, Nat.reduceDiv, Nat.reduceMod, Int.reduceToNat, Int.reduceAdd, Int.reduceLT, Int.reduceLE, Int.reduceEq, Int.reduceSub, Int.reduceMul, Int.reduceNeg, ↓reduceIte, reduceCtorEq, tmC_s3]) | (refine gspDI ?_ ?_ <;> (intro _hh; (try simp only [_hh]); revert _hh)) | refine gspLI ?_ ?_ | refine condLI ?_ ?_ | refine gspI ?_ ?_ | refine And.intro ?_ ?_ | with_reducible intro _hh | trivial | (simp only [cl1, cl2, cl3, List.length_cons, List.length_nil, List.length_append]; omega))
      case' inr =>
        refine ⟨CallB.fn rfl bW ?_⟩
        repeat' (first | omega | ((first | refine awC_sound _ _ _ _ ?_ | skip); simp only [go_sem, Nat.reduceLT, Nat.reduceLeDiff, Nat.reduceEqDiff, Nat.reduceBEq, Nat.reduceBNe, Nat.reduceAdd, Nat.reduceMul, Nat.reduceSub, Nat.reduceDiv, Nat.reduceMod, Int.reduceToNat, Int.reduceAdd, Int.reduceLT, Int.reduceLE, Int.reduceEq, Int.reduceSub, Int.reduceMul, Int.reduceNeg, ↓reduceIte, reduceCtorEq, tmC_s3]) | (refine gspDI ?_ ?_ <;> (intro _hh; (try simp only [_hh]); revert _hh)) | refine gspLI ?_ ?_ | refine condLI ?_ ?_ | refine gspI ?_ ?_ | refine And.intro ?_ ?_ | with_reducible intro _hh | trivial | (simp only [cl1, cl2, cl3, List.length_cons, List.length_nil, List.length_append]; omega))
        refine ⟨CallB.fn rfl qE ?_⟩
        repeat' (first | omega | ((first | refine awC_sound _ _ _ _ ?_ | skip); simp only [go_sem, Nat.reduceLT, Nat.reduceLeDiff, Nat.reduceEqDiff, Nat.reduceBEq, Nat.reduceBNe, Nat.reduceAdd, Nat.reduceMul, Nat.reduceSub, Nat.reduceDiv, Nat.reduceMod, Int.reduceToNat, Int.reduceAdd, Int.reduceLT, Int.reduceLE, Int.reduceEq, Int.reduceSub, Int.reduceMul, Int.reduceNeg, ↓reduceIte, reduceCtorEq, tmC_s3]) | (refine gspDI ?_ ?_ <;> (intro _hh; (try simp only [_hh]); revert _hh)) | refine gspLI ?_ ?_ | refine condLI ?_ ?_ | refine gspI ?_ ?_ | refine And.intro ?_ ?_ | with_reducible intro _hh | trivial | (simp only [cl1, cl2, cl3, List.length_cons, List.length_nil, List.length_append]; omega))
      all_goals
        repeat' (first | omega | ((first | refine awC_sound _ _ _ _ ?_ | (refine DrawA.intro (id := 21) [[119,120],[118],[118],[],[],[124],[123],[],[],[],[129],[128],[],[],[]] [[],[0],[0],[],[],[],[5],[],[],[],[],[10],[],[],[]] (by decide +kernel) mixed ?_) | (refine DrawA.introT (id := 21) (.node [(0, .node [(1, .node [(2, .node [(3, .node [(4, .node [(5, .node [(6, .node [(7, .node [(8, .node [(9, .node [(10, .node [(11, .node [(12, .node [(13, .node [(14, .done)])])])]), (11, .node [(10, .node [(12, .node [(13, .node [(14, .done)])])])])])])])])]), (6, .node [(5, .node [(7, .node [(8, .node [(9, .node [(10, .node [(11, .node [(12, .node [(13, .node [(14, .done)])])])]), (11, .node [(10, .node [(12, .node [(13, .node [(14, .done)])])])])])])])])])])])])])]), (1, .node [(0, .node [(2, .node [(3, .node [(4, .node [(5, .node [(6, .node [(7, .node [(8, .node [(9, .node [(10, .node [(11, .node [(12, .node [(13, .node [(14, .done)])])])]), (11, .node [(10, .node [(12, .node [(13, .node [(14, .done)])])])])])])])])]), (6, .node [(5, .node [(7, .node [(8, .node [(9, .node [(10, .node [(11, .node [(12, .node [(13, .node [(14, .done)])])])]), (11, .node [(10, .node [(12, .node [(13, .node [(14, .done)])])])])])])])])])])])])]), (2, .node [(0, .node [(3, .node [(4, .node [(5, .node [(6, .node [(7, .node [(8, .node [(9, .node [(10, .node [(11, .node [(12, .node [(13, .node [(14, .done)])])])]), (11, .node [(10, .node [(12, .node [(13, .node [(14, .done)])])])])])])])])]), (6, .node [(5, .node [(7, .node [(8, .node [(9, .node [(10, .node [(11, .node [(12, .node [(13, .node [(14, .done)])])])]), (11, .node [(10, .node [(12, .node [(13, .node [(14, .done)])])])])])])])])])])])])])])]) (by decide +kernel) mixed ?_) | skip); simp only [go_sem, Nat.reduceLT, Nat.reduceLeDiff, Nat.reduceEqDiff, Nat.reduceBEq, Nat.reduceBNe, Nat.reduceAdd, Nat.reduceMul, Nat.reduceSub, Nat.reduceDiv, Nat.reduceMod, Int.reduceToNat, Int.reduceAdd, Int.reduceLT, Int.reduceLE, Int.reduceEq, Int.reduceSub, Int.reduceMul, Int.reduceNeg, ↓reduceIte, reduceCtorEq, tmC_s3]) | (refine gspDI ?_ ?_ <;> (intro _hh; (try simp only [_hh]); revert _hh)) | refine gspLI ?_ ?_ | refine condLI ?_ ?_ | refine gspI ?_ ?_ | refine And.intro ?_ ?_ | with_reducible intro _hh | trivial | (simp only [cl1, cl2, cl3, List.length_cons, List.length_nil, List.length_append]; omega))
        refine ⟨CallA.fn rfl hF ?_⟩
        simp only [go_sem, Nat.reduceLT, Nat.reduceLeDiff, Nat.reduceEqDiff, Nat.reduceBEq, Nat.reduceBNe, Nat.reduceAdd, Nat.reduceMul, Nat.reduceSub, Nat.reduceDiv, Nat.reduceMod, Int.reduceToNat, Int.reduceAdd, Int.reduceLT, Int.reduceLE, Int.reduceEq, Int.reduceSub, Int.reduceMul, Int.reduceNeg, ↓reduceIte, reduceCtorEq, tmC_s3]
        refine ⟨CallA.fn rfl qF ?_⟩
        simp only [go_sem, Nat.reduceLT, Nat.reduceLeDiff, Nat.reduceEqDiff, Nat.reduceBEq, Nat.reduceBNe, Nat.reduceAdd, Nat.reduceMul, Nat.reduceSub, Nat.reduceDiv, Nat.reduceMod, Int.reduceToNat, Int.reduceAdd, Int.reduceLT, Int.reduceLE, Int.reduceEq, Int.reduceSub, Int.reduceMul, Int.reduceNeg, ↓reduceIte, reduceCtorEq, tmC_s3]
        all_goals trace_state
        repeat' (first | omega | ((first | refine awC_sound _ _ _ _ ?_ | skip); simp only [go_sem, Nat.reduceLT, Nat.reduceLeDiff, Nat.reduceEqDiff, Nat.reduceBEq, Nat.reduceBNe, Nat.reduceAdd, Nat.reduceMul, Nat.reduceSub, Nat.reduceDiv, Nat.reduceMod, Int.reduceToNat, Int.reduceAdd, Int.reduceLT, Int.reduceLE, Int.reduceEq, Int.reduceSub, Int.reduceMul, Int.reduceNeg, ↓reduceIte, reduceCtorEq, tmC_s3]) | (refine gspDI ?_ ?_ <;> (intro _hh; (try simp only [_hh]); revert _hh)) | refine gspLI ?_ ?_ | refine condLI ?_ ?_ | refine gspI ?_ ?_ | refine And.intro ?_ ?_ | with_reducible intro _hh | trivial | (simp only [cl1, cl2, cl3, List.length_cons, List.length_nil, List.length_append]; omega))
        refine ⟨CallA.fn rfl qF ?_⟩
        simp only [go_sem, Nat.reduceLT, Nat.reduceLeDiff, Nat.reduceEqDiff, Nat.reduceBEq, Nat.reduceBNe, Nat.reduceAdd, Nat.reduceMul, Nat.reduceSub, Nat.reduceDiv, Nat.reduceMod, Int.reduceToNat, Int.reduceAdd, Int.reduceLT, Int.reduceLE, Int.reduceEq, Int.reduceSub, Int.reduceMul, Int.reduceNeg, ↓reduceIte, reduceCtorEq, tmC_s3]
        repeat' (first | omega | ((first | refine awC_sound _ _ _ _ ?_ | skip); simp only [go_sem, Nat.reduceLT, Nat.reduceLeDiff, Nat.reduceEqDiff, Nat.reduceBEq, Nat.reduceBNe, Nat.reduceAdd, Nat.reduceMul, Nat.reduceSub, Nat.reduceDiv, Nat.reduceMod, Int.reduceToNat, Int.reduceAdd, Int.reduceLT, Int.reduceLE, Int.reduceEq, Int.reduceSub, Int.reduceMul, Int.reduceNeg, ↓reduceIte, reduceCtorEq, tmC_s3]) | (refine gspDI ?_ ?_ <;> (intro _hh; (try simp only [_hh]); revert _hh)) | refine gspLI ?_ ?_ | refine condLI ?_ ?_ | refine gspI ?_ ?_ | refine And.intro ?_ ?_ | with_reducible intro _hh | trivial | (simp only [cl1, cl2, cl3, List.length_cons, List.length_nil, List.length_append]; omega))
        refine ⟨CallA.fn rfl qE ?_⟩
        simp only [go_sem, Nat.reduceLT, Nat.reduceLeDiff, Nat.reduceEqDiff, Nat.reduceBEq, Nat.reduceBNe, Nat.reduceAdd, Nat.reduceMul, Nat.reduceSub, Nat.reduceDiv, Nat.reduceMod, Int.reduceToNat, Int.reduceAdd, Int.reduceLT, Int.reduceLE, Int.reduceEq, Int.reduceSub, Int.reduceMul, Int.reduceNeg, ↓reduceIte, reduceCtorEq, tmC_s3]
        repeat' (first | omega | ((first | refine awC_sound _ _ _ _ ?_ | skip); simp only [go_sem, Nat.reduceLT, Nat.reduceLeDiff, Nat.reduceEqDiff, Nat.reduceBEq, Nat.reduceBNe, Nat.reduceAdd, Nat.reduceMul, Nat.reduceSub, Nat.reduceDiv, Nat.reduceMod, Int.reduceToNat, Int.reduceAdd, Int.reduceLT, Int.reduceLE, Int.reduceEq, Int.reduceSub, Int.reduceMul, Int.reduceNeg, ↓reduceIte, reduceCtorEq, tmC_s3]) | (refine gspDI ?_ ?_ <;> (intro _hh; (try simp only [_hh]); revert _hh)) | refine gspLI ?_ ?_ | refine condLI ?_ ?_ | refine gspI ?_ ?_ | refine And.intro ?_ ?_ | with_reducible intro _hh | trivial | (simp only [cl1, cl2, cl3, List.length_cons, List.length_nil, List.length_append]; omega))
        all_goals trace_state
end Go.Proofs.YtalmkaiiffodnaaGreatDoor
