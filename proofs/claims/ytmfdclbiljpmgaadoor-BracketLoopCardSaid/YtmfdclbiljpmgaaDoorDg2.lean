/- Layer 1: spheres. -/
import Derived.Test.YtmfdclbiljpmgaaDoorDg1
import Derived.Test.YtmfdclbiljpmgaaDoorPl
set_option linter.unusedSimpArgs false
set_option linter.unusedVariables false
namespace Go.Proofs.YtmfdclbiljpmgaaDoor
open Go Go.RowKit
set_option maxRecDepth 100000
theorem fn_turn (h b : Int) (h0 : 0 ≤ h) (h1 : h ≤ 100000) : Fn Tryd.prog 48 [I h, I b] (I (turnM h b)) := fn_Turn h b h0 h1
theorem fn_spherical (s m : List Int) (L : Int) (hs : s.length ≤ 1000) (hm : mateOk m s.length) : Fn Tryd.prog 33 [dgA s m L] (.bool (sphM m s.length)) := by
  obtain ⟨p1, p2, p3, p4⟩ := labelM_ok hm
  have hml := hm.1
  refine Fn.intro [.tmp 2] Tryd.func33 rfl rfl (by decide) (by simp [Tryd.ntmps33]) ?_; rw [Tryd.ntmps33]
  repeat' (first | omega | ((first | refine awC_sound _ _ _ _ ?_ | skip); simp only [go_sem, Nat.reduceLT, Nat.reduceLeDiff, Nat.reduceEqDiff, Nat.reduceBEq, Nat.reduceBNe, Nat.reduceAdd, Nat.reduceMul, Nat.reduceSub, Nat.reduceDiv, Nat.reduceMod, Int.reduceToNat, Int.reduceAdd, Int.reduceLT, Int.reduceLE, Int.reduceEq, Int.reduceSub, Int.reduceMul, Int.reduceNeg, ↓reduceIte, reduceCtorEq]) | (refine gspDI ?_ ?_ <;> (intro _hh; (try simp only [_hh]); revert _hh)) | refine gspLI ?_ ?_ | refine condLI ?_ ?_ | refine gspI ?_ ?_ | refine And.intro ?_ ?_ | with_reducible intro _hh | trivial | (simp only [cl1, cl2, cl3, List.length_cons, List.length_nil, List.length_append]; omega))
  refine ⟨CallB.fn rfl (fn_label s m L hs hm) ?_⟩
  repeat' (first | omega | ((first | refine awC_sound _ _ _ _ ?_ | skip); simp only [go_sem, Nat.reduceLT, Nat.reduceLeDiff, Nat.reduceEqDiff, Nat.reduceBEq, Nat.reduceBNe, Nat.reduceAdd, Nat.reduceMul, Nat.reduceSub, Nat.reduceDiv, Nat.reduceMod, Int.reduceToNat, Int.reduceAdd, Int.reduceLT, Int.reduceLE, Int.reduceEq, Int.reduceSub, Int.reduceMul, Int.reduceNeg, ↓reduceIte, reduceCtorEq]) | (refine gspDI ?_ ?_ <;> (intro _hh; (try simp only [_hh]); revert _hh)) | refine gspLI ?_ ?_ | refine condLI ?_ ?_ | refine gspI ?_ ?_ | refine And.intro ?_ ?_ | with_reducible intro _hh | trivial | (simp only [cl1, cl2, cl3, List.length_cons, List.length_nil, List.length_append]; omega))
  generalize hpt : (labelM m s.length).1 = part at *
  generalize hnp : (labelM m s.length).2 = np at *
  refine LoopA.intro (fun n fr H => ∃ k : Nat, k ≤ part.length ∧ n = part.length - k ∧ fr = [(22, I k), (21, I part.length), (20, roI part), (5, .sl 1 1 0 np.toNat), (3, roI part), (1, .ptr 0 0)] ∧ H = [(1, .cells 3 (.ints (decs part np.toNat k))), (0, .cells 24 (.lst [roI s, roI m, I L]))]) ?_ ?_
  · refine ⟨_, _, _, ?_, 0, by omega, rfl, rfl, rfl⟩
    refine Wk.sub ?_ ?_ <;> simp only [go_sem, Nat.reduceLT, Nat.reduceLeDiff, Nat.reduceEqDiff, Nat.reduceBEq, Nat.reduceBNe, Nat.reduceAdd, Nat.reduceMul, Nat.reduceSub, Nat.reduceDiv, Nat.reduceMod, Int.reduceToNat, Int.reduceAdd, Int.reduceLT, Int.reduceLE, Int.reduceEq, Int.reduceSub, Int.reduceMul, Int.reduceNeg, ↓reduceIte, reduceCtorEq]
    simp [decs]
  rintro n fr H ⟨k, hk, rfl, rfl, rfl⟩
  obtain ⟨d1, d2⟩ := decs_ok part np.toNat k
  by_cases hkl : k < part.length
  · have q4 := p4 k (by omega)
    have d3 := d2 (part.getD k 0).toNat
    repeat' (first | omega | ((first | refine awC_sound _ _ _ _ ?_ | skip); simp only [go_sem, Nat.reduceLT, Nat.reduceLeDiff, Nat.reduceEqDiff, Nat.reduceBEq, Nat.reduceBNe, Nat.reduceAdd, Nat.reduceMul, Nat.reduceSub, Nat.reduceDiv, Nat.reduceMod, Int.reduceToNat, Int.reduceAdd, Int.reduceLT, Int.reduceLE, Int.reduceEq, Int.reduceSub, Int.reduceMul, Int.reduceNeg, ↓reduceIte, reduceCtorEq]) | (refine gspDI ?_ ?_ <;> (intro _hh; (try simp only [_hh]); revert _hh)) | refine gspLI ?_ ?_ | refine condLI ?_ ?_ | refine gspI ?_ ?_ | refine And.intro ?_ ?_ | with_reducible intro _hh | trivial | (simp only [cl1, cl2, cl3, List.length_cons, List.length_nil, List.length_append]; omega))
    refine ⟨_, _, _, ?_, ?_, ⟨k + 1, by omega, rfl, rfl, rfl⟩⟩
    · omega
    · refine Wk.sub ?_ ?_ <;> simp only [go_sem, Nat.reduceLT, Nat.reduceLeDiff, Nat.reduceEqDiff, Nat.reduceBEq, Nat.reduceBNe, Nat.reduceAdd, Nat.reduceMul, Nat.reduceSub, Nat.reduceDiv, Nat.reduceMod, Int.reduceToNat, Int.reduceAdd, Int.reduceLT, Int.reduceLE, Int.reduceEq, Int.reduceSub, Int.reduceMul, Int.reduceNeg, ↓reduceIte, reduceCtorEq]
      rfl
  obtain rfl : k = part.length := by omega
  repeat' (first | omega | ((first | refine awC_sound _ _ _ _ ?_ | skip); simp only [go_sem, Nat.reduceLT, Nat.reduceLeDiff, Nat.reduceEqDiff, Nat.reduceBEq, Nat.reduceBNe, Nat.reduceAdd, Nat.reduceMul, Nat.reduceSub, Nat.reduceDiv, Nat.reduceMod, Int.reduceToNat, Int.reduceAdd, Int.reduceLT, Int.reduceLE, Int.reduceEq, Int.reduceSub, Int.reduceMul, Int.reduceNeg, ↓reduceIte, reduceCtorEq]) | (refine gspDI ?_ ?_ <;> (intro _hh; (try simp only [_hh]); revert _hh)) | refine gspLI ?_ ?_ | refine condLI ?_ ?_ | refine gspI ?_ ?_ | refine And.intro ?_ ?_ | with_reducible intro _hh | trivial | (simp only [cl1, cl2, cl3, List.length_cons, List.length_nil, List.length_append]; omega))
  refine LoopA.intro (fun n fr H => ∃ h : Nat, h ≤ m.length ∧ n = m.length - h ∧ fr = [(40, I h), (39, I m.length), (8, .sl 1 2 0 m.length), (5, .sl 1 1 0 np.toNat), (3, roI part), (1, .ptr 0 0)] ∧ H = [(2, .cells 4 (.bools (sphN m part np.toNat h).2)), (1, .cells 3 (.ints (sphN m part np.toNat h).1)), (0, .cells 24 (.lst [roI s, roI m, I L]))]) ?_ ?_
  · refine ⟨_, _, _, ?_, 0, by omega, rfl, rfl, rfl⟩
    refine Wk.sub ?_ ?_ <;> simp only [go_sem, Nat.reduceLT, Nat.reduceLeDiff, Nat.reduceEqDiff, Nat.reduceBEq, Nat.reduceBNe, Nat.reduceAdd, Nat.reduceMul, Nat.reduceSub, Nat.reduceDiv, Nat.reduceMod, Int.reduceToNat, Int.reduceAdd, Int.reduceLT, Int.reduceLE, Int.reduceEq, Int.reduceSub, Int.reduceMul, Int.reduceNeg, ↓reduceIte, reduceCtorEq]
    all_goals simp [sphN]
  rintro n fr H ⟨h, hh, rfl, rfl, rfl⟩
  obtain ⟨e1, e2, e3⟩ := sphN_ok m part np.toNat h
  by_cases hhl : h < m.length
  · have q4 := p4 (h / 4) (by omega)
    have e4 := e3 (part.getD (h / 4) 0).toNat
    have e5 : (h : Int).tdiv 4 = (h / 4 : Nat) := by rw [tdiv_nn (by omega)]; omega
    have e6 : ((h : Int).toNat) = h := by omega
    repeat' (first | omega | ((first | refine awC_sound _ _ _ _ ?_ | skip); simp only [go_sem, Nat.reduceLT, Nat.reduceLeDiff, Nat.reduceEqDiff, Nat.reduceBEq, Nat.reduceBNe, Nat.reduceAdd, Nat.reduceMul, Nat.reduceSub, Nat.reduceDiv, Nat.reduceMod, Int.reduceToNat, Int.reduceAdd, Int.reduceLT, Int.reduceLE, Int.reduceEq, Int.reduceSub, Int.reduceMul, Int.reduceNeg, ↓reduceIte, reduceCtorEq, e5]) | (refine gspDI ?_ ?_ <;> (intro _hh; (try simp only [_hh]); revert _hh)) | refine gspLI ?_ ?_ | refine condLI ?_ ?_ | refine gspI ?_ ?_ | refine And.intro ?_ ?_ | with_reducible intro _hh | trivial | (simp only [cl1, cl2, cl3, List.length_cons, List.length_nil, List.length_append]; omega))
    · have eS : sphN m part np.toNat (h + 1) = sphN m part np.toNat h := by
        simp only [sphN, sph1]; rw [if_pos (by assumption)]
      refine ⟨_, _, _, ?_, ?_, ⟨h + 1, by omega, rfl, rfl, rfl⟩⟩
      · omega
      · refine Wk.sub ?_ ?_ <;> (rw [eS]; simp only [go_sem, Nat.reduceLT, Nat.reduceLeDiff, Nat.reduceEqDiff, Nat.reduceBEq, Nat.reduceBNe, Nat.reduceAdd, Nat.reduceMul, Nat.reduceSub, Nat.reduceDiv, Nat.reduceMod, Int.reduceToNat, Int.reduceAdd, Int.reduceLT, Int.reduceLE, Int.reduceEq, Int.reduceSub, Int.reduceMul, Int.reduceNeg, ↓reduceIte, reduceCtorEq])
    · have hf : (sphN m part np.toNat h).2.getD h false = false := by assumption
      have eS : sphN m part np.toNat (h + 1) = ((sphN m part np.toNat h).1.set (part.getD (h / 4) 0).toNat ((sphN m part np.toNat h).1.getD (part.getD (h / 4) 0).toNat 0 + 1), mark m (m.length + 1) (sphN m part np.toNat h).2 h) := by
        simp only [sphN, sph1]; rw [if_neg (nbt hf)]
      have hu := unm_le (sphN m part np.toNat h).2
      generalize (sphN m part np.toNat h).2 = seen0 at *
      generalize (sphN m part np.toNat h).1.set (part.getD (h / 4) 0).toNat ((sphN m part np.toNat h).1.getD (part.getD (h / 4) 0).toNat 0 + 1) = exc at *
      refine LoopA.intro (fun f fr H => ∃ (seen : List Bool) (g : Int), unm seen < f ∧ seen.length = m.length ∧ 0 ≤ g ∧ g < 4 * s.length ∧ mark m f seen g = mark m (m.length + 1) seen0 h ∧
        fr = [(10, I g), (40, I h), (39, I m.length), (8, .sl 1 2 0 m.length), (5, .sl 1 1 0 np.toNat), (3, roI part), (1, .ptr 0 0)] ∧ H = [(2, .cells 4 (.bools seen)), (1, .cells 3 (.ints exc)), (0, .cells 24 (.lst [roI s, roI m, I L]))]) ?_ ?_
      · refine ⟨m.length + 1, _, _, ?_, seen0, h, by omega, e2, by omega, by omega, rfl, rfl, rfl⟩
        refine Wk.sub ?_ ?_ <;> simp only [go_sem, Nat.reduceLT, Nat.reduceLeDiff, Nat.reduceEqDiff, Nat.reduceBEq, Nat.reduceBNe, Nat.reduceAdd, Nat.reduceMul, Nat.reduceSub, Nat.reduceDiv, Nat.reduceMod, Int.reduceToNat, Int.reduceAdd, Int.reduceLT, Int.reduceLE, Int.reduceEq, Int.reduceSub, Int.reduceMul, Int.reduceNeg, ↓reduceIte, reduceCtorEq]
      rintro f fr H ⟨seen, g, hf1, hf2, hg0, hg1, hmk, rfl, rfl⟩
      obtain ⟨f', rfl⟩ : ∃ f', f = f' + 1 := ⟨f - 1, by omega⟩
      have hmr := hm.2 g.toNat (by omega)
      repeat' (first | omega | ((first | refine awC_sound _ _ _ _ ?_ | skip); simp only [go_sem, Nat.reduceLT, Nat.reduceLeDiff, Nat.reduceEqDiff, Nat.reduceBEq, Nat.reduceBNe, Nat.reduceAdd, Nat.reduceMul, Nat.reduceSub, Nat.reduceDiv, Nat.reduceMod, Int.reduceToNat, Int.reduceAdd, Int.reduceLT, Int.reduceLE, Int.reduceEq, Int.reduceSub, Int.reduceMul, Int.reduceNeg, ↓reduceIte, reduceCtorEq]) | (refine gspDI ?_ ?_ <;> (intro _hh; (try simp only [_hh]); revert _hh)) | refine gspLI ?_ ?_ | refine condLI ?_ ?_ | refine gspI ?_ ?_ | refine And.intro ?_ ?_ | with_reducible intro _hh | trivial | (simp only [cl1, cl2, cl3, List.length_cons, List.length_nil, List.length_append]; omega))
      · refine ⟨CallB.fn rfl (fn_turn _ _ hmr.1 (by omega)) ?_⟩
        repeat' (first | omega | ((first | refine awC_sound _ _ _ _ ?_ | skip); simp only [go_sem, Nat.reduceLT, Nat.reduceLeDiff, Nat.reduceEqDiff, Nat.reduceBEq, Nat.reduceBNe, Nat.reduceAdd, Nat.reduceMul, Nat.reduceSub, Nat.reduceDiv, Nat.reduceMod, Int.reduceToNat, Int.reduceAdd, Int.reduceLT, Int.reduceLE, Int.reduceEq, Int.reduceSub, Int.reduceMul, Int.reduceNeg, ↓reduceIte, reduceCtorEq]) | (refine gspDI ?_ ?_ <;> (intro _hh; (try simp only [_hh]); revert _hh)) | refine gspLI ?_ ?_ | refine condLI ?_ ?_ | refine gspI ?_ ?_ | refine And.intro ?_ ?_ | with_reducible intro _hh | trivial | (simp only [cl1, cl2, cl3, List.length_cons, List.length_nil, List.length_append]; omega))
        have hsg : seen.getD g.toNat false = false := by assumption
        have hus := unm_set (l := seen) (i := g.toNat) (by omega) hsg
        have htr := turnM_range (b := -1) hmr.1 hmr.2
        refine ⟨f', _, _, ?_, ?_, ⟨seen.set g.toNat true, turnM (m.getD g.toNat 0) (-1), by omega, by simp [hf2], htr.1, htr.2, ?_, rfl, rfl⟩⟩
        · omega
        · refine Wk.sub ?_ ?_ <;> simp only [go_sem, Nat.reduceLT, Nat.reduceLeDiff, Nat.reduceEqDiff, Nat.reduceBEq, Nat.reduceBNe, Nat.reduceAdd, Nat.reduceMul, Nat.reduceSub, Nat.reduceDiv, Nat.reduceMod, Int.reduceToNat, Int.reduceAdd, Int.reduceLT, Int.reduceLE, Int.reduceEq, Int.reduceSub, Int.reduceMul, Int.reduceNeg, ↓reduceIte, reduceCtorEq]
        · rw [← hmk]; simp only [mark]; rw [if_neg (nbt hsg)]
      · have hsg : seen.getD g.toNat false = true := by assumption
        have hmk2 : seen = mark m (m.length + 1) seen0 h := by rw [← hmk]; simp only [mark]; rw [if_pos hsg]
        refine ⟨_, _, _, ?_, ?_, ⟨h + 1, by omega, rfl, rfl, rfl⟩⟩
        · omega
        · refine Wk.sub ?_ ?_ <;> (rw [eS]; simp only [go_sem, Nat.reduceLT, Nat.reduceLeDiff, Nat.reduceEqDiff, Nat.reduceBEq, Nat.reduceBNe, Nat.reduceAdd, Nat.reduceMul, Nat.reduceSub, Nat.reduceDiv, Nat.reduceMod, Int.reduceToNat, Int.reduceAdd, Int.reduceLT, Int.reduceLE, Int.reduceEq, Int.reduceSub, Int.reduceMul, Int.reduceNeg, ↓reduceIte, reduceCtorEq])
          exact hmk2
  obtain rfl : h = m.length := by omega
  repeat' (first | omega | ((first | refine awC_sound _ _ _ _ ?_ | skip); simp only [go_sem, Nat.reduceLT, Nat.reduceLeDiff, Nat.reduceEqDiff, Nat.reduceBEq, Nat.reduceBNe, Nat.reduceAdd, Nat.reduceMul, Nat.reduceSub, Nat.reduceDiv, Nat.reduceMod, Int.reduceToNat, Int.reduceAdd, Int.reduceLT, Int.reduceLE, Int.reduceEq, Int.reduceSub, Int.reduceMul, Int.reduceNeg, ↓reduceIte, reduceCtorEq]) | (refine gspDI ?_ ?_ <;> (intro _hh; (try simp only [_hh]); revert _hh)) | refine gspLI ?_ ?_ | refine condLI ?_ ?_ | refine gspI ?_ ?_ | refine And.intro ?_ ?_ | with_reducible intro _hh | trivial | (simp only [cl1, cl2, cl3, List.length_cons, List.length_nil, List.length_append]; omega))
  refine LoopA.intro (fun n fr H => ∃ k : Nat, k ≤ np.toNat ∧ n = np.toNat - k ∧ (∀ i, i < k → (sphN m part np.toNat m.length).1.getD i 0 = 2) ∧ fr = [(75, I k), (74, I np.toNat), (73, .sl 1 1 0 np.toNat)] ∧ H = [(1, .cells 3 (.ints (sphN m part np.toNat m.length).1))]) ?_ ?_
  · refine ⟨_, _, _, ?_, 0, by omega, rfl, by omega, rfl, rfl⟩
    refine Wk.sub ?_ ?_ <;> simp only [go_sem, Nat.reduceLT, Nat.reduceLeDiff, Nat.reduceEqDiff, Nat.reduceBEq, Nat.reduceBNe, Nat.reduceAdd, Nat.reduceMul, Nat.reduceSub, Nat.reduceDiv, Nat.reduceMod, Int.reduceToNat, Int.reduceAdd, Int.reduceLT, Int.reduceLE, Int.reduceEq, Int.reduceSub, Int.reduceMul, Int.reduceNeg, ↓reduceIte, reduceCtorEq]
  rintro n fr H ⟨k, hk, rfl, hall, rfl, rfl⟩
  repeat' (first | omega | ((first | refine awC_sound _ _ _ _ ?_ | skip); simp only [go_sem, Nat.reduceLT, Nat.reduceLeDiff, Nat.reduceEqDiff, Nat.reduceBEq, Nat.reduceBNe, Nat.reduceAdd, Nat.reduceMul, Nat.reduceSub, Nat.reduceDiv, Nat.reduceMod, Int.reduceToNat, Int.reduceAdd, Int.reduceLT, Int.reduceLE, Int.reduceEq, Int.reduceSub, Int.reduceMul, Int.reduceNeg, ↓reduceIte, reduceCtorEq]) | (refine gspDI ?_ ?_ <;> (intro _hh; (try simp only [_hh]); revert _hh)) | refine gspLI ?_ ?_ | refine condLI ?_ ?_ | refine gspI ?_ ?_ | refine And.intro ?_ ?_ | with_reducible intro _hh | trivial | (simp only [cl1, cl2, cl3, List.length_cons, List.length_nil, List.length_append]; omega))
  · unfold sphM
    rw [hpt, hnp]
    exact (all2_false (k := k) (by rw [(sphN_ok m part np.toNat m.length).1]; omega) (by assumption)).symm
  · refine ⟨_, _, _, ?_, ?_, ⟨k + 1, by omega, rfl, fun i hi => ?_, rfl, rfl⟩⟩
    · omega
    · refine Wk.sub ?_ ?_ <;> simp only [go_sem, Nat.reduceLT, Nat.reduceLeDiff, Nat.reduceEqDiff, Nat.reduceBEq, Nat.reduceBNe, Nat.reduceAdd, Nat.reduceMul, Nat.reduceSub, Nat.reduceDiv, Nat.reduceMod, Int.reduceToNat, Int.reduceAdd, Int.reduceLT, Int.reduceLE, Int.reduceEq, Int.reduceSub, Int.reduceMul, Int.reduceNeg, ↓reduceIte, reduceCtorEq]
    · rcases Nat.lt_or_ge i k with g | g
      · exact hall i g
      · rw [show i = k by omega]; assumption
  · unfold sphM
    rw [hpt, hnp]
    exact (all2_true (fun i hi => hall i (by rw [(sphN_ok m part np.toNat m.length).1] at hi; omega))).symm
end Go.Proofs.YtmfdclbiljpmgaaDoor
