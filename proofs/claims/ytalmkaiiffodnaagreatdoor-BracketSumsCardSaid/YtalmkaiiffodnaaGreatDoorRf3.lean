/- The reference of layer 1: faces, strands. -/
import Derived.Test.YtalmkaiiffodnaaGreatDoorXg
set_option linter.unusedSimpArgs false
set_option linter.unusedVariables false
namespace Go.Proofs.YtalmkaiiffodnaaGreatDoor
open Go Go.RowKit
set_option maxRecDepth 100000
set_option maxHeartbeats 8000000
def lstR (orb : Nat → List Int) (p : Nat → Bool) (k : Nat) : List (List Int) := ((List.range k).filter p).map orb
theorem lstR_t {orb : Nat → List Int} {p : Nat → Bool} {k : Nat} (h : p k = true) : lstR orb p (k + 1) = lstR orb p k ++ [orb k] := by simp [lstR, List.range_succ, List.filter_append, h]
theorem lstR_f {orb : Nat → List Int} {p : Nat → Bool} {k : Nat} (h : p k = false) : lstR orb p (k + 1) = lstR orb p k := by simp [lstR, List.range_succ, List.filter_append, h]
theorem leastB_take {x : Int} {l : List Int} {i : Nat} (h : i < l.length) : leastB x (l.take (i + 1)) = (leastB x (l.take i) && decide (x ≤ l.getD i 0)) := by
  unfold leastB
  rw [List.take_succ_eq_append_getElem h, List.all_append]
  simp [h]
theorem map_roF_snoc (ls : List (List Int)) (l : List Int) : ls.map roF ++ [AV.ro 1 l.length (.ints l)] = (ls ++ [l]).map roF := by simp [roF]
theorem orbG_len (nx : Int → Int) (x : Int) : ∀ f g, (orbG nx x f g).length ≤ f
  | 0, _ => by simp [orbG]
  | f + 1, g => by
    unfold orbG
    split
    · simp
    · simp only [List.length_cons]; have := orbG_len nx x f (nx g); omega
theorem orbF_len (nx : Int → Int) (N : Nat) (x : Int) : (orbF nx N x).length ≤ N + 1 := by
  unfold orbF; simp only [List.length_cons]; have := orbG_len nx x N (nx x); omega
theorem fn_rFaces (m : List Int) (n : Nat) (hn : n ≤ 1000) (hml : m.length = 4 * n) (hm : ∀ i, i < m.length → 0 ≤ m.getD i 0 ∧ m.getD i 0 < 4 * n) : Fn Tryz.prog 32 [roI m] (roLL (lstR (fun h => orbF (faceNx m) m.length h) (fl m) m.length)) := by
  refine Fn.introL [.tmp 2] Tryz.func32 rfl rfl (by decide) (by simp [Tryz.ntmps32]) ?_; rw [Tryz.ntmps32]
  repeat' (first | omega | ((first | refine awC_sound _ _ _ _ ?_ | skip); simp only [go_sem, sevalprocAttr, ↓reduceIte, reduceCtorEq]) | (refine gspDI ?_ ?_ <;> (intro _hh; (try simp only [_hh]); revert _hh)) | refine gspLI ?_ ?_ | refine condLI ?_ ?_ | refine gspI ?_ ?_ | refine And.intro ?_ ?_ | with_reducible intro _hh | trivial | (simp only [cl1, cl2, cl3, List.length_cons, List.length_nil, List.length_append]; omega))
  refine LoopA.intro (fun t fr H => ∃ h : Nat, h ≤ m.length ∧ t = m.length - h ∧ ((lstR (fun h => orbF (faceNx m) m.length h) (fl m) h = [] ∧ fr = [(4, I h), (3, .nils), (0, roI m)] ∧ H = []) ∨
    (fr = [(4, I h), (3, .sl 1 1 0 (lstR (fun h => orbF (faceNx m) m.length h) (fl m) h).length), (0, roI m)] ∧ H = [(1, .cells 22 (.lst ((lstR (fun h => orbF (faceNx m) m.length h) (fl m) h).map roF)))]))) ?_ ?_
  · refine ⟨_, _, _, ?_, 0, by omega, rfl, .inl ⟨rfl, rfl, rfl⟩⟩
    refine Wk.sub ?_ ?_ <;> simp only [go_sem, sevalprocAttr, ↓reduceIte, reduceCtorEq]
  rintro t fr H ⟨h, hh, rfl, hcase⟩
  have hlen : (lstR (fun h => orbF (faceNx m) m.length h) (fl m) h).length ≤ h := by
    have := List.length_filter_le (fl m) (List.range h)
    simp only [lstR, List.length_map]; simp only [List.length_range] at this; exact this
  have hol : (orbF (faceNx m) m.length h).length ≤ m.length + 1 := orbF_len _ _ _
  rcases hcase with ⟨hnil, rfl, rfl⟩ | ⟨rfl, rfl⟩
  · by_cases hlt : h < m.length
    · have bh : decide ((h : Int) < m.length) = true := by simp; omega
      have hF := fn_rFace m n h hn hml hm hlt
      repeat' (first | omega | ((first | refine awC_sound _ _ _ _ ?_ | skip); simp only [go_sem, sevalprocAttr, ↓reduceIte, reduceCtorEq, bh]) | (refine gspDI ?_ ?_ <;> (intro _hh; (try simp only [_hh]); revert _hh)) | refine gspLI ?_ ?_ | refine condLI ?_ ?_ | refine gspI ?_ ?_ | refine And.intro ?_ ?_ | with_reducible intro _hh | trivial | (simp only [cl1, cl2, cl3, List.length_cons, List.length_nil, List.length_append]; omega))
      refine ⟨CallB.fn rfl hF ?_⟩
      repeat' (first | omega | ((first | refine awC_sound _ _ _ _ ?_ | skip); simp only [go_sem, sevalprocAttr, ↓reduceIte, reduceCtorEq]) | (refine gspDI ?_ ?_ <;> (intro _hh; (try simp only [_hh]); revert _hh)) | refine gspLI ?_ ?_ | refine condLI ?_ ?_ | refine gspI ?_ ?_ | refine And.intro ?_ ?_ | with_reducible intro _hh | trivial | (simp only [cl1, cl2, cl3, List.length_cons, List.length_nil, List.length_append]; omega))
      refine LoopA.intro (fun t fr H => ∃ i : Nat, i ≤ (orbF (faceNx m) m.length h).length ∧ t = (orbF (faceNx m) m.length h).length - i ∧ fr = [(7, I i), (6, .bool (leastB h ((orbF (faceNx m) m.length h).take i))), (5, roI (orbF (faceNx m) m.length h)), (4, I h), (3, .nils), (0, roI m)] ∧ H = []) ?_ ?_
      · refine ⟨_, _, _, ?_, 0, by omega, rfl, rfl, rfl⟩
        refine Wk.sub ?_ ?_ <;> simp only [go_sem, sevalprocAttr, ↓reduceIte, reduceCtorEq]
        all_goals simp [leastB]
      rintro t fr H ⟨i, hi, rfl, rfl, rfl⟩
      by_cases hil : i < (orbF (faceNx m) m.length h).length
      · have bi : decide ((i : Int) < (orbF (faceNx m) m.length h).length) = true := by simp; omega
        have el := leastB_take (x := h) hil
        cases hb : leastB h ((orbF (faceNx m) m.length h).take i) with
        | false =>
          rw [hb] at el
          repeat' (first | omega | ((first | refine awC_sound _ _ _ _ ?_ | skip); simp only [go_sem, sevalprocAttr, ↓reduceIte, reduceCtorEq, bi]) | (refine gspDI ?_ ?_ <;> (intro _hh; (try simp only [_hh]); revert _hh)) | refine gspLI ?_ ?_ | refine condLI ?_ ?_ | refine gspI ?_ ?_ | refine And.intro ?_ ?_ | with_reducible intro _hh | trivial | (simp only [cl1, cl2, cl3, List.length_cons, List.length_nil, List.length_append]; omega))
          refine ⟨_, _, _, ?_, ?_, ⟨i + 1, by omega, rfl, rfl, rfl⟩⟩
          · omega
          · rw [el]
            refine Wk.sub ?_ ?_ <;> simp only [go_sem, sevalprocAttr, ↓reduceIte, reduceCtorEq]
        | true =>
          rw [hb] at el
          repeat' (first | omega | ((first | refine awC_sound _ _ _ _ ?_ | skip); simp only [go_sem, sevalprocAttr, ↓reduceIte, reduceCtorEq, bi]) | (refine gspDI ?_ ?_ <;> (intro _hh; (try simp only [_hh]); revert _hh)) | refine gspLI ?_ ?_ | refine condLI ?_ ?_ | refine gspI ?_ ?_ | refine And.intro ?_ ?_ | with_reducible intro _hh | trivial | (simp only [cl1, cl2, cl3, List.length_cons, List.length_nil, List.length_append]; omega))
          refine ⟨_, _, _, ?_, ?_, ⟨i + 1, by omega, rfl, rfl, rfl⟩⟩
          · omega
          · rw [el]
            refine Wk.sub ?_ ?_ <;> simp only [go_sem, sevalprocAttr, ↓reduceIte, reduceCtorEq]
      · obtain rfl : i = (orbF (faceNx m) m.length h).length := by omega
        have bi : decide (((orbF (faceNx m) m.length h).length : Int) < (orbF (faceNx m) m.length h).length) = false := by simp
        have ef : leastB h ((orbF (faceNx m) m.length h).take (orbF (faceNx m) m.length h).length) = fl m h := by rw [List.take_length]; rfl
        rw [ef]
        cases hb : fl m h with
        | false =>
          have eS := lstR_f (orb := fun h => orbF (faceNx m) m.length h) hb
          repeat' (first | omega | ((first | refine awC_sound _ _ _ _ ?_ | skip); simp only [go_sem, sevalprocAttr, ↓reduceIte, reduceCtorEq, bi]) | (refine gspDI ?_ ?_ <;> (intro _hh; (try simp only [_hh]); revert _hh)) | refine gspLI ?_ ?_ | refine condLI ?_ ?_ | refine gspI ?_ ?_ | refine And.intro ?_ ?_ | with_reducible intro _hh | trivial | (simp only [cl1, cl2, cl3, List.length_cons, List.length_nil, List.length_append]; omega))
          refine ⟨_, _, _, ?_, ?_, ⟨h + 1, by omega, rfl, .inl ⟨by rw [eS]; exact hnil, rfl, rfl⟩⟩⟩
          · omega
          · first | rw [eS] | skip
            refine Wk.sub ?_ ?_ <;> simp only [go_sem, sevalprocAttr, ↓reduceIte, reduceCtorEq]
        | true =>
          have eS := lstR_t (orb := fun h => orbF (faceNx m) m.length h) hb
          repeat' (first | omega | ((first | refine awC_sound _ _ _ _ ?_ | skip); simp only [go_sem, sevalprocAttr, ↓reduceIte, reduceCtorEq, bi, List.length_map]) | (refine gspDI ?_ ?_ <;> (intro _hh; (try simp only [_hh]); revert _hh)) | refine gspLI ?_ ?_ | refine condLI ?_ ?_ | refine gspI ?_ ?_ | refine And.intro ?_ ?_ | with_reducible intro _hh | trivial | (simp only [cl1, cl2, cl3, List.length_cons, List.length_nil, List.length_append]; omega))
          refine ⟨_, _, _, ?_, ?_, ⟨h + 1, by omega, rfl, .inr ⟨rfl, rfl⟩⟩⟩
          · omega
          · rw [eS]
            rw [hnil]
            refine Wk.sub ?_ ?_ <;> simp only [go_sem, sevalprocAttr, ↓reduceIte, reduceCtorEq]
            all_goals first
              | rfl
              | exact ⟨rfl, rfl⟩
              | exact ⟨rfl, rfl, rfl⟩

    · obtain rfl : h = m.length := by omega
      have bh : decide ((m.length : Int) < m.length) = false := by simp
      repeat' (first | omega | ((first | refine awC_sound _ _ _ _ ?_ | skip); simp only [go_sem, sevalprocAttr, ↓reduceIte, reduceCtorEq, bh]) | (refine gspDI ?_ ?_ <;> (intro _hh; (try simp only [_hh]); revert _hh)) | refine gspLI ?_ ?_ | refine condLI ?_ ?_ | refine gspI ?_ ?_ | refine And.intro ?_ ?_ | with_reducible intro _hh | trivial | (simp only [cl1, cl2, cl3, List.length_cons, List.length_nil, List.length_append]; omega))
      all_goals first
        | (rw [hnil]; exact LeA.nils (by omega) rfl)
        | exact snapP_roF _ _ _ _ _hh
        | exact snapP_roF _ _ _ _ (List.mem_of_mem_take _hh)
        | (rw [List.take_of_length_le (by simp)]; exact LeA.refl _)

  · by_cases hlt : h < m.length
    · have bh : decide ((h : Int) < m.length) = true := by simp; omega
      have hF := fn_rFace m n h hn hml hm hlt
      repeat' (first | omega | ((first | refine awC_sound _ _ _ _ ?_ | skip); simp only [go_sem, sevalprocAttr, ↓reduceIte, reduceCtorEq, bh]) | (refine gspDI ?_ ?_ <;> (intro _hh; (try simp only [_hh]); revert _hh)) | refine gspLI ?_ ?_ | refine condLI ?_ ?_ | refine gspI ?_ ?_ | refine And.intro ?_ ?_ | with_reducible intro _hh | trivial | (simp only [cl1, cl2, cl3, List.length_cons, List.length_nil, List.length_append]; omega))
      refine ⟨CallB.fn rfl hF ?_⟩
      repeat' (first | omega | ((first | refine awC_sound _ _ _ _ ?_ | skip); simp only [go_sem, sevalprocAttr, ↓reduceIte, reduceCtorEq]) | (refine gspDI ?_ ?_ <;> (intro _hh; (try simp only [_hh]); revert _hh)) | refine gspLI ?_ ?_ | refine condLI ?_ ?_ | refine gspI ?_ ?_ | refine And.intro ?_ ?_ | with_reducible intro _hh | trivial | (simp only [cl1, cl2, cl3, List.length_cons, List.length_nil, List.length_append]; omega))
      refine LoopA.intro (fun t fr H => ∃ i : Nat, i ≤ (orbF (faceNx m) m.length h).length ∧ t = (orbF (faceNx m) m.length h).length - i ∧ fr = [(7, I i), (6, .bool (leastB h ((orbF (faceNx m) m.length h).take i))), (5, roI (orbF (faceNx m) m.length h)), (4, I h), (3, .sl 1 1 0 (lstR (fun h => orbF (faceNx m) m.length h) (fl m) h).length), (0, roI m)] ∧ H = [(1, .cells 22 (.lst ((lstR (fun h => orbF (faceNx m) m.length h) (fl m) h).map roF)))]) ?_ ?_
      · refine ⟨_, _, _, ?_, 0, by omega, rfl, rfl, rfl⟩
        refine Wk.sub ?_ ?_ <;> simp only [go_sem, sevalprocAttr, ↓reduceIte, reduceCtorEq]
        all_goals simp [leastB]
      rintro t fr H ⟨i, hi, rfl, rfl, rfl⟩
      by_cases hil : i < (orbF (faceNx m) m.length h).length
      · have bi : decide ((i : Int) < (orbF (faceNx m) m.length h).length) = true := by simp; omega
        have el := leastB_take (x := h) hil
        cases hb : leastB h ((orbF (faceNx m) m.length h).take i) with
        | false =>
          rw [hb] at el
          repeat' (first | omega | ((first | refine awC_sound _ _ _ _ ?_ | skip); simp only [go_sem, sevalprocAttr, ↓reduceIte, reduceCtorEq, bi]) | (refine gspDI ?_ ?_ <;> (intro _hh; (try simp only [_hh]); revert _hh)) | refine gspLI ?_ ?_ | refine condLI ?_ ?_ | refine gspI ?_ ?_ | refine And.intro ?_ ?_ | with_reducible intro _hh | trivial | (simp only [cl1, cl2, cl3, List.length_cons, List.length_nil, List.length_append]; omega))
          refine ⟨_, _, _, ?_, ?_, ⟨i + 1, by omega, rfl, rfl, rfl⟩⟩
          · omega
          · rw [el]
            refine Wk.sub ?_ ?_ <;> simp only [go_sem, sevalprocAttr, ↓reduceIte, reduceCtorEq]
        | true =>
          rw [hb] at el
          repeat' (first | omega | ((first | refine awC_sound _ _ _ _ ?_ | skip); simp only [go_sem, sevalprocAttr, ↓reduceIte, reduceCtorEq, bi]) | (refine gspDI ?_ ?_ <;> (intro _hh; (try simp only [_hh]); revert _hh)) | refine gspLI ?_ ?_ | refine condLI ?_ ?_ | refine gspI ?_ ?_ | refine And.intro ?_ ?_ | with_reducible intro _hh | trivial | (simp only [cl1, cl2, cl3, List.length_cons, List.length_nil, List.length_append]; omega))
          refine ⟨_, _, _, ?_, ?_, ⟨i + 1, by omega, rfl, rfl, rfl⟩⟩
          · omega
          · rw [el]
            refine Wk.sub ?_ ?_ <;> simp only [go_sem, sevalprocAttr, ↓reduceIte, reduceCtorEq]
      · obtain rfl : i = (orbF (faceNx m) m.length h).length := by omega
        have bi : decide (((orbF (faceNx m) m.length h).length : Int) < (orbF (faceNx m) m.length h).length) = false := by simp
        have ef : leastB h ((orbF (faceNx m) m.length h).take (orbF (faceNx m) m.length h).length) = fl m h := by rw [List.take_length]; rfl
        rw [ef]
        cases hb : fl m h with
        | false =>
          have eS := lstR_f (orb := fun h => orbF (faceNx m) m.length h) hb
          repeat' (first | omega | ((first | refine awC_sound _ _ _ _ ?_ | skip); simp only [go_sem, sevalprocAttr, ↓reduceIte, reduceCtorEq, bi]) | (refine gspDI ?_ ?_ <;> (intro _hh; (try simp only [_hh]); revert _hh)) | refine gspLI ?_ ?_ | refine condLI ?_ ?_ | refine gspI ?_ ?_ | refine And.intro ?_ ?_ | with_reducible intro _hh | trivial | (simp only [cl1, cl2, cl3, List.length_cons, List.length_nil, List.length_append]; omega))
          refine ⟨_, _, _, ?_, ?_, ⟨h + 1, by omega, rfl, .inr ⟨rfl, rfl⟩⟩⟩
          · omega
          · first | rw [eS] | skip
            refine Wk.sub ?_ ?_ <;> simp only [go_sem, sevalprocAttr, ↓reduceIte, reduceCtorEq]
        | true =>
          have eS := lstR_t (orb := fun h => orbF (faceNx m) m.length h) hb
          repeat' (first | omega | ((first | refine awC_sound _ _ _ _ ?_ | skip); simp only [go_sem, sevalprocAttr, ↓reduceIte, reduceCtorEq, bi, List.length_map]) | (refine gspDI ?_ ?_ <;> (intro _hh; (try simp only [_hh]); revert _hh)) | refine gspLI ?_ ?_ | refine condLI ?_ ?_ | refine gspI ?_ ?_ | refine And.intro ?_ ?_ | with_reducible intro _hh | trivial | (simp only [cl1, cl2, cl3, List.length_cons, List.length_nil, List.length_append]; omega))
          refine ⟨_, _, _, ?_, ?_, ⟨h + 1, by omega, rfl, .inr ⟨rfl, rfl⟩⟩⟩
          · omega
          · rw [eS]
            rw [map_roF_snoc]
            refine Wk.sub ?_ ?_ <;> simp only [go_sem, sevalprocAttr, ↓reduceIte, reduceCtorEq]
            all_goals first
              | rfl
              | exact ⟨rfl, rfl⟩
              | exact ⟨rfl, rfl, rfl⟩

    · obtain rfl : h = m.length := by omega
      have bh : decide ((m.length : Int) < m.length) = false := by simp
      repeat' (first | omega | ((first | refine awC_sound _ _ _ _ ?_ | skip); simp only [go_sem, sevalprocAttr, ↓reduceIte, reduceCtorEq, bh]) | (refine gspDI ?_ ?_ <;> (intro _hh; (try simp only [_hh]); revert _hh)) | refine gspLI ?_ ?_ | refine condLI ?_ ?_ | refine gspI ?_ ?_ | refine And.intro ?_ ?_ | with_reducible intro _hh | trivial | (simp only [cl1, cl2, cl3, List.length_cons, List.length_nil, List.length_append]; omega))
      all_goals first
        | (rw [hnil]; exact LeA.nils (by omega) rfl)
        | exact snapP_roF _ _ _ _ _hh
        | exact snapP_roF _ _ _ _ (List.mem_of_mem_take _hh)
        | (rw [List.take_of_length_le (by simp)]; exact LeA.refl _)

end Go.Proofs.YtalmkaiiffodnaaGreatDoor
