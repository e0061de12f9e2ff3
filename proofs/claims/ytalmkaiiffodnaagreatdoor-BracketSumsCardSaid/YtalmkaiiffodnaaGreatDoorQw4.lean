/- The reference of layer 12: the polynomial of the sums. -/
import Derived.Test.YtalmkaiiffodnaaGreatDoorQw3
import Derived.Test.YtalmkaiiffodnaaGreatDoorXk
set_option linter.unusedSimpArgs false
set_option linter.unusedVariables false
namespace Go.Proofs.YtalmkaiiffodnaaGreatDoor
open Go Go.RowKit
set_option maxRecDepth 100000
set_option maxHeartbeats 8000000
theorem eq2_wide : eq2 Tryz.prog 108 = true := by decide +kernel
def nzS (S : List (Int × Int)) : List (Int × Int) := S.filter fun t => !(t.2 == 0)
theorem nzS_len (S : List (Int × Int)) : (nzS S).length ≤ S.length := List.length_filter_le _ _
theorem fn_collect (S : List (Int × Int)) (hl : S.length ≤ 100000) (hS : ∀ t ∈ S, -1125899906842624 ≤ t.2 ∧ t.2 ≤ 1125899906842624) (hE : ∀ t ∈ S, -1048576 ≤ t.1 ∧ t.1 ≤ 1048576) :
    Fn Tryz.prog 72 [qeA S, qsA S] (rpA (nzS S)) := by
  refine Fn.introL [.cell 4 39] Tryz.func72 rfl rfl (by decide) (by simp [Tryz.ntmps72]) ?_; rw [Tryz.ntmps72]
  repeat' (first | omega | ((first | refine awC_sound _ _ _ _ ?_ | skip); simp only [go_sem, sevalprocAttr, ↓reduceIte, reduceCtorEq]) | (refine gspDI ?_ ?_ <;> (intro _hh; (try simp only [_hh]); revert _hh)) | refine gspLI ?_ ?_ | refine condLI ?_ ?_ | refine gspI ?_ ?_ | refine And.intro ?_ ?_ | with_reducible intro _hh | trivial | (simp only [cl1, cl2, cl3, List.length_cons, List.length_nil, List.length_append]; omega))
  refine LoopA.intro (fun n fr H => ∃ i : Nat, i ≤ S.length ∧ n = S.length - i ∧ fr = [(6, I i), (5, .ptr 1 0), (4, .ptr 0 0), (1, qsA S), (0, qeA S)] ∧ ((nzS (S.take i) = [] ∧ H = [(1, .cells 39 (.lst [.nils, .bool false])), (0, .cells 39 (.lst [.nils, .bool false]))]) ∨ H = [(3, .cells 74 (.lst (tmC (nzS (S.take i))))), (1, .cells 39 (.lst [.sl 2 3 0 (nzS (S.take i)).length, .bool false])), (0, .cells 39 (.lst [.nils, .bool false]))])) ?_ ?_
  · refine ⟨_, _, _, ?_, 0, by omega, rfl, rfl, .inl ⟨rfl, rfl⟩⟩
    refine Wk.sub ?_ ?_ <;> (simp only [go_sem, sevalprocAttr, ↓reduceIte, reduceCtorEq, qwC_s3])
  rintro n fr H ⟨i, hi, rfl, rfl, hcase⟩
  have hll := nzS_len (S.take i)
  have htl : (S.take i).length = i := by rw [List.length_take]; omega
  by_cases hil : i < S.length
  · have bi : decide ((i : Int) < S.length) = true := by simp; omega
    have hsn : S.take (i + 1) = S.take i ++ [S.getD i (0, 0)] := by rw [List.take_add_one, List.getD_eq_getElem?_getD, List.getElem?_eq_getElem hil]; rfl
    have hts : nzS (S.take (i + 1)) = nzS (S.take i) ++ nzS [S.getD i (0, 0)] := by rw [hsn]; simp [nzS]
    have hm := getD_in hil
    have hz := hS _ hm
    have he := hE _ hm
    have mg := map_get S i hil
    have hlen := qwC_len S
    have g0 := qwC_get0 S i hil
    have g1 := qwC_get1 S i hil
    have hsm := fn_qsmall _ hz
    generalize S.getD i (0, 0) = t at *
    obtain ⟨e, z⟩ := t
    simp only at hz he mg g0 g1 hsm
    have c3 : decide (e < -1048576) = false := by rw [decide_eq_false_iff_not]; omega
    have c4 : decide (1048576 < e) = false := by rw [decide_eq_false_iff_not]; omega
    by_cases h0 : z = 0
    · have b0 : ((z / 1125899906842624 == 0) && (z % 1125899906842624 == 0)) = true := by subst h0; rfl
      have hts' : nzS (S.take (i + 1)) = nzS (S.take i) := by rw [hts, show nzS [(e, z)] = [] by subst h0; rfl, List.append_nil]
      rcases hcase with ⟨hnil, rfl⟩ | rfl
      · repeat' (first | omega | ((first | refine awC_sound _ _ _ _ ?_ | skip); simp only [go_sem, sevalprocAttr, ↓reduceIte, reduceCtorEq, bi, b0, mg, g0, g1, hlen, eq2_wide, List.length_map]) | (refine gspDI ?_ ?_ <;> (intro _hh; (try simp only [_hh]); revert _hh)) | refine gspLI ?_ ?_ | refine condLI ?_ ?_ | refine gspI ?_ ?_ | refine And.intro ?_ ?_ | with_reducible intro _hh | trivial | (simp only [cl1, cl2, cl3, List.length_cons, List.length_nil, List.length_append]; omega))
        refine ⟨_, _, _, ?_, ?_, ⟨i + 1, by omega, rfl, rfl, .inl ⟨by rw [hts']; exact hnil, rfl⟩⟩⟩
        · omega
        · refine Wk.sub ?_ ?_ <;> (simp only [go_sem, sevalprocAttr, ↓reduceIte, reduceCtorEq, qwC_s3])
      · repeat' (first | omega | ((first | refine awC_sound _ _ _ _ ?_ | skip); simp only [go_sem, sevalprocAttr, ↓reduceIte, reduceCtorEq, bi, b0, mg, g0, g1, hlen, eq2_wide, List.length_map]) | (refine gspDI ?_ ?_ <;> (intro _hh; (try simp only [_hh]); revert _hh)) | refine gspLI ?_ ?_ | refine condLI ?_ ?_ | refine gspI ?_ ?_ | refine And.intro ?_ ?_ | with_reducible intro _hh | trivial | (simp only [cl1, cl2, cl3, List.length_cons, List.length_nil, List.length_append]; omega))
        refine ⟨_, _, _, ?_, ?_, ⟨i + 1, by omega, rfl, rfl, .inr rfl⟩⟩
        · omega
        · rw [hts']
          refine Wk.sub ?_ ?_ <;> (simp only [go_sem, sevalprocAttr, ↓reduceIte, reduceCtorEq, qwC_s3, tmC_s3])
    · have b0 : ((z / 1125899906842624 == 0) && (z % 1125899906842624 == 0)) = false := by
        rw [Bool.and_eq_false_iff, beq_eq_false_iff_ne, beq_eq_false_iff_ne]
        omega
      have hts' : nzS (S.take (i + 1)) = nzS (S.take i) ++ [(e, z)] := by
        rw [hts]; congr 1
        have : (z == 0) = false := by simpa using h0
        simp [nzS, this]
      rcases hcase with ⟨hnil, rfl⟩ | rfl
      · rw [hnil, List.nil_append] at hts'
        have e5 : tmC [(e, z)] = [I e, I z] := rfl
        repeat' (first | omega | ((first | refine awC_sound _ _ _ _ ?_ | skip); simp only [go_sem, sevalprocAttr, ↓reduceIte, reduceCtorEq, bi, b0, mg, g0, g1, hlen, eq2_wide, List.length_map]) | (refine gspDI ?_ ?_ <;> (intro _hh; (try simp only [_hh]); revert _hh)) | refine gspLI ?_ ?_ | refine condLI ?_ ?_ | refine gspI ?_ ?_ | refine And.intro ?_ ?_ | with_reducible intro _hh | trivial | (simp only [cl1, cl2, cl3, List.length_cons, List.length_nil, List.length_append]; omega))
        all_goals refine ⟨CallB.fn rfl hsm ?_⟩
        repeat' (first | omega | ((first | refine awC_sound _ _ _ _ ?_ | (refine DrawA.intro (id := 9) [[48,49,50,51,52,53,54],[48,49,50,51,52,53,54],[46,47,49,52],[46,47,48,52],[46,47,52],[46,47,52],[46,47,48,49,50,51],[46,47],[46,47],[],[],[]] [[],[],[0,1],[0,1,2],[0,1],[0,1],[0,1,2,3,4,5],[0,1],[0,1],[],[],[]] (by decide +kernel) mixed ?_) | skip); simp only [go_sem, sevalprocAttr, ↓reduceIte, reduceCtorEq, bi, b0, c3, c4, mg, g0, g1, hlen, eq2_wide, List.length_map]) | (refine gspDI ?_ ?_ <;> (intro _hh; (try simp only [_hh]); revert _hh)) | refine gspLI ?_ ?_ | refine condLI ?_ ?_ | refine gspI ?_ ?_ | refine And.intro ?_ ?_ | with_reducible intro _hh | trivial | (simp only [cl1, cl2, cl3, List.length_cons, List.length_nil, List.length_append]; omega))
        all_goals (refine ⟨_, _, _, ?_, ?_, ⟨i + 1, by omega, rfl, rfl, .inr rfl⟩⟩)
        all_goals first | omega | skip
        all_goals rw [hts']
        all_goals (refine Wk.subS 3 11 (fr1 := [(6, I ((i + 1 : Nat) : Int)), (5, .ptr 1 0), (4, .ptr 0 0), (1, qsA S), (0, qeA S)]) (H1 := [(11, .cells 74 (.lst (tmC [(e, z)]))), (1, .cells 39 (.lst [.sl 2 11 0 [(e, z)].length, .bool false])), (0, .cells 39 (.lst [.nils, .bool false]))]) rfl rfl rfl rfl ?_ ?_ <;> (simp only [go_sem, sevalprocAttr, ↓reduceIte, reduceCtorEq, e5, qwC_s3]))
      · have e5 := tmC_snoc (nzS (S.take i)) e z
        have e6 : (nzS (S.take i) ++ [(e, z)]).length = (nzS (S.take i)).length + 1 := by simp
        have e7 := tmC_len (nzS (S.take i))
        repeat' (first | omega | ((first | refine awC_sound _ _ _ _ ?_ | skip); simp only [go_sem, sevalprocAttr, ↓reduceIte, reduceCtorEq, bi, b0, mg, g0, g1, hlen, eq2_wide, List.length_map]) | (refine gspDI ?_ ?_ <;> (intro _hh; (try simp only [_hh]); revert _hh)) | refine gspLI ?_ ?_ | refine condLI ?_ ?_ | refine gspI ?_ ?_ | refine And.intro ?_ ?_ | with_reducible intro _hh | trivial | (simp only [cl1, cl2, cl3, List.length_cons, List.length_nil, List.length_append]; omega))
        all_goals refine ⟨CallB.fn rfl hsm ?_⟩
        repeat' (first | omega | ((first | refine awC_sound _ _ _ _ ?_ | (refine DrawA.intro (id := 9) [[48,49,50,51,52,53,54],[48,49,50,51,52,53,54],[46,47,49,52],[46,47,48,52],[46,47,52],[46,47,52],[46,47,48,49,50,51],[46,47],[46,47],[],[],[]] [[],[],[0,1],[0,1,2],[0,1],[0,1],[0,1,2,3,4,5],[0,1],[0,1],[],[],[]] (by decide +kernel) mixed ?_) | skip); simp only [go_sem, sevalprocAttr, ↓reduceIte, reduceCtorEq, bi, b0, c3, c4, mg, g0, g1, hlen, eq2_wide, List.length_map]) | (refine gspDI ?_ ?_ <;> (intro _hh; (try simp only [_hh]); revert _hh)) | refine gspLI ?_ ?_ | refine condLI ?_ ?_ | refine gspI ?_ ?_ | refine And.intro ?_ ?_ | with_reducible intro _hh | trivial | (simp only [cl1, cl2, cl3, List.length_cons, List.length_nil, List.length_append]; omega))
        all_goals (refine ⟨_, _, _, ?_, ?_, ⟨i + 1, by omega, rfl, rfl, .inr rfl⟩⟩)
        all_goals first | omega | skip
        all_goals rw [hts']
        all_goals (refine Wk.subS 3 13 (fr1 := [(6, I ((i + 1 : Nat) : Int)), (5, .ptr 1 0), (4, .ptr 0 0), (1, qsA S), (0, qeA S)]) (H1 := [(13, .cells 74 (.lst (tmC (nzS (S.take i) ++ [(e, z)])))), (1, .cells 39 (.lst [.sl 2 13 0 (nzS (S.take i) ++ [(e, z)]).length, .bool false])), (0, .cells 39 (.lst [.nils, .bool false]))]) rfl (by simp only [swH, swO, List.map_cons, List.map_nil, sw_tm]; rfl) rfl (by simp only [swH, swO, List.map_cons, List.map_nil, sw_tm]; rfl) ?_ ?_ <;> (simp only [go_sem, sevalprocAttr, ↓reduceIte, reduceCtorEq, e5, e6, qwC_s3, tmC_s3]))
  · obtain rfl : i = S.length := by omega
    have bi : decide ((S.length : Int) < S.length) = false := by simp
    rw [List.take_length] at hcase hll
    rcases hcase with ⟨hnil, rfl⟩ | rfl
    · rw [hnil]
      repeat' (first | omega | ((first | refine awC_sound _ _ _ _ ?_ | skip); simp only [go_sem, sevalprocAttr, ↓reduceIte, reduceCtorEq, bi, List.length_map]) | (refine gspDI ?_ ?_ <;> (intro _hh; (try simp only [_hh]); revert _hh)) | refine gspLI ?_ ?_ | refine condLI ?_ ?_ | refine gspI ?_ ?_ | refine And.intro ?_ ?_ | with_reducible intro _hh | trivial | (simp only [cl1, cl2, cl3, List.length_cons, List.length_nil, List.length_append]; omega))
      all_goals exact LeA.aggL (.cons (LeA.nils (by omega) rfl) (.cons (LeA.refl _) .nil))
    · have e := tmC_len (nzS S)
      repeat' (first | omega | ((first | refine awC_sound _ _ _ _ ?_ | skip); simp only [go_sem, sevalprocAttr, ↓reduceIte, reduceCtorEq, bi, List.length_map]) | (refine gspDI ?_ ?_ <;> (intro _hh; (try simp only [_hh]); revert _hh)) | refine gspLI ?_ ?_ | refine condLI ?_ ?_ | refine gspI ?_ ?_ | refine And.intro ?_ ?_ | with_reducible intro _hh | trivial | (simp only [cl1, cl2, cl3, List.length_cons, List.length_nil, List.length_append]; omega))
      all_goals (rw [List.take_of_length_le (by omega)]; exact LeA.refl _)
end Go.Proofs.YtalmkaiiffodnaaGreatDoor
