/- The reference of layer 12: Of. -/
import Derived.Test.YtmplhbgolhlicaaDoorRt1
set_option linter.unusedSimpArgs false
set_option linter.unusedVariables false
namespace Go.Proofs.YtmplhbgolhlicaaDoor
open Go Go.RowKit
set_option maxRecDepth 100000
set_option maxHeartbeats 8000000
theorem tms_snoc : ∀ (q : List Int) (i : Int) (a : Int), Sp.tmsF i (q ++ [a]) = Sp.tmsF i q ++ (if a = 0 then [] else [(i + q.length, a)])
  | [], i, a => by simp only [List.nil_append, Sp.tmsF, List.length_nil]; split <;> simp
  | b :: q, i, a => by
    have := tms_snoc q (i + 1) a
    simp only [List.cons_append, Sp.tmsF, List.length_cons]
    rw [this]
    rw [show i + 1 + (q.length : Int) = i + ((q.length + 1 : Nat) : Int) by omega]
    split <;> rfl
theorem sw_tm (i j k : Nat) (p : List (Int × Int)) : (tmC p).map (swV i j (k + 1)) = tmC p := by
  rw [List.map_congr_left (g := id) (fun x hx => by obtain ⟨n, rfl⟩ := tmC_mem hx; rfl), List.map_id]
theorem fn_rOf (q : List Int) (hq : ∀ x ∈ q, -1125899906842624 ≤ x ∧ x ≤ 1125899906842624) (hql : q.length ≤ 100) :
    Fn Tryd.prog 24 [I 0, roI q] (rpA (Sp.tmsF 0 q)) := by
  have hqg : ∀ i, -1125899906842624 ≤ q.getD i 0 ∧ q.getD i 0 ≤ 1125899906842624 := fun i => by
    rw [List.getD_eq_getElem?_getD]
    cases e : q[i]? with
    | none => simp
    | some x => exact hq x (List.mem_of_getElem? e)
  refine Fn.introL [.cell 4 44] Tryd.func24 rfl rfl (by decide) (by simp [Tryd.ntmps24]) ?_; rw [Tryd.ntmps24]
  repeat' (first | omega | ((first | refine awC_sound _ _ _ _ ?_ | skip); simp only [go_sem, Nat.reduceLT, Nat.reduceLeDiff, Nat.reduceEqDiff, Nat.reduceBEq, Nat.reduceBNe, Nat.reduceAdd, Nat.reduceMul, Nat.reduceSub, Nat.reduceDiv, Nat.reduceMod, Int.reduceToNat, Int.reduceAdd, Int.reduceLT, Int.reduceLE, Int.reduceEq, Int.reduceSub, Int.reduceMul, Int.reduceNeg, ↓reduceIte, reduceCtorEq]) | (refine gspDI ?_ ?_ <;> (intro _hh; (try simp only [_hh]); revert _hh)) | refine gspLI ?_ ?_ | refine condLI ?_ ?_ | refine gspI ?_ ?_ | refine And.intro ?_ ?_ | with_reducible intro _hh | trivial | (simp only [cl1, cl2, cl3, List.length_cons, List.length_nil, List.length_append]; omega))
  refine LoopA.intro (fun n fr H => ∃ i : Nat, i ≤ q.length ∧ n = q.length - i ∧ fr = [(6, I i), (5, .ptr 1 0), (4, .ptr 0 0), (1, roI q), (0, I 0)] ∧ ((Sp.tmsF 0 (q.take i) = [] ∧ H = [(1, .cells 44 (.lst [.nils, .bool false])), (0, .cells 44 (.lst [.nils, .bool false]))]) ∨ H = [(3, .cells 90 (.lst (tmC (Sp.tmsF 0 (q.take i))))), (1, .cells 44 (.lst [.sl 2 3 0 (Sp.tmsF 0 (q.take i)).length, .bool false])), (0, .cells 44 (.lst [.nils, .bool false]))])) ?_ ?_
  · refine ⟨_, _, _, ?_, 0, by omega, rfl, rfl, .inl ⟨rfl, rfl⟩⟩
    refine Wk.sub ?_ ?_ <;> simp only [go_sem, Nat.reduceLT, Nat.reduceLeDiff, Nat.reduceEqDiff, Nat.reduceBEq, Nat.reduceBNe, Nat.reduceAdd, Nat.reduceMul, Nat.reduceSub, Nat.reduceDiv, Nat.reduceMod, Int.reduceToNat, Int.reduceAdd, Int.reduceLT, Int.reduceLE, Int.reduceEq, Int.reduceSub, Int.reduceMul, Int.reduceNeg, ↓reduceIte, reduceCtorEq]
  rintro n fr H ⟨i, hi, rfl, rfl, hcase⟩
  have hg := hqg i
  have hll := Sp.tmsF_len (q.take i) 0
  have htl : (q.take i).length = i := by rw [List.length_take]; omega
  by_cases hil : i < q.length
  · have bi : decide ((i : Int) < q.length) = true := by simp; omega
    have hsn : q.take (i + 1) = q.take i ++ [q.getD i 0] := by rw [List.take_add_one, List.getD_eq_getElem?_getD, List.getElem?_eq_getElem hil]; rfl
    have hts := tms_snoc (q.take i) 0 (q.getD i 0)
    rw [← hsn, htl, Int.zero_add] at hts
    have c1 : decide (q.getD i 0 < -1125899906842624) = false := by rw [decide_eq_false_iff_not]; omega
    have c2 : decide (1125899906842624 < q.getD i 0) = false := by rw [decide_eq_false_iff_not]; omega
    have c3 : decide ((i : Int) < -1048576) = false := by rw [decide_eq_false_iff_not]; omega
    have c4 : decide (1048576 < (i : Int)) = false := by rw [decide_eq_false_iff_not]; omega
    have ez : (0 : Int) + i = i := by omega
    by_cases h0 : q.getD i 0 = 0
    · have b0 : (q.getD i 0 == 0) = true := by simpa using h0
      rw [if_pos h0, List.append_nil] at hts
      rcases hcase with ⟨hnil, rfl⟩ | rfl
      · repeat' (first | omega | ((first | refine awC_sound _ _ _ _ ?_ | (refine DrawA.intro (id := 8) [[45,46,47,48,49,50,51,52,53],[45,46,47,48,49,50,51,52,53],[43,44,46,48,49,50,51],[43,44,45,48,49,50,51],[43,44,48,49,50,51],[43,44,45,46,47,49],[43,44,45,46,47,48],[43,44,45,46,47],[43,44,45,46,47],[43,44],[43,44],[],[],[]] [[],[],[0,1],[0,1,2],[0,1],[0,1,2,3,4],[0,1,2,3,4,5],[0,1,2,3,4],[0,1,2,3,4],[0,1],[0,1],[],[],[]] (by decide +kernel) mixed ?_) | skip); simp only [go_sem, Nat.reduceLT, Nat.reduceLeDiff, Nat.reduceEqDiff, Nat.reduceBEq, Nat.reduceBNe, Nat.reduceAdd, Nat.reduceMul, Nat.reduceSub, Nat.reduceDiv, Nat.reduceMod, Int.reduceToNat, Int.reduceAdd, Int.reduceLT, Int.reduceLE, Int.reduceEq, Int.reduceSub, Int.reduceMul, Int.reduceNeg, ↓reduceIte, reduceCtorEq, bi, b0]) | (refine gspDI ?_ ?_ <;> (intro _hh; (try simp only [_hh]); revert _hh)) | refine gspLI ?_ ?_ | refine condLI ?_ ?_ | refine gspI ?_ ?_ | refine And.intro ?_ ?_ | with_reducible intro _hh | trivial | (simp only [cl1, cl2, cl3, List.length_cons, List.length_nil, List.length_append]; omega))
        refine ⟨_, _, _, ?_, ?_, ⟨i + 1, by omega, rfl, rfl, .inl ⟨by rw [hts]; exact hnil, rfl⟩⟩⟩
        · omega
        · refine Wk.sub ?_ ?_ <;> simp only [go_sem, Nat.reduceLT, Nat.reduceLeDiff, Nat.reduceEqDiff, Nat.reduceBEq, Nat.reduceBNe, Nat.reduceAdd, Nat.reduceMul, Nat.reduceSub, Nat.reduceDiv, Nat.reduceMod, Int.reduceToNat, Int.reduceAdd, Int.reduceLT, Int.reduceLE, Int.reduceEq, Int.reduceSub, Int.reduceMul, Int.reduceNeg, ↓reduceIte, reduceCtorEq]
      · repeat' (first | omega | ((first | refine awC_sound _ _ _ _ ?_ | (refine DrawA.intro (id := 8) [[45,46,47,48,49,50,51,52,53],[45,46,47,48,49,50,51,52,53],[43,44,46,48,49,50,51],[43,44,45,48,49,50,51],[43,44,48,49,50,51],[43,44,45,46,47,49],[43,44,45,46,47,48],[43,44,45,46,47],[43,44,45,46,47],[43,44],[43,44],[],[],[]] [[],[],[0,1],[0,1,2],[0,1],[0,1,2,3,4],[0,1,2,3,4,5],[0,1,2,3,4],[0,1,2,3,4],[0,1],[0,1],[],[],[]] (by decide +kernel) mixed ?_) | skip); simp only [go_sem, Nat.reduceLT, Nat.reduceLeDiff, Nat.reduceEqDiff, Nat.reduceBEq, Nat.reduceBNe, Nat.reduceAdd, Nat.reduceMul, Nat.reduceSub, Nat.reduceDiv, Nat.reduceMod, Int.reduceToNat, Int.reduceAdd, Int.reduceLT, Int.reduceLE, Int.reduceEq, Int.reduceSub, Int.reduceMul, Int.reduceNeg, ↓reduceIte, reduceCtorEq, bi, b0]) | (refine gspDI ?_ ?_ <;> (intro _hh; (try simp only [_hh]); revert _hh)) | refine gspLI ?_ ?_ | refine condLI ?_ ?_ | refine gspI ?_ ?_ | refine And.intro ?_ ?_ | with_reducible intro _hh | trivial | (simp only [cl1, cl2, cl3, List.length_cons, List.length_nil, List.length_append]; omega))
        refine ⟨_, _, _, ?_, ?_, ⟨i + 1, by omega, rfl, rfl, .inr rfl⟩⟩
        · omega
        · rw [hts]
          refine Wk.sub ?_ ?_ <;> simp only [go_sem, Nat.reduceLT, Nat.reduceLeDiff, Nat.reduceEqDiff, Nat.reduceBEq, Nat.reduceBNe, Nat.reduceAdd, Nat.reduceMul, Nat.reduceSub, Nat.reduceDiv, Nat.reduceMod, Int.reduceToNat, Int.reduceAdd, Int.reduceLT, Int.reduceLE, Int.reduceEq, Int.reduceSub, Int.reduceMul, Int.reduceNeg, ↓reduceIte, reduceCtorEq]
    · have b0 : (q.getD i 0 == 0) = false := by simpa using h0
      rw [if_neg h0] at hts
      rcases hcase with ⟨hnil, rfl⟩ | rfl
      · rw [hnil, List.nil_append] at hts
        have e5 : tmC [((i : Int), q.getD i 0)] = [I i, I (q.getD i 0)] := rfl
        repeat' (first | omega | ((first | refine awC_sound _ _ _ _ ?_ | (refine DrawA.intro (id := 8) [[45,46,47,48,49,50,51,52,53],[45,46,47,48,49,50,51,52,53],[43,44,46,48,49,50,51],[43,44,45,48,49,50,51],[43,44,48,49,50,51],[43,44,45,46,47,49],[43,44,45,46,47,48],[43,44,45,46,47],[43,44,45,46,47],[43,44],[43,44],[],[],[]] [[],[],[0,1],[0,1,2],[0,1],[0,1,2,3,4],[0,1,2,3,4,5],[0,1,2,3,4],[0,1,2,3,4],[0,1],[0,1],[],[],[]] (by decide +kernel) mixed ?_) | skip); simp only [go_sem, Nat.reduceLT, Nat.reduceLeDiff, Nat.reduceEqDiff, Nat.reduceBEq, Nat.reduceBNe, Nat.reduceAdd, Nat.reduceMul, Nat.reduceSub, Nat.reduceDiv, Nat.reduceMod, Int.reduceToNat, Int.reduceAdd, Int.reduceLT, Int.reduceLE, Int.reduceEq, Int.reduceSub, Int.reduceMul, Int.reduceNeg, ↓reduceIte, reduceCtorEq, bi, b0, c1, c2, c3, c4, ez]) | (refine gspDI ?_ ?_ <;> (intro _hh; (try simp only [_hh]); revert _hh)) | refine gspLI ?_ ?_ | refine condLI ?_ ?_ | refine gspI ?_ ?_ | refine And.intro ?_ ?_ | with_reducible intro _hh | trivial | (simp only [cl1, cl2, cl3, List.length_cons, List.length_nil, List.length_append]; omega))
        all_goals (refine ⟨_, _, _, ?_, ?_, ⟨i + 1, by omega, rfl, rfl, .inr rfl⟩⟩)
        all_goals first | omega | skip
        all_goals rw [hts]
        all_goals (refine Wk.subS 3 13 (fr1 := [(6, I ((i + 1 : Nat) : Int)), (5, .ptr 1 0), (4, .ptr 0 0), (1, roI q), (0, I 0)]) (H1 := [(13, .cells 90 (.lst (tmC [((i : Int), q.getD i 0)]))), (1, .cells 44 (.lst [.sl 2 13 0 [((i : Int), q.getD i 0)].length, .bool false])), (0, .cells 44 (.lst [.nils, .bool false]))]) rfl rfl rfl rfl ?_ ?_ <;> (simp only [go_sem, Nat.reduceLT, Nat.reduceLeDiff, Nat.reduceEqDiff, Nat.reduceBEq, Nat.reduceBNe, Nat.reduceAdd, Nat.reduceMul, Nat.reduceSub, Nat.reduceDiv, Nat.reduceMod, Int.reduceToNat, Int.reduceAdd, Int.reduceLT, Int.reduceLE, Int.reduceEq, Int.reduceSub, Int.reduceMul, Int.reduceNeg, ↓reduceIte, reduceCtorEq, e5]))
      · have e5 := tmC_snoc (Sp.tmsF 0 (q.take i)) i (q.getD i 0)
        have e6 : (Sp.tmsF 0 (q.take i) ++ [((i : Int), q.getD i 0)]).length = (Sp.tmsF 0 (q.take i)).length + 1 := by simp
        have e7 := tmC_len (Sp.tmsF 0 (q.take i))
        repeat' (first | omega | ((first | refine awC_sound _ _ _ _ ?_ | (refine DrawA.intro (id := 8) [[45,46,47,48,49,50,51,52,53],[45,46,47,48,49,50,51,52,53],[43,44,46,48,49,50,51],[43,44,45,48,49,50,51],[43,44,48,49,50,51],[43,44,45,46,47,49],[43,44,45,46,47,48],[43,44,45,46,47],[43,44,45,46,47],[43,44],[43,44],[],[],[]] [[],[],[0,1],[0,1,2],[0,1],[0,1,2,3,4],[0,1,2,3,4,5],[0,1,2,3,4],[0,1,2,3,4],[0,1],[0,1],[],[],[]] (by decide +kernel) mixed ?_) | skip); simp only [go_sem, Nat.reduceLT, Nat.reduceLeDiff, Nat.reduceEqDiff, Nat.reduceBEq, Nat.reduceBNe, Nat.reduceAdd, Nat.reduceMul, Nat.reduceSub, Nat.reduceDiv, Nat.reduceMod, Int.reduceToNat, Int.reduceAdd, Int.reduceLT, Int.reduceLE, Int.reduceEq, Int.reduceSub, Int.reduceMul, Int.reduceNeg, ↓reduceIte, reduceCtorEq, bi, b0, c1, c2, c3, c4, ez]) | (refine gspDI ?_ ?_ <;> (intro _hh; (try simp only [_hh]); revert _hh)) | refine gspLI ?_ ?_ | refine condLI ?_ ?_ | refine gspI ?_ ?_ | refine And.intro ?_ ?_ | with_reducible intro _hh | trivial | (simp only [cl1, cl2, cl3, List.length_cons, List.length_nil, List.length_append]; omega))
        all_goals (refine ⟨_, _, _, ?_, ?_, ⟨i + 1, by omega, rfl, rfl, .inr rfl⟩⟩)
        all_goals first | omega | skip
        all_goals rw [hts]
        all_goals (refine Wk.subS 3 15 (fr1 := [(6, I ((i + 1 : Nat) : Int)), (5, .ptr 1 0), (4, .ptr 0 0), (1, roI q), (0, I 0)]) (H1 := [(15, .cells 90 (.lst (tmC (Sp.tmsF 0 (q.take i) ++ [((i : Int), q.getD i 0)])))), (1, .cells 44 (.lst [.sl 2 15 0 (Sp.tmsF 0 (q.take i) ++ [((i : Int), q.getD i 0)]).length, .bool false])), (0, .cells 44 (.lst [.nils, .bool false]))]) rfl (by simp only [swH, swO, List.map_cons, List.map_nil, sw_tm]; rfl) rfl (by simp only [swH, swO, List.map_cons, List.map_nil, sw_tm]; rfl) ?_ ?_ <;> (simp only [go_sem, Nat.reduceLT, Nat.reduceLeDiff, Nat.reduceEqDiff, Nat.reduceBEq, Nat.reduceBNe, Nat.reduceAdd, Nat.reduceMul, Nat.reduceSub, Nat.reduceDiv, Nat.reduceMod, Int.reduceToNat, Int.reduceAdd, Int.reduceLT, Int.reduceLE, Int.reduceEq, Int.reduceSub, Int.reduceMul, Int.reduceNeg, ↓reduceIte, reduceCtorEq, e5, e6]))
  · obtain rfl : i = q.length := by omega
    have bi : decide ((q.length : Int) < q.length) = false := by simp
    rw [List.take_length] at hcase hll
    rcases hcase with ⟨hnil, rfl⟩ | rfl
    · rw [hnil]
      repeat' (first | omega | ((first | refine awC_sound _ _ _ _ ?_ | (refine DrawA.intro (id := 8) [[45,46,47,48,49,50,51,52,53],[45,46,47,48,49,50,51,52,53],[43,44,46,48,49,50,51],[43,44,45,48,49,50,51],[43,44,48,49,50,51],[43,44,45,46,47,49],[43,44,45,46,47,48],[43,44,45,46,47],[43,44,45,46,47],[43,44],[43,44],[],[],[]] [[],[],[0,1],[0,1,2],[0,1],[0,1,2,3,4],[0,1,2,3,4,5],[0,1,2,3,4],[0,1,2,3,4],[0,1],[0,1],[],[],[]] (by decide +kernel) mixed ?_) | skip); simp only [go_sem, Nat.reduceLT, Nat.reduceLeDiff, Nat.reduceEqDiff, Nat.reduceBEq, Nat.reduceBNe, Nat.reduceAdd, Nat.reduceMul, Nat.reduceSub, Nat.reduceDiv, Nat.reduceMod, Int.reduceToNat, Int.reduceAdd, Int.reduceLT, Int.reduceLE, Int.reduceEq, Int.reduceSub, Int.reduceMul, Int.reduceNeg, ↓reduceIte, reduceCtorEq, bi]) | (refine gspDI ?_ ?_ <;> (intro _hh; (try simp only [_hh]); revert _hh)) | refine gspLI ?_ ?_ | refine condLI ?_ ?_ | refine gspI ?_ ?_ | refine And.intro ?_ ?_ | with_reducible intro _hh | trivial | (simp only [cl1, cl2, cl3, List.length_cons, List.length_nil, List.length_append]; omega))
      all_goals exact LeA.aggL (.cons (LeA.nils (by omega) rfl) (.cons (LeA.refl _) .nil))
    · have e := tmC_len (Sp.tmsF 0 q)
      repeat' (first | omega | ((first | refine awC_sound _ _ _ _ ?_ | (refine DrawA.intro (id := 8) [[45,46,47,48,49,50,51,52,53],[45,46,47,48,49,50,51,52,53],[43,44,46,48,49,50,51],[43,44,45,48,49,50,51],[43,44,48,49,50,51],[43,44,45,46,47,49],[43,44,45,46,47,48],[43,44,45,46,47],[43,44,45,46,47],[43,44],[43,44],[],[],[]] [[],[],[0,1],[0,1,2],[0,1],[0,1,2,3,4],[0,1,2,3,4,5],[0,1,2,3,4],[0,1,2,3,4],[0,1],[0,1],[],[],[]] (by decide +kernel) mixed ?_) | skip); simp only [go_sem, Nat.reduceLT, Nat.reduceLeDiff, Nat.reduceEqDiff, Nat.reduceBEq, Nat.reduceBNe, Nat.reduceAdd, Nat.reduceMul, Nat.reduceSub, Nat.reduceDiv, Nat.reduceMod, Int.reduceToNat, Int.reduceAdd, Int.reduceLT, Int.reduceLE, Int.reduceEq, Int.reduceSub, Int.reduceMul, Int.reduceNeg, ↓reduceIte, reduceCtorEq, bi]) | (refine gspDI ?_ ?_ <;> (intro _hh; (try simp only [_hh]); revert _hh)) | refine gspLI ?_ ?_ | refine condLI ?_ ?_ | refine gspI ?_ ?_ | refine And.intro ?_ ?_ | with_reducible intro _hh | trivial | (simp only [cl1, cl2, cl3, List.length_cons, List.length_nil, List.length_append]; omega))
      all_goals (rw [List.take_of_length_le (by omega)]; exact LeA.refl _)
theorem fn_rText (p : List (Int × Int)) (nm : List UInt8) (hr : cok p) (hn : nm.length ≤ 1000) (hpl : p.length ≤ 1000) :
    Fn Tryd.prog 23 [rpA p, .str ⟨nm.toArray⟩] (.str ⟨(txtB nm p).toArray⟩) := by
  unfold txtB
  split
  · obtain rfl : p = [] := List.eq_nil_of_length_eq_zero (by assumption)
    exact fn_rText0 _
  · exact fn_rText1 p nm (by omega) hr hn hpl
end Go.Proofs.YtmplhbgolhlicaaDoor
