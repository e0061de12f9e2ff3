/- The reference of layer 19: sums, the polynomial. -/
import Derived.Test.YtmplhbgolhlicaaDoorSr
import Derived.Test.YtmplhbgolhlicaaDoorRf9
import Derived.Test.YtmplhbgolhlicaaDoorRf10
import Derived.Test.YtmplhbgolhlicaaDoorCw2
set_option linter.unusedSimpArgs false
set_option linter.unusedVariables false
namespace Go.Proofs.YtmplhbgolhlicaaDoor
open Go Go.RowKit
set_option maxRecDepth 100000
set_option maxHeartbeats 8000000
theorem zadd_get : ∀ (p q : List Int) (i : Nat), (Sp.zadd p q).getD i 0 = p.getD i 0 + q.getD i 0
  | [], q, i => by simp [Sp.zadd]
  | a :: p, [], i => by simp [Sp.zadd]
  | a :: p, b :: q, 0 => by simp [Sp.zadd]
  | a :: p, b :: q, i + 1 => by simp only [Sp.zadd, List.getD_cons_succ]; exact zadd_get p q i
theorem adR_len (p q : List Int) (k : Int) : (Sp.adR p k q).length = max p.length (q.length + 1) := by unfold Sp.adR; rw [Sp.zadd_len]; simp
theorem adR_get (p q : List Int) (k : Int) (i : Nat) : (Sp.adR p k q).getD i 0 = p.getD i 0 + (if 0 < i then k * q.getD (i - 1) 0 else 0) := by
  unfold Sp.adR
  rw [zadd_get]
  cases i with
  | zero => simp
  | succ i =>
    rw [List.getD_cons_succ, if_pos (by omega), Nat.add_sub_cancel]
    simp only [List.getD_eq_getElem?_getD, List.getElem?_map]
    cases q[i]? with
    | none => simp
    | some x => simp
theorem take_snoc (l : List Int) (i : Nat) (h : i < l.length) : l.take (i + 1) = l.take i ++ [l.getD i 0] := by
  rw [List.take_add_one, List.getD_eq_getElem?_getD, List.getElem?_eq_getElem h]; rfl
theorem fn_rAdd (p q : List Int) (k : Int) (hk : k = 1 ∨ k = -1) (hp : ∀ x ∈ p, -1125899906842624 ≤ x ∧ x ≤ 1125899906842624) (hq : ∀ x ∈ q, -1125899906842624 ≤ x ∧ x ≤ 1125899906842624) (hpl : p.length ≤ 100) (hql : q.length ≤ 100) :
    Fn Tryd.prog 67 [roI p, I k, roI q] (roI (Sp.adR p k q)) := by
  have hl := adR_len p q k
  have hpg : ∀ i, -1125899906842624 ≤ p.getD i 0 ∧ p.getD i 0 ≤ 1125899906842624 := fun i => by
    rw [List.getD_eq_getElem?_getD]
    cases e : p[i]? with
    | none => simp
    | some x => exact hp x (List.mem_of_getElem? e)
  have hqg : ∀ i, -1125899906842624 ≤ k * q.getD i 0 ∧ k * q.getD i 0 ≤ 1125899906842624 := fun i => by
    rw [List.getD_eq_getElem?_getD]
    cases e : q[i]? with
    | none => simp
    | some x => have := hq x (List.mem_of_getElem? e); rcases hk with rfl | rfl <;> simp only [Option.getD_some] <;> omega
  have hget := adR_get p q k
  have hsn := take_snoc (Sp.adR p k q)
  have hk1 : -1 ≤ k ∧ k ≤ 1 := by omega
  generalize Sp.adR p k q = r at *
  refine Fn.introL [.tmp 6] Tryd.func67 rfl rfl (by decide) (by simp [Tryd.ntmps67]) ?_; rw [Tryd.ntmps67]
  repeat' (first | omega | ((first | refine awC_sound _ _ _ _ ?_ | skip); simp only [go_sem, Nat.reduceLT, Nat.reduceLeDiff, Nat.reduceEqDiff, Nat.reduceBEq, Nat.reduceBNe, Nat.reduceAdd, Nat.reduceMul, Nat.reduceSub, Nat.reduceDiv, Nat.reduceMod, Int.reduceToNat, Int.reduceAdd, Int.reduceLT, Int.reduceLE, Int.reduceEq, Int.reduceSub, Int.reduceMul, Int.reduceNeg, ↓reduceIte, reduceCtorEq]) | (refine gspDI ?_ ?_ <;> (intro _hh; (try simp only [_hh]); revert _hh)) | refine gspLI ?_ ?_ | refine condLI ?_ ?_ | refine gspI ?_ ?_ | refine And.intro ?_ ?_ | with_reducible intro _hh | trivial | (simp only [cl1, cl2, cl3, List.length_cons, List.length_nil, List.length_append]; omega))
  refine LoopA.intro (fun n fr H => ∃ i : Nat, i ≤ r.length ∧ n = r.length - i ∧ ((i = 0 ∧ fr = [(8, I i), (7, .nils), (2, roI q), (1, I k), (0, roI p)] ∧ H = []) ∨ (0 < i ∧ fr = [(8, I i), (7, .sl 1 1 0 i), (2, roI q), (1, I k), (0, roI p)] ∧ H = [(1, .cells 3 (.ints (r.take i)))]))) ?_ ?_
  · refine ⟨_, _, _, ?_, 0, by omega, rfl, .inl ⟨rfl, rfl, rfl⟩⟩
    refine Wk.sub ?_ ?_ <;> simp only [go_sem, Nat.reduceLT, Nat.reduceLeDiff, Nat.reduceEqDiff, Nat.reduceBEq, Nat.reduceBNe, Nat.reduceAdd, Nat.reduceMul, Nat.reduceSub, Nat.reduceDiv, Nat.reduceMod, Int.reduceToNat, Int.reduceAdd, Int.reduceLT, Int.reduceLE, Int.reduceEq, Int.reduceSub, Int.reduceMul, Int.reduceNeg, ↓reduceIte, reduceCtorEq]
  rintro n fr H ⟨i, hi, rfl, hcase⟩
  have e1 := hpg i
  have e2 := hqg (i - 1)
  have e3 := hget i
  have ei : ((i : Int) - 1).toNat = i - 1 := by omega
  have etl : (r.take i).length = i := by rw [List.length_take]; omega
  rcases hcase with ⟨rfl, rfl, rfl⟩ | ⟨h0, rfl, rfl⟩
  · have b0 : decide ((0 : Int) < ((0 : Nat) : Int)) = false := by decide
    have bq : decide (((0 : Nat) : Int) ≤ q.length) = true := by simp
    have e4 := hsn 0 (by omega)
    rw [if_neg (by omega)] at e3
    by_cases h1 : 0 < p.length
    · have bp : decide (((0 : Nat) : Int) < p.length) = true := by simp; omega
      repeat' (first | omega | ((first | refine awC_sound _ _ _ _ ?_ | skip); simp only [go_sem, Nat.reduceLT, Nat.reduceLeDiff, Nat.reduceEqDiff, Nat.reduceBEq, Nat.reduceBNe, Nat.reduceAdd, Nat.reduceMul, Nat.reduceSub, Nat.reduceDiv, Nat.reduceMod, Int.reduceToNat, Int.reduceAdd, Int.reduceLT, Int.reduceLE, Int.reduceEq, Int.reduceSub, Int.reduceMul, Int.reduceNeg, ↓reduceIte, reduceCtorEq, b0, bq, bp]) | (refine gspDI ?_ ?_ <;> (intro _hh; (try simp only [_hh]); revert _hh)) | refine gspLI ?_ ?_ | refine condLI ?_ ?_ | refine gspI ?_ ?_ | refine And.intro ?_ ?_ | with_reducible intro _hh | trivial | (simp only [cl1, cl2, cl3, List.length_cons, List.length_nil, List.length_append]; omega))
      all_goals (refine ⟨_, _, _, ?_, ?_, ⟨1, by omega, rfl, .inr ⟨by omega, rfl, rfl⟩⟩⟩)
      all_goals first | omega | skip
      all_goals (refine Wk.sub ?_ ?_ <;> simp only [go_sem, Nat.reduceLT, Nat.reduceLeDiff, Nat.reduceEqDiff, Nat.reduceBEq, Nat.reduceBNe, Nat.reduceAdd, Nat.reduceMul, Nat.reduceSub, Nat.reduceDiv, Nat.reduceMod, Int.reduceToNat, Int.reduceAdd, Int.reduceLT, Int.reduceLE, Int.reduceEq, Int.reduceSub, Int.reduceMul, Int.reduceNeg, ↓reduceIte, reduceCtorEq])
      all_goals (rw [e4, e3]; simp)
    · have bp : decide (((0 : Nat) : Int) < p.length) = false := by rw [decide_eq_false_iff_not]; omega
      have ep : p.getD 0 0 = 0 := by rw [List.getD_eq_getElem?_getD, List.getElem?_eq_none (by omega)]; rfl
      repeat' (first | omega | ((first | refine awC_sound _ _ _ _ ?_ | skip); simp only [go_sem, Nat.reduceLT, Nat.reduceLeDiff, Nat.reduceEqDiff, Nat.reduceBEq, Nat.reduceBNe, Nat.reduceAdd, Nat.reduceMul, Nat.reduceSub, Nat.reduceDiv, Nat.reduceMod, Int.reduceToNat, Int.reduceAdd, Int.reduceLT, Int.reduceLE, Int.reduceEq, Int.reduceSub, Int.reduceMul, Int.reduceNeg, ↓reduceIte, reduceCtorEq, b0, bq, bp]) | (refine gspDI ?_ ?_ <;> (intro _hh; (try simp only [_hh]); revert _hh)) | refine gspLI ?_ ?_ | refine condLI ?_ ?_ | refine gspI ?_ ?_ | refine And.intro ?_ ?_ | with_reducible intro _hh | trivial | (simp only [cl1, cl2, cl3, List.length_cons, List.length_nil, List.length_append]; omega))
      all_goals (refine ⟨_, _, _, ?_, ?_, ⟨1, by omega, rfl, .inr ⟨by omega, rfl, rfl⟩⟩⟩)
      all_goals first | omega | skip
      all_goals (refine Wk.sub ?_ ?_ <;> simp only [go_sem, Nat.reduceLT, Nat.reduceLeDiff, Nat.reduceEqDiff, Nat.reduceBEq, Nat.reduceBNe, Nat.reduceAdd, Nat.reduceMul, Nat.reduceSub, Nat.reduceDiv, Nat.reduceMod, Int.reduceToNat, Int.reduceAdd, Int.reduceLT, Int.reduceLE, Int.reduceEq, Int.reduceSub, Int.reduceMul, Int.reduceNeg, ↓reduceIte, reduceCtorEq])
      all_goals (rw [e4, e3, ep]; simp)
  · have b0 : decide ((0 : Int) < (i : Int)) = true := by simp; omega
    rw [if_pos h0] at e3
    by_cases h1 : i < p.length
    · have bp : decide ((i : Int) < p.length) = true := by simp; omega
      have e4 := hsn i (by omega)
      by_cases h2 : i ≤ q.length
      · have bq : decide ((i : Int) ≤ q.length) = true := by simp; omega
        repeat' (first | omega | ((first | refine awC_sound _ _ _ _ ?_ | skip); simp only [go_sem, Nat.reduceLT, Nat.reduceLeDiff, Nat.reduceEqDiff, Nat.reduceBEq, Nat.reduceBNe, Nat.reduceAdd, Nat.reduceMul, Nat.reduceSub, Nat.reduceDiv, Nat.reduceMod, Int.reduceToNat, Int.reduceAdd, Int.reduceLT, Int.reduceLE, Int.reduceEq, Int.reduceSub, Int.reduceMul, Int.reduceNeg, ↓reduceIte, reduceCtorEq, b0, bq, bp, ei]) | (refine gspDI ?_ ?_ <;> (intro _hh; (try simp only [_hh]); revert _hh)) | refine gspLI ?_ ?_ | refine condLI ?_ ?_ | refine gspI ?_ ?_ | refine And.intro ?_ ?_ | with_reducible intro _hh | trivial | (simp only [cl1, cl2, cl3, List.length_cons, List.length_nil, List.length_append]; omega))
        all_goals (refine ⟨_, _, _, ?_, ?_, ⟨i + 1, by omega, rfl, .inr ⟨by omega, rfl, rfl⟩⟩⟩)
        all_goals first | omega | skip
        all_goals (refine Wk.sub ?_ ?_ <;> simp only [go_sem, Nat.reduceLT, Nat.reduceLeDiff, Nat.reduceEqDiff, Nat.reduceBEq, Nat.reduceBNe, Nat.reduceAdd, Nat.reduceMul, Nat.reduceSub, Nat.reduceDiv, Nat.reduceMod, Int.reduceToNat, Int.reduceAdd, Int.reduceLT, Int.reduceLE, Int.reduceEq, Int.reduceSub, Int.reduceMul, Int.reduceNeg, ↓reduceIte, reduceCtorEq])
        all_goals (rw [e4, e3])
      · have bq : decide ((i : Int) ≤ q.length) = false := by simp; omega
        have eq : q.getD (i - 1) 0 = 0 := by rw [List.getD_eq_getElem?_getD, List.getElem?_eq_none (by omega)]; rfl
        rw [eq] at e3
        repeat' (first | omega | ((first | refine awC_sound _ _ _ _ ?_ | skip); simp only [go_sem, Nat.reduceLT, Nat.reduceLeDiff, Nat.reduceEqDiff, Nat.reduceBEq, Nat.reduceBNe, Nat.reduceAdd, Nat.reduceMul, Nat.reduceSub, Nat.reduceDiv, Nat.reduceMod, Int.reduceToNat, Int.reduceAdd, Int.reduceLT, Int.reduceLE, Int.reduceEq, Int.reduceSub, Int.reduceMul, Int.reduceNeg, ↓reduceIte, reduceCtorEq, b0, bq, bp, ei]) | (refine gspDI ?_ ?_ <;> (intro _hh; (try simp only [_hh]); revert _hh)) | refine gspLI ?_ ?_ | refine condLI ?_ ?_ | refine gspI ?_ ?_ | refine And.intro ?_ ?_ | with_reducible intro _hh | trivial | (simp only [cl1, cl2, cl3, List.length_cons, List.length_nil, List.length_append]; omega))
        all_goals (refine ⟨_, _, _, ?_, ?_, ⟨i + 1, by omega, rfl, .inr ⟨by omega, rfl, rfl⟩⟩⟩)
        all_goals first | omega | skip
        all_goals (refine Wk.sub ?_ ?_ <;> simp only [go_sem, Nat.reduceLT, Nat.reduceLeDiff, Nat.reduceEqDiff, Nat.reduceBEq, Nat.reduceBNe, Nat.reduceAdd, Nat.reduceMul, Nat.reduceSub, Nat.reduceDiv, Nat.reduceMod, Int.reduceToNat, Int.reduceAdd, Int.reduceLT, Int.reduceLE, Int.reduceEq, Int.reduceSub, Int.reduceMul, Int.reduceNeg, ↓reduceIte, reduceCtorEq])
        all_goals (rw [e4, e3]; simp)
    · have bp : decide ((i : Int) < p.length) = false := by simp; omega
      have ep : p.getD i 0 = 0 := by rw [List.getD_eq_getElem?_getD, List.getElem?_eq_none (by omega)]; rfl
      rw [ep] at e3
      by_cases h2 : i ≤ q.length
      · have bq : decide ((i : Int) ≤ q.length) = true := by simp; omega
        have e4 := hsn i (by omega)
        repeat' (first | omega | ((first | refine awC_sound _ _ _ _ ?_ | skip); simp only [go_sem, Nat.reduceLT, Nat.reduceLeDiff, Nat.reduceEqDiff, Nat.reduceBEq, Nat.reduceBNe, Nat.reduceAdd, Nat.reduceMul, Nat.reduceSub, Nat.reduceDiv, Nat.reduceMod, Int.reduceToNat, Int.reduceAdd, Int.reduceLT, Int.reduceLE, Int.reduceEq, Int.reduceSub, Int.reduceMul, Int.reduceNeg, ↓reduceIte, reduceCtorEq, b0, bq, bp, ei]) | (refine gspDI ?_ ?_ <;> (intro _hh; (try simp only [_hh]); revert _hh)) | refine gspLI ?_ ?_ | refine condLI ?_ ?_ | refine gspI ?_ ?_ | refine And.intro ?_ ?_ | with_reducible intro _hh | trivial | (simp only [cl1, cl2, cl3, List.length_cons, List.length_nil, List.length_append]; omega))
        all_goals (refine ⟨_, _, _, ?_, ?_, ⟨i + 1, by omega, rfl, .inr ⟨by omega, rfl, rfl⟩⟩⟩)
        all_goals first | omega | skip
        all_goals (refine Wk.sub ?_ ?_ <;> simp only [go_sem, Nat.reduceLT, Nat.reduceLeDiff, Nat.reduceEqDiff, Nat.reduceBEq, Nat.reduceBNe, Nat.reduceAdd, Nat.reduceMul, Nat.reduceSub, Nat.reduceDiv, Nat.reduceMod, Int.reduceToNat, Int.reduceAdd, Int.reduceLT, Int.reduceLE, Int.reduceEq, Int.reduceSub, Int.reduceMul, Int.reduceNeg, ↓reduceIte, reduceCtorEq])
        all_goals (rw [e4, e3, Int.zero_add])
      · have bq : decide ((i : Int) ≤ q.length) = false := by simp; omega
        obtain rfl : i = r.length := by omega
        repeat' (first | omega | ((first | refine awC_sound _ _ _ _ ?_ | skip); simp only [go_sem, Nat.reduceLT, Nat.reduceLeDiff, Nat.reduceEqDiff, Nat.reduceBEq, Nat.reduceBNe, Nat.reduceAdd, Nat.reduceMul, Nat.reduceSub, Nat.reduceDiv, Nat.reduceMod, Int.reduceToNat, Int.reduceAdd, Int.reduceLT, Int.reduceLE, Int.reduceEq, Int.reduceSub, Int.reduceMul, Int.reduceNeg, ↓reduceIte, reduceCtorEq, b0, bq, bp, ei]) | (refine gspDI ?_ ?_ <;> (intro _hh; (try simp only [_hh]); revert _hh)) | refine gspLI ?_ ?_ | refine condLI ?_ ?_ | refine gspI ?_ ?_ | refine And.intro ?_ ?_ | with_reducible intro _hh | trivial | (simp only [cl1, cl2, cl3, List.length_cons, List.length_nil, List.length_append]; omega))
        all_goals first | exact LeA.refl _ | (simp only [List.take_length]; exact LeA.refl _) | skip
theorem fn_rComponents (s m : List Int) (L : Int) (hv : validB s m L = true) : Fn Tryd.prog 66 [dgA s m L] (I ((strandsM s m).length + L)) := by
  have v1 := valid1 hv
  have h64 := v1.s64
  have hl := v1.len
  have h0 := v1.l0
  have h1 := v1.l64
  have hS := fn_rStrands s m L s.length rfl (by omega) hl (fun i hi => v1.prd.ok.2 i (by omega))
  rw [strands_ref v1] at hS
  have hsl := strandsM_len s m
  refine Fn.intro [.tmp 2] Tryd.func66 rfl rfl (by decide) (by simp [Tryd.ntmps66]) ?_; rw [Tryd.ntmps66]
  repeat' (first | omega | ((first | refine awC_sound _ _ _ _ ?_ | (refine DrawA.intro (id := 1) [[6,7],[6,7],[6,7],[3,4,5],[3,4,5],[],[]] [[],[],[],[0,1,2],[0,1,2],[],[]] (by decide +kernel) mixed ?_) | (refine DrawA.introT (id := 1) (.node [(0, .node [(1, .node [(2, .node [(3, .node [(4, .node [(5, .node [(6, .done)])])])]), (3, .node [(2, .node [(4, .node [(5, .node [(6, .done)])])]), (4, .node [(2, .node [(5, .node [(6, .done)])])])])]), (3, .node [(1, .node [(2, .node [(4, .node [(5, .node [(6, .done)])])]), (4, .node [(2, .node [(5, .node [(6, .done)])])])]), (4, .node [(1, .node [(2, .node [(5, .node [(6, .done)])])])])])]), (3, .node [(0, .node [(1, .node [(2, .node [(4, .node [(5, .node [(6, .done)])])]), (4, .node [(2, .node [(5, .node [(6, .done)])])])]), (4, .node [(1, .node [(2, .node [(5, .node [(6, .done)])])])])]), (4, .node [(0, .node [(1, .node [(2, .node [(5, .node [(6, .done)])])])])])])]) (by decide +kernel) mixed ?_) | skip); simp only [go_sem, Nat.reduceLT, Nat.reduceLeDiff, Nat.reduceEqDiff, Nat.reduceBEq, Nat.reduceBNe, Nat.reduceAdd, Nat.reduceMul, Nat.reduceSub, Nat.reduceDiv, Nat.reduceMod, Int.reduceToNat, Int.reduceAdd, Int.reduceLT, Int.reduceLE, Int.reduceEq, Int.reduceSub, Int.reduceMul, Int.reduceNeg, ↓reduceIte, reduceCtorEq]) | (refine gspDI ?_ ?_ <;> (intro _hh; (try simp only [_hh]); revert _hh)) | refine gspLI ?_ ?_ | refine condLI ?_ ?_ | refine gspI ?_ ?_ | refine And.intro ?_ ?_ | with_reducible intro _hh | trivial | (simp only [cl1, cl2, cl3, List.length_cons, List.length_nil, List.length_append]; omega))
  refine ⟨CallA.fn rfl hS ?_⟩
  repeat' (first | omega | ((first | refine awC_sound _ _ _ _ ?_ | skip); simp only [go_sem, Nat.reduceLT, Nat.reduceLeDiff, Nat.reduceEqDiff, Nat.reduceBEq, Nat.reduceBNe, Nat.reduceAdd, Nat.reduceMul, Nat.reduceSub, Nat.reduceDiv, Nat.reduceMod, Int.reduceToNat, Int.reduceAdd, Int.reduceLT, Int.reduceLE, Int.reduceEq, Int.reduceSub, Int.reduceMul, Int.reduceNeg, ↓reduceIte, reduceCtorEq]) | (refine gspDI ?_ ?_ <;> (intro _hh; (try simp only [_hh]); revert _hh)) | refine gspLI ?_ ?_ | refine condLI ?_ ?_ | refine gspI ?_ ?_ | refine And.intro ?_ ?_ | with_reducible intro _hh | trivial | (simp only [cl1, cl2, cl3, List.length_cons, List.length_nil, List.length_append]; omega))
theorem fn_rPoly : ∀ (f : Nat) (s m : List Int) (L : Int) (q : List Int), validB s m L = true → L + 2 * s.length ≤ 62 → Sp.rfM f s m L = some q → Fn Tryd.prog 25 [dgA s m L] (roI q) := by
  intro f
  induction f with
  | zero => intro s m L q _ _ h; simp [Sp.rfM] at h
  | succ f ih =>
    intro s m L q hv hL h
    have v1 := valid1 hv
    have hB := fn_rBad s m L hv
    have hC := fn_rComponents s m L hv
    have h0 := v1.l0
    unfold badR at hB
    unfold Sp.rfM at h
    cases hbo : badO s m with
    | none =>
      rw [hbo] at hB h
      simp only at hB h
      obtain rfl := Option.some.inj h
      by_cases he : ((strandsM s m).length : Int) + L = 1
      · rw [if_pos he]
        rw [he] at hC
        refine Fn.introL [.tmp 2] Tryd.func25 rfl rfl (by decide) (by simp [Tryd.ntmps25]) ?_; rw [Tryd.ntmps25]
        repeat' (first | omega | ((first | refine awC_sound _ _ _ _ ?_ | skip); simp only [go_sem, Nat.reduceLT, Nat.reduceLeDiff, Nat.reduceEqDiff, Nat.reduceBEq, Nat.reduceBNe, Nat.reduceAdd, Nat.reduceMul, Nat.reduceSub, Nat.reduceDiv, Nat.reduceMod, Int.reduceToNat, Int.reduceAdd, Int.reduceLT, Int.reduceLE, Int.reduceEq, Int.reduceSub, Int.reduceMul, Int.reduceNeg, ↓reduceIte, reduceCtorEq]) | (refine gspDI ?_ ?_ <;> (intro _hh; (try simp only [_hh]); revert _hh)) | refine gspLI ?_ ?_ | refine condLI ?_ ?_ | refine gspI ?_ ?_ | refine And.intro ?_ ?_ | with_reducible intro _hh | trivial | (simp only [cl1, cl2, cl3, List.length_cons, List.length_nil, List.length_append]; omega))
        all_goals refine ⟨CallB.fn rfl hB ?_⟩
        all_goals (repeat' (first | omega | ((first | refine awC_sound _ _ _ _ ?_ | (refine DrawA.intro (id := 6) [[14,17,18,19,20,21,22,23],[13,17,18,19,20,21,22,23],[17,18,19,20,21,22,23],[17,18,19,20,21,22,23],[13,14,15,16,19,22,23,24,25],[13,14,15,16,19,22,23,24,25],[13,14,15,16,17,18,22,23,24,25],[13,14,15,16,22,23,24,25],[13,14,15,16,22,23,24,25],[13,14,15,16,17,18,19,20,21,23],[13,14,15,16,17,18,19,20,21,22],[17,18,19,20,21],[17,18,19,20,21],[],[]] [[],[0],[],[],[0,1,2,3],[0,1,2,3],[0,1,2,3,4,5],[0,1,2,3],[0,1,2,3],[0,1,2,3,4,5,6,7,8],[0,1,2,3,4,5,6,7,8,9],[4,5,6,7,8],[4,5,6,7,8],[],[]] (by decide +kernel) mixed ?_) | skip); simp only [go_sem, Nat.reduceLT, Nat.reduceLeDiff, Nat.reduceEqDiff, Nat.reduceBEq, Nat.reduceBNe, Nat.reduceAdd, Nat.reduceMul, Nat.reduceSub, Nat.reduceDiv, Nat.reduceMod, Int.reduceToNat, Int.reduceAdd, Int.reduceLT, Int.reduceLE, Int.reduceEq, Int.reduceSub, Int.reduceMul, Int.reduceNeg, ↓reduceIte, reduceCtorEq]) | (refine gspDI ?_ ?_ <;> (intro _hh; (try simp only [_hh]); revert _hh)) | refine gspLI ?_ ?_ | refine condLI ?_ ?_ | refine gspI ?_ ?_ | refine And.intro ?_ ?_ | with_reducible intro _hh | trivial | (simp only [cl1, cl2, cl3, List.length_cons, List.length_nil, List.length_append]; omega)))
        all_goals refine ⟨CallB.fn rfl hC ?_⟩
        all_goals (repeat' (first | omega | ((first | refine awC_sound _ _ _ _ ?_ | (refine DrawA.intro (id := 6) [[14,17,18,19,20,21,22,23],[13,17,18,19,20,21,22,23],[17,18,19,20,21,22,23],[17,18,19,20,21,22,23],[13,14,15,16,19,22,23,24,25],[13,14,15,16,19,22,23,24,25],[13,14,15,16,17,18,22,23,24,25],[13,14,15,16,22,23,24,25],[13,14,15,16,22,23,24,25],[13,14,15,16,17,18,19,20,21,23],[13,14,15,16,17,18,19,20,21,22],[17,18,19,20,21],[17,18,19,20,21],[],[]] [[],[0],[],[],[0,1,2,3],[0,1,2,3],[0,1,2,3,4,5],[0,1,2,3],[0,1,2,3],[0,1,2,3,4,5,6,7,8],[0,1,2,3,4,5,6,7,8,9],[4,5,6,7,8],[4,5,6,7,8],[],[]] (by decide +kernel) mixed ?_) | skip); simp only [go_sem, Nat.reduceLT, Nat.reduceLeDiff, Nat.reduceEqDiff, Nat.reduceBEq, Nat.reduceBNe, Nat.reduceAdd, Nat.reduceMul, Nat.reduceSub, Nat.reduceDiv, Nat.reduceMod, Int.reduceToNat, Int.reduceAdd, Int.reduceLT, Int.reduceLE, Int.reduceEq, Int.reduceSub, Int.reduceMul, Int.reduceNeg, ↓reduceIte, reduceCtorEq]) | (refine gspDI ?_ ?_ <;> (intro _hh; (try simp only [_hh]); revert _hh)) | refine gspLI ?_ ?_ | refine condLI ?_ ?_ | refine gspI ?_ ?_ | refine And.intro ?_ ?_ | with_reducible intro _hh | trivial | (simp only [cl1, cl2, cl3, List.length_cons, List.length_nil, List.length_append]; omega)))
        all_goals exact LeA.refl _
      · rw [if_neg he]
        have be : (((strandsM s m).length : Int) + L == 1) = false := by simpa using he
        refine Fn.introL [.tmp 2] Tryd.func25 rfl rfl (by decide) (by simp [Tryd.ntmps25]) ?_; rw [Tryd.ntmps25]
        repeat' (first | omega | ((first | refine awC_sound _ _ _ _ ?_ | skip); simp only [go_sem, Nat.reduceLT, Nat.reduceLeDiff, Nat.reduceEqDiff, Nat.reduceBEq, Nat.reduceBNe, Nat.reduceAdd, Nat.reduceMul, Nat.reduceSub, Nat.reduceDiv, Nat.reduceMod, Int.reduceToNat, Int.reduceAdd, Int.reduceLT, Int.reduceLE, Int.reduceEq, Int.reduceSub, Int.reduceMul, Int.reduceNeg, ↓reduceIte, reduceCtorEq]) | (refine gspDI ?_ ?_ <;> (intro _hh; (try simp only [_hh]); revert _hh)) | refine gspLI ?_ ?_ | refine condLI ?_ ?_ | refine gspI ?_ ?_ | refine And.intro ?_ ?_ | with_reducible intro _hh | trivial | (simp only [cl1, cl2, cl3, List.length_cons, List.length_nil, List.length_append]; omega))
        all_goals refine ⟨CallB.fn rfl hB ?_⟩
        all_goals (repeat' (first | omega | ((first | refine awC_sound _ _ _ _ ?_ | (refine DrawA.intro (id := 6) [[14,17,18,19,20,21,22,23],[13,17,18,19,20,21,22,23],[17,18,19,20,21,22,23],[17,18,19,20,21,22,23],[13,14,15,16,19,22,23,24,25],[13,14,15,16,19,22,23,24,25],[13,14,15,16,17,18,22,23,24,25],[13,14,15,16,22,23,24,25],[13,14,15,16,22,23,24,25],[13,14,15,16,17,18,19,20,21,23],[13,14,15,16,17,18,19,20,21,22],[17,18,19,20,21],[17,18,19,20,21],[],[]] [[],[0],[],[],[0,1,2,3],[0,1,2,3],[0,1,2,3,4,5],[0,1,2,3],[0,1,2,3],[0,1,2,3,4,5,6,7,8],[0,1,2,3,4,5,6,7,8,9],[4,5,6,7,8],[4,5,6,7,8],[],[]] (by decide +kernel) mixed ?_) | skip); simp only [go_sem, Nat.reduceLT, Nat.reduceLeDiff, Nat.reduceEqDiff, Nat.reduceBEq, Nat.reduceBNe, Nat.reduceAdd, Nat.reduceMul, Nat.reduceSub, Nat.reduceDiv, Nat.reduceMod, Int.reduceToNat, Int.reduceAdd, Int.reduceLT, Int.reduceLE, Int.reduceEq, Int.reduceSub, Int.reduceMul, Int.reduceNeg, ↓reduceIte, reduceCtorEq]) | (refine gspDI ?_ ?_ <;> (intro _hh; (try simp only [_hh]); revert _hh)) | refine gspLI ?_ ?_ | refine condLI ?_ ?_ | refine gspI ?_ ?_ | refine And.intro ?_ ?_ | with_reducible intro _hh | trivial | (simp only [cl1, cl2, cl3, List.length_cons, List.length_nil, List.length_append]; omega)))
        all_goals refine ⟨CallB.fn rfl hC ?_⟩
        all_goals (repeat' (first | omega | ((first | refine awC_sound _ _ _ _ ?_ | (refine DrawA.intro (id := 6) [[14,17,18,19,20,21,22,23],[13,17,18,19,20,21,22,23],[17,18,19,20,21,22,23],[17,18,19,20,21,22,23],[13,14,15,16,19,22,23,24,25],[13,14,15,16,19,22,23,24,25],[13,14,15,16,17,18,22,23,24,25],[13,14,15,16,22,23,24,25],[13,14,15,16,22,23,24,25],[13,14,15,16,17,18,19,20,21,23],[13,14,15,16,17,18,19,20,21,22],[17,18,19,20,21],[17,18,19,20,21],[],[]] [[],[0],[],[],[0,1,2,3],[0,1,2,3],[0,1,2,3,4,5],[0,1,2,3],[0,1,2,3],[0,1,2,3,4,5,6,7,8],[0,1,2,3,4,5,6,7,8,9],[4,5,6,7,8],[4,5,6,7,8],[],[]] (by decide +kernel) mixed ?_) | skip); simp only [go_sem, Nat.reduceLT, Nat.reduceLeDiff, Nat.reduceEqDiff, Nat.reduceBEq, Nat.reduceBNe, Nat.reduceAdd, Nat.reduceMul, Nat.reduceSub, Nat.reduceDiv, Nat.reduceMod, Int.reduceToNat, Int.reduceAdd, Int.reduceLT, Int.reduceLE, Int.reduceEq, Int.reduceSub, Int.reduceMul, Int.reduceNeg, ↓reduceIte, reduceCtorEq, be]) | (refine gspDI ?_ ?_ <;> (intro _hh; (try simp only [_hh]); revert _hh)) | refine gspLI ?_ ?_ | refine condLI ?_ ?_ | refine gspI ?_ ?_ | refine And.intro ?_ ?_ | with_reducible intro _hh | trivial | (simp only [cl1, cl2, cl3, List.length_cons, List.length_nil, List.length_append]; omega)))
        all_goals exact LeA.refl _
    | some c =>
      rw [hbo] at hB h
      simp only at hB h
      have hcr := badO_rng v1.prd hbo
      obtain ⟨n, rfl⟩ : ∃ n : Nat, c = n := ⟨c.toNat, by omega⟩
      have hn : n < s.length := by omega
      simp only [Int.toNat_natCast] at h
      have h64 := v1.s64
      have hml := v1.len
      split at h
      case h_2 => cases h
      rename_i p1 q1 e1 e2
      split at h
      case isFalse => cases h
      rename_i hok
      simp only [Sp.bdB, Bool.and_eq_true, List.all_eq_true, decide_eq_true_eq] at hok
      obtain ⟨⟨⟨g1, g2⟩, g3⟩, g4⟩ := hok
      obtain rfl := Option.some.inj h
      have hsm := Sp.smL_rng (m := m) (b := (s.getD n 0 == -1)) (c := n) (n := s.length)
      have hlp : smLp s m n L = L + smL m (s.getD n 0 == -1) n s.length := rfl
      obtain ⟨w2, l2⟩ := Sp.valid_smooth hv hn (by omega)
      have w1 := Sp.valid_switch hv hn
      have f1 := ih _ _ _ _ w1 (by rw [Sp.swS_len]; omega) e1
      have f2 := ih _ _ _ _ w2 (by rw [l2]; omega) e2
      have hA := fn_rAdd p1 q1 (s.getD n 0) (v1.sg n hn) g1 g2 g3 g4
      have hsw := fn_rSwitched s m L n hn (by omega) v1.sg v1.prd.ok
      have hsm := fn_rSmooth s m L n hn (by omega) hv (s.getD n 0 == -1) rfl
      have bn : decide ((n : Int) < 0) = false := by simp
      change Fn Tryd.prog 17 [dgA s m L, I n] (dgA (swS s n) (swM s m n) L) at hsw
      change Fn Tryd.prog 18 [dgA s m L, I n] (dgA (smS s n) (smM s m n) (smLp s m n L)) at hsm
      generalize swS s n = xs at *
      generalize swM s m n = xm at *
      generalize smS s n = ys at *
      generalize smM s m n = ym at *
      generalize smLp s m n L = yl at *
      refine Fn.introL [.tmp 2] Tryd.func25 rfl rfl (by decide) (by simp [Tryd.ntmps25]) ?_; rw [Tryd.ntmps25]
      repeat' (first | omega | ((first | refine awC_sound _ _ _ _ ?_ | skip); simp only [go_sem, Nat.reduceLT, Nat.reduceLeDiff, Nat.reduceEqDiff, Nat.reduceBEq, Nat.reduceBNe, Nat.reduceAdd, Nat.reduceMul, Nat.reduceSub, Nat.reduceDiv, Nat.reduceMod, Int.reduceToNat, Int.reduceAdd, Int.reduceLT, Int.reduceLE, Int.reduceEq, Int.reduceSub, Int.reduceMul, Int.reduceNeg, ↓reduceIte, reduceCtorEq]) | (refine gspDI ?_ ?_ <;> (intro _hh; (try simp only [_hh]); revert _hh)) | refine gspLI ?_ ?_ | refine condLI ?_ ?_ | refine gspI ?_ ?_ | refine And.intro ?_ ?_ | with_reducible intro _hh | trivial | (simp only [cl1, cl2, cl3, List.length_cons, List.length_nil, List.length_append]; omega))
      refine ⟨CallB.fn rfl hB ?_⟩
      repeat' (first | omega | ((first | refine awC_sound _ _ _ _ ?_ | (refine DrawA.intro (id := 6) [[14,17,18,19,20,21,22,23],[13,17,18,19,20,21,22,23],[17,18,19,20,21,22,23],[17,18,19,20,21,22,23],[13,14,15,16,19,22,23,24,25],[13,14,15,16,19,22,23,24,25],[13,14,15,16,17,18,22,23,24,25],[13,14,15,16,22,23,24,25],[13,14,15,16,22,23,24,25],[13,14,15,16,17,18,19,20,21,23],[13,14,15,16,17,18,19,20,21,22],[17,18,19,20,21],[17,18,19,20,21],[],[]] [[],[0],[],[],[0,1,2,3],[0,1,2,3],[0,1,2,3,4,5],[0,1,2,3],[0,1,2,3],[0,1,2,3,4,5,6,7,8],[0,1,2,3,4,5,6,7,8,9],[4,5,6,7,8],[4,5,6,7,8],[],[]] (by decide +kernel) mixed ?_) | skip); simp only [go_sem, Nat.reduceLT, Nat.reduceLeDiff, Nat.reduceEqDiff, Nat.reduceBEq, Nat.reduceBNe, Nat.reduceAdd, Nat.reduceMul, Nat.reduceSub, Nat.reduceDiv, Nat.reduceMod, Int.reduceToNat, Int.reduceAdd, Int.reduceLT, Int.reduceLE, Int.reduceEq, Int.reduceSub, Int.reduceMul, Int.reduceNeg, ↓reduceIte, reduceCtorEq, bn]) | (refine gspDI ?_ ?_ <;> (intro _hh; (try simp only [_hh]); revert _hh)) | refine gspLI ?_ ?_ | refine condLI ?_ ?_ | refine gspI ?_ ?_ | refine And.intro ?_ ?_ | with_reducible intro _hh | trivial | (simp only [cl1, cl2, cl3, List.length_cons, List.length_nil, List.length_append]; omega))
      refine ⟨CallA.fn rfl hsw ?_⟩
      simp only [go_sem, Nat.reduceLT, Nat.reduceLeDiff, Nat.reduceEqDiff, Nat.reduceBEq, Nat.reduceBNe, Nat.reduceAdd, Nat.reduceMul, Nat.reduceSub, Nat.reduceDiv, Nat.reduceMod, Int.reduceToNat, Int.reduceAdd, Int.reduceLT, Int.reduceLE, Int.reduceEq, Int.reduceSub, Int.reduceMul, Int.reduceNeg, ↓reduceIte, reduceCtorEq, bn]
      refine ⟨CallA.fn rfl f1 ?_⟩
      simp only [go_sem, Nat.reduceLT, Nat.reduceLeDiff, Nat.reduceEqDiff, Nat.reduceBEq, Nat.reduceBNe, Nat.reduceAdd, Nat.reduceMul, Nat.reduceSub, Nat.reduceDiv, Nat.reduceMod, Int.reduceToNat, Int.reduceAdd, Int.reduceLT, Int.reduceLE, Int.reduceEq, Int.reduceSub, Int.reduceMul, Int.reduceNeg, ↓reduceIte, reduceCtorEq, bn]
      repeat' (first | omega | ((first | refine awC_sound _ _ _ _ ?_ | (refine DrawA.intro (id := 6) [[14,17,18,19,20,21,22,23],[13,17,18,19,20,21,22,23],[17,18,19,20,21,22,23],[17,18,19,20,21,22,23],[13,14,15,16,19,22,23,24,25],[13,14,15,16,19,22,23,24,25],[13,14,15,16,17,18,22,23,24,25],[13,14,15,16,22,23,24,25],[13,14,15,16,22,23,24,25],[13,14,15,16,17,18,19,20,21,23],[13,14,15,16,17,18,19,20,21,22],[17,18,19,20,21],[17,18,19,20,21],[],[]] [[],[0],[],[],[0,1,2,3],[0,1,2,3],[0,1,2,3,4,5],[0,1,2,3],[0,1,2,3],[0,1,2,3,4,5,6,7,8],[0,1,2,3,4,5,6,7,8,9],[4,5,6,7,8],[4,5,6,7,8],[],[]] (by decide +kernel) mixed ?_) | skip); simp only [go_sem, Nat.reduceLT, Nat.reduceLeDiff, Nat.reduceEqDiff, Nat.reduceBEq, Nat.reduceBNe, Nat.reduceAdd, Nat.reduceMul, Nat.reduceSub, Nat.reduceDiv, Nat.reduceMod, Int.reduceToNat, Int.reduceAdd, Int.reduceLT, Int.reduceLE, Int.reduceEq, Int.reduceSub, Int.reduceMul, Int.reduceNeg, ↓reduceIte, reduceCtorEq, bn]) | (refine gspDI ?_ ?_ <;> (intro _hh; (try simp only [_hh]); revert _hh)) | refine gspLI ?_ ?_ | refine condLI ?_ ?_ | refine gspI ?_ ?_ | refine And.intro ?_ ?_ | with_reducible intro _hh | trivial | (simp only [cl1, cl2, cl3, List.length_cons, List.length_nil, List.length_append]; omega))
      refine ⟨CallA.fn rfl hsm ?_⟩
      simp only [go_sem, Nat.reduceLT, Nat.reduceLeDiff, Nat.reduceEqDiff, Nat.reduceBEq, Nat.reduceBNe, Nat.reduceAdd, Nat.reduceMul, Nat.reduceSub, Nat.reduceDiv, Nat.reduceMod, Int.reduceToNat, Int.reduceAdd, Int.reduceLT, Int.reduceLE, Int.reduceEq, Int.reduceSub, Int.reduceMul, Int.reduceNeg, ↓reduceIte, reduceCtorEq, bn]
      refine ⟨CallA.fn rfl f2 ?_⟩
      simp only [go_sem, Nat.reduceLT, Nat.reduceLeDiff, Nat.reduceEqDiff, Nat.reduceBEq, Nat.reduceBNe, Nat.reduceAdd, Nat.reduceMul, Nat.reduceSub, Nat.reduceDiv, Nat.reduceMod, Int.reduceToNat, Int.reduceAdd, Int.reduceLT, Int.reduceLE, Int.reduceEq, Int.reduceSub, Int.reduceMul, Int.reduceNeg, ↓reduceIte, reduceCtorEq, bn]
      refine ⟨CallA.fn rfl hA ?_⟩
      simp only [go_sem, Nat.reduceLT, Nat.reduceLeDiff, Nat.reduceEqDiff, Nat.reduceBEq, Nat.reduceBNe, Nat.reduceAdd, Nat.reduceMul, Nat.reduceSub, Nat.reduceDiv, Nat.reduceMod, Int.reduceToNat, Int.reduceAdd, Int.reduceLT, Int.reduceLE, Int.reduceEq, Int.reduceSub, Int.reduceMul, Int.reduceNeg, ↓reduceIte, reduceCtorEq, bn]
      repeat' (first | omega | ((first | refine awC_sound _ _ _ _ ?_ | skip); simp only [go_sem, Nat.reduceLT, Nat.reduceLeDiff, Nat.reduceEqDiff, Nat.reduceBEq, Nat.reduceBNe, Nat.reduceAdd, Nat.reduceMul, Nat.reduceSub, Nat.reduceDiv, Nat.reduceMod, Int.reduceToNat, Int.reduceAdd, Int.reduceLT, Int.reduceLE, Int.reduceEq, Int.reduceSub, Int.reduceMul, Int.reduceNeg, ↓reduceIte, reduceCtorEq]) | (refine gspDI ?_ ?_ <;> (intro _hh; (try simp only [_hh]); revert _hh)) | refine gspLI ?_ ?_ | refine condLI ?_ ?_ | refine gspI ?_ ?_ | refine And.intro ?_ ?_ | with_reducible intro _hh | trivial | (simp only [cl1, cl2, cl3, List.length_cons, List.length_nil, List.length_append]; omega))
      all_goals exact LeA.refl _
end Go.Proofs.YtmplhbgolhlicaaDoor
