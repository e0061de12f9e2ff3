/- Layer 1: Renumber. -/
import Derived.Test.YtalmkaiiffodnaaGreatDoorXf
import Derived.Test.YtalmkaiiffodnaaGreatDoorXc
set_option linter.unusedSimpArgs false
set_option linter.unusedVariables false
namespace Go.Proofs.YtalmkaiiffodnaaGreatDoor
open Go Go.RowKit
set_option maxRecDepth 100000
set_option maxHeartbeats 8000000
def tabK (f : Nat → Int) (N k : Nat) : List Int := (List.range N).map fun x => if x < k then f x else 0
theorem tabK_len (f : Nat → Int) (N k : Nat) : (tabK f N k).length = N := by simp [tabK]
theorem tabK_0 (f : Nat → Int) (N : Nat) : tabK f N 0 = List.replicate N 0 := by
  refine List.ext_getElem (by simp [tabK]) fun i h1 h2 => by simp [tabK]
theorem tabK_set (f : Nat → Int) (N k : Nat) (h : k < N) : (tabK f N k).set k (f k) = tabK f N (k + 1) := by
  refine List.ext_getElem (by simp [tabK]) fun i h1 h2 => ?_
  simp only [List.length_set, tabK_len] at h1
  rw [List.getElem_set]
  by_cases e : k = i
  · subst e; simp [tabK]
  · rw [if_neg e]
    simp only [tabK, List.getElem_map, List.getElem_range]
    by_cases h2 : i < k
    · rw [if_pos h2, if_pos (by omega)]
    · rw [if_neg h2, if_neg (by omega)]
theorem tabK_full (f : Nat → Int) (N : Nat) : tabK f N N = (List.range N).map f := by
  refine List.ext_getElem (by simp [tabK]) fun i h1 h2 => ?_
  simp only [tabK_len] at h1
  simp [tabK, h1]
def nuL (o : List Int) (n : Nat) : Nat → List Int
  | 0 => (List.range n).map fun _ => (-1 : Int)
  | k + 1 => (nuL o n k).set (o.getD k 0).toNat k
theorem nuL_len (o : List Int) (n : Nat) : ∀ k, (nuL o n k).length = n
  | 0 => by simp [nuL]
  | k + 1 => by simp [nuL, nuL_len o n k]
def nuB (o : List Int) (n k : Nat) : Bool := decide (o.getD k 0 < 0) || (decide ((n : Int) ≤ o.getD k 0) || decide (0 ≤ (nuL o n k).getD (o.getD k 0).toNat 0))
theorem nuL_spec (o : List Int) (n : Nat) : ∀ k, (∀ i, i < k → nuB o n i = false) → (∀ c, c < n → (nuL o n k).getD c 0 = -1 ∨ ∃ i : Nat, i < k ∧ (nuL o n k).getD c 0 = i ∧ (o.getD i 0).toNat = c) ∧ (∀ i, i < k → (nuL o n k).getD (o.getD i 0).toNat 0 = i)
  | 0, _ => ⟨fun c hc => .inl (by simp [nuL, List.getD_eq_getElem?_getD, hc]), fun i hi => by omega⟩
  | k + 1, h => by
    obtain ⟨h1, h2⟩ := nuL_spec o n k fun i hi => h i (by omega)
    have hk := h k (by omega)
    simp only [nuB, Bool.or_eq_false_iff, decide_eq_false_iff_not] at hk
    have hl := nuL_len o n k
    have hnew : (o.getD k 0).toNat < (nuL o n k).length := by omega
    refine ⟨fun c hc => ?_, fun i hi => ?_⟩
    · simp only [nuL]
      rw [getD_set' _ _ _ _ hnew]
      by_cases e : (o.getD k 0).toNat = c
      · rw [if_pos e]; exact .inr ⟨k, by omega, rfl, e⟩
      · rw [if_neg e]
        rcases h1 c hc with h3 | ⟨i, h3, h4, h5⟩
        · exact .inl h3
        · exact .inr ⟨i, by omega, h4, h5⟩
    · simp only [nuL]
      rw [getD_set' _ _ _ _ hnew]
      by_cases e : i = k
      · subst e; rw [if_pos rfl]
      · have h6 := h2 i (by omega)
        rw [if_neg (fun e2 => by rw [e2, h6] at hk; omega), h6]
theorem nu_ord {o : List Int} {n : Nat} (hl : o.length = n) (h : ∀ i, i < n → nuB o n i = false) : Ord n (fun i => (o.getD i 0).toNat) (fun c => ((nuL o n n).getD c 0).toNat) := by
  obtain ⟨h1, h2⟩ := nuL_spec o n n h
  have hb : ∀ i, i < n → (o.getD i 0).toNat < n := fun i hi => by
    have := h i hi
    simp only [nuB, Bool.or_eq_false_iff, decide_eq_false_iff_not] at this
    omega
  have hall : ∀ c, c < n → (nuL o n n).getD c 0 ≠ -1 := fun c hc e => by
    have hn : (((List.range n).map fun i => (o.getD i 0).toNat)).Nodup := nodup_map_on (fun x hx y hy exy => by
      have a := h2 x (List.mem_range.1 hx)
      have b := h2 y (List.mem_range.1 hy)
      rw [exy, b] at a; omega) List.nodup_range
    have hm : c ∉ (List.range n).map fun i => (o.getD i 0).toNat := fun hm => by
      obtain ⟨i, hi, rfl⟩ := List.mem_map.1 hm
      rw [h2 i (List.mem_range.1 hi)] at e; omega
    have := nodup_le_of_subset (l := c :: (List.range n).map fun i => (o.getD i 0).toNat) (k := List.range n) (List.nodup_cons.2 ⟨hm, hn⟩) (fun y hy => by
      rcases List.mem_cons.1 hy with rfl | hy
      · exact List.mem_range.2 hc
      · obtain ⟨i, hi, rfl⟩ := List.mem_map.1 hy
        exact List.mem_range.2 (hb i (List.mem_range.1 hi)))
    simp at this
    omega
  refine ⟨hb, fun c hc => ?_, fun i hi => ?_, fun c hc => ?_⟩
  · rcases h1 c hc with h3 | ⟨i, h3, h4, _⟩
    · exact absurd h3 (hall c hc)
    · omega
  · have := h2 i hi; omega
  · rcases h1 c hc with h3 | ⟨i, h3, h4, h5⟩
    · exact absurd h3 (hall c hc)
    · rw [h4, Int.toNat_natCast, h5]
theorem nu_first (o : List Int) (n : Nat) : ∀ N, (∀ i, i < N → nuB o n i = false) ∨ ∃ k, k < N ∧ nuB o n k = true ∧ ∀ i, i < k → nuB o n i = false
  | 0 => .inl fun i hi => by omega
  | N + 1 => by
    rcases nu_first o n N with h | ⟨k, h1, h2, h3⟩
    · cases hN : nuB o n N with
      | true => exact .inr ⟨N, by omega, hN, h⟩
      | false =>
        refine .inl fun i hi => ?_
        by_cases e : i = N
        · subst e; exact hN
        · exact h i (by omega)
    · exact .inr ⟨k, by omega, h2, h3⟩
abbrev rnH (s m : List Int) (L : Int) (l : List Int) : Hp := [(2, .cells 3 (.ints l)), (1, .cells 24 (.lst [.nils, .nils, I 0])), (0, .cells 24 (.lst [roI s, roI m, I L]))]
abbrev emD : AV := .agg [.nils, .nils, I 0]
theorem fn_RenumberL (s m : List Int) (L : Int) (o : List Int) (hv : validB s m L = true) (hl : o.length ≠ s.length) (ho : o.length ≤ 1000) : Fn Tryz.prog 19 [dgA s m L, roI o] (.tup [emD, I 2]) := by
  have hV := fn_Valid s m L
  rw [hv] at hV
  have b0 : ((o.length : Int) != s.length) = true := by simp [bne]; omega
  refine Fn.introL [.cell 4 24, .tmp 5] Tryz.func19 rfl rfl (by decide) (by simp [Tryz.ntmps19]) ?_; rw [Tryz.ntmps19]
  repeat' (first | omega | ((first | refine awC_sound _ _ _ _ ?_ | skip); simp only [go_sem, Nat.reduceLT, Nat.reduceLeDiff, Nat.reduceEqDiff, Nat.reduceBEq, Nat.reduceBNe, Nat.reduceAdd, Nat.reduceMul, Nat.reduceSub, Nat.reduceDiv, Nat.reduceMod, Int.reduceToNat, Int.reduceAdd, Int.reduceLT, Int.reduceLE, Int.reduceEq, Int.reduceSub, Int.reduceMul, Int.reduceNeg, ↓reduceIte, reduceCtorEq]) | (refine gspDI ?_ ?_ <;> (intro _hh; (try simp only [_hh]); revert _hh)) | refine gspLI ?_ ?_ | refine condLI ?_ ?_ | refine gspI ?_ ?_ | refine And.intro ?_ ?_ | with_reducible intro _hh | trivial | (simp only [cl1, cl2, cl3, List.length_cons, List.length_nil, List.length_append]; omega))
  refine ⟨CallB.fn rfl hV ?_⟩
  repeat' (first | omega | ((first | refine awC_sound _ _ _ _ ?_ | skip); simp only [go_sem, Nat.reduceLT, Nat.reduceLeDiff, Nat.reduceEqDiff, Nat.reduceBEq, Nat.reduceBNe, Nat.reduceAdd, Nat.reduceMul, Nat.reduceSub, Nat.reduceDiv, Nat.reduceMod, Int.reduceToNat, Int.reduceAdd, Int.reduceLT, Int.reduceLE, Int.reduceEq, Int.reduceSub, Int.reduceMul, Int.reduceNeg, ↓reduceIte, reduceCtorEq, b0]) | (refine gspDI ?_ ?_ <;> (intro _hh; (try simp only [_hh]); revert _hh)) | refine gspLI ?_ ?_ | refine condLI ?_ ?_ | refine gspI ?_ ?_ | refine And.intro ?_ ?_ | with_reducible intro _hh | trivial | (simp only [cl1, cl2, cl3, List.length_cons, List.length_nil, List.length_append]; omega))
  all_goals exact LeA.refl _
theorem fn_RenumberB (s m : List Int) (L : Int) (o : List Int) (hv : validB s m L = true) (hl : o.length = s.length) (K0 : Nat) (hK0 : K0 < s.length) (hb : nuB o s.length K0 = true) (hK : ∀ i, i < K0 → nuB o s.length i = false) :
    Fn Tryz.prog 19 [dgA s m L, roI o] (.tup [emD, I 2]) := by
  have hV := fn_Valid s m L
  rw [hv] at hV
  have v1 := valid1 hv
  have h64 := v1.s64
  have b0 : ((o.length : Int) != s.length) = false := by rw [hl]; simp
  refine Fn.introL [.cell 4 24, .tmp 5] Tryz.func19 rfl rfl (by decide) (by simp [Tryz.ntmps19]) ?_; rw [Tryz.ntmps19]
  repeat' (first | omega | ((first | refine awC_sound _ _ _ _ ?_ | skip); simp only [go_sem, Nat.reduceLT, Nat.reduceLeDiff, Nat.reduceEqDiff, Nat.reduceBEq, Nat.reduceBNe, Nat.reduceAdd, Nat.reduceMul, Nat.reduceSub, Nat.reduceDiv, Nat.reduceMod, Int.reduceToNat, Int.reduceAdd, Int.reduceLT, Int.reduceLE, Int.reduceEq, Int.reduceSub, Int.reduceMul, Int.reduceNeg, ↓reduceIte, reduceCtorEq]) | (refine gspDI ?_ ?_ <;> (intro _hh; (try simp only [_hh]); revert _hh)) | refine gspLI ?_ ?_ | refine condLI ?_ ?_ | refine gspI ?_ ?_ | refine And.intro ?_ ?_ | with_reducible intro _hh | trivial | (simp only [cl1, cl2, cl3, List.length_cons, List.length_nil, List.length_append]; omega))
  refine ⟨CallB.fn rfl hV ?_⟩
  repeat' (first | omega | ((first | refine awC_sound _ _ _ _ ?_ | skip); simp only [go_sem, Nat.reduceLT, Nat.reduceLeDiff, Nat.reduceEqDiff, Nat.reduceBEq, Nat.reduceBNe, Nat.reduceAdd, Nat.reduceMul, Nat.reduceSub, Nat.reduceDiv, Nat.reduceMod, Int.reduceToNat, Int.reduceAdd, Int.reduceLT, Int.reduceLE, Int.reduceEq, Int.reduceSub, Int.reduceMul, Int.reduceNeg, ↓reduceIte, reduceCtorEq, b0]) | (refine gspDI ?_ ?_ <;> (intro _hh; (try simp only [_hh]); revert _hh)) | refine gspLI ?_ ?_ | refine condLI ?_ ?_ | refine gspI ?_ ?_ | refine And.intro ?_ ?_ | with_reducible intro _hh | trivial | (simp only [cl1, cl2, cl3, List.length_cons, List.length_nil, List.length_append]; omega))
  refine LoopA.intro (fun n fr H => ∃ k : Nat, k ≤ s.length ∧ n = s.length - k ∧ fr = [(32, I k), (31, I s.length), (30, .sl 1 2 0 s.length), (7, .sl 1 2 0 s.length), (6, I s.length), (5, I 0), (4, .ptr 1 0), (2, .ptr 0 0), (1, roI o)] ∧ H = rnH s m L (tabK (fun _ => -1) s.length k)) ?_ ?_
  · refine ⟨_, _, _, ?_, 0, by omega, rfl, rfl, rfl⟩
    rw [tabK_0]
    refine Wk.sub ?_ ?_ <;> simp only [go_sem, Nat.reduceLT, Nat.reduceLeDiff, Nat.reduceEqDiff, Nat.reduceBEq, Nat.reduceBNe, Nat.reduceAdd, Nat.reduceMul, Nat.reduceSub, Nat.reduceDiv, Nat.reduceMod, Int.reduceToNat, Int.reduceAdd, Int.reduceLT, Int.reduceLE, Int.reduceEq, Int.reduceSub, Int.reduceMul, Int.reduceNeg, ↓reduceIte, reduceCtorEq]
  rintro n fr H ⟨k, hk, rfl, rfl, rfl⟩
  have kl := tabK_len (fun _ => -1) s.length k
  by_cases hks : k < s.length
  · have st := tabK_set (fun _ => -1) s.length k hks
    repeat' (first | omega | ((first | refine awC_sound _ _ _ _ ?_ | skip); simp only [go_sem, Nat.reduceLT, Nat.reduceLeDiff, Nat.reduceEqDiff, Nat.reduceBEq, Nat.reduceBNe, Nat.reduceAdd, Nat.reduceMul, Nat.reduceSub, Nat.reduceDiv, Nat.reduceMod, Int.reduceToNat, Int.reduceAdd, Int.reduceLT, Int.reduceLE, Int.reduceEq, Int.reduceSub, Int.reduceMul, Int.reduceNeg, ↓reduceIte, reduceCtorEq, kl, Int.toNat_natCast, st]) | (refine gspDI ?_ ?_ <;> (intro _hh; (try simp only [_hh]); revert _hh)) | refine gspLI ?_ ?_ | refine condLI ?_ ?_ | refine gspI ?_ ?_ | refine And.intro ?_ ?_ | with_reducible intro _hh | trivial | (simp only [cl1, cl2, cl3, List.length_cons, List.length_nil, List.length_append]; omega))
    refine ⟨_, _, _, ?_, ?_, ⟨k + 1, by omega, rfl, rfl, rfl⟩⟩
    · omega
    · refine Wk.sub ?_ ?_ <;> simp only [go_sem, Nat.reduceLT, Nat.reduceLeDiff, Nat.reduceEqDiff, Nat.reduceBEq, Nat.reduceBNe, Nat.reduceAdd, Nat.reduceMul, Nat.reduceSub, Nat.reduceDiv, Nat.reduceMod, Int.reduceToNat, Int.reduceAdd, Int.reduceLT, Int.reduceLE, Int.reduceEq, Int.reduceSub, Int.reduceMul, Int.reduceNeg, ↓reduceIte, reduceCtorEq]
  obtain rfl : k = s.length := by omega
  rw [tabK_full, show (List.range s.length).map (fun _ => (-1 : Int)) = nuL o s.length 0 from rfl]
  clear kl hk hks
  have nl0 := nuL_len o s.length 0
  repeat' (first | omega | ((first | refine awC_sound _ _ _ _ ?_ | skip); simp only [go_sem, Nat.reduceLT, Nat.reduceLeDiff, Nat.reduceEqDiff, Nat.reduceBEq, Nat.reduceBNe, Nat.reduceAdd, Nat.reduceMul, Nat.reduceSub, Nat.reduceDiv, Nat.reduceMod, Int.reduceToNat, Int.reduceAdd, Int.reduceLT, Int.reduceLE, Int.reduceEq, Int.reduceSub, Int.reduceMul, Int.reduceNeg, ↓reduceIte, reduceCtorEq, nl0]) | (refine gspDI ?_ ?_ <;> (intro _hh; (try simp only [_hh]); revert _hh)) | refine gspLI ?_ ?_ | refine condLI ?_ ?_ | refine gspI ?_ ?_ | refine And.intro ?_ ?_ | with_reducible intro _hh | trivial | (simp only [cl1, cl2, cl3, List.length_cons, List.length_nil, List.length_append]; omega))
  refine LoopA.intro (fun n fr H => ∃ k : Nat, k ≤ K0 ∧ n = o.length - k ∧ fr = [(41, I k), (40, I o.length), (39, roI o), (7, .sl 1 2 0 s.length), (6, I s.length), (5, I 0), (4, .ptr 1 0), (2, .ptr 0 0), (1, roI o)] ∧ H = rnH s m L (nuL o s.length k)) ?_ ?_
  · refine ⟨_, _, _, ?_, 0, by omega, rfl, rfl, rfl⟩
    refine Wk.sub ?_ ?_ <;> simp only [go_sem, Nat.reduceLT, Nat.reduceLeDiff, Nat.reduceEqDiff, Nat.reduceBEq, Nat.reduceBNe, Nat.reduceAdd, Nat.reduceMul, Nat.reduceSub, Nat.reduceDiv, Nat.reduceMod, Int.reduceToNat, Int.reduceAdd, Int.reduceLT, Int.reduceLE, Int.reduceEq, Int.reduceSub, Int.reduceMul, Int.reduceNeg, ↓reduceIte, reduceCtorEq]
  rintro n fr H ⟨k, hk, rfl, rfl, rfl⟩
  have nl := nuL_len o s.length k
  by_cases hk0 : k < K0
  · have hok := hK k hk0
    simp only [nuB, Bool.or_eq_false_iff] at hok
    obtain ⟨c1, c2, c3⟩ := hok
    have d1 := of_decide_eq_false c1
    have d2 := of_decide_eq_false c2
    have d3 := of_decide_eq_false c3
    have st : (nuL o s.length k).set (o.getD k 0).toNat k = nuL o s.length (k + 1) := rfl
    repeat' (first | omega | ((first | refine awC_sound _ _ _ _ ?_ | skip); simp only [go_sem, Nat.reduceLT, Nat.reduceLeDiff, Nat.reduceEqDiff, Nat.reduceBEq, Nat.reduceBNe, Nat.reduceAdd, Nat.reduceMul, Nat.reduceSub, Nat.reduceDiv, Nat.reduceMod, Int.reduceToNat, Int.reduceAdd, Int.reduceLT, Int.reduceLE, Int.reduceEq, Int.reduceSub, Int.reduceMul, Int.reduceNeg, ↓reduceIte, reduceCtorEq, c1, c2, c3, nl, Int.toNat_natCast, st]) | (refine gspDI ?_ ?_ <;> (intro _hh; (try simp only [_hh]); revert _hh)) | refine gspLI ?_ ?_ | refine condLI ?_ ?_ | refine gspI ?_ ?_ | refine And.intro ?_ ?_ | with_reducible intro _hh | trivial | (simp only [cl1, cl2, cl3, List.length_cons, List.length_nil, List.length_append]; omega))
    refine ⟨_, _, _, ?_, ?_, ⟨k + 1, by omega, rfl, rfl, rfl⟩⟩
    · omega
    · refine Wk.sub ?_ ?_ <;> simp only [go_sem, Nat.reduceLT, Nat.reduceLeDiff, Nat.reduceEqDiff, Nat.reduceBEq, Nat.reduceBNe, Nat.reduceAdd, Nat.reduceMul, Nat.reduceSub, Nat.reduceDiv, Nat.reduceMod, Int.reduceToNat, Int.reduceAdd, Int.reduceLT, Int.reduceLE, Int.reduceEq, Int.reduceSub, Int.reduceMul, Int.reduceNeg, ↓reduceIte, reduceCtorEq]
  obtain rfl : k = K0 := by omega
  simp only [nuB] at hb
  cases c1 : decide (o.getD k 0 < 0) with
  | true =>
    repeat' (first | omega | ((first | refine awC_sound _ _ _ _ ?_ | skip); simp only [go_sem, Nat.reduceLT, Nat.reduceLeDiff, Nat.reduceEqDiff, Nat.reduceBEq, Nat.reduceBNe, Nat.reduceAdd, Nat.reduceMul, Nat.reduceSub, Nat.reduceDiv, Nat.reduceMod, Int.reduceToNat, Int.reduceAdd, Int.reduceLT, Int.reduceLE, Int.reduceEq, Int.reduceSub, Int.reduceMul, Int.reduceNeg, ↓reduceIte, reduceCtorEq, c1, nl, Int.toNat_natCast]) | (refine gspDI ?_ ?_ <;> (intro _hh; (try simp only [_hh]); revert _hh)) | refine gspLI ?_ ?_ | refine condLI ?_ ?_ | refine gspI ?_ ?_ | refine And.intro ?_ ?_ | with_reducible intro _hh | trivial | (simp only [cl1, cl2, cl3, List.length_cons, List.length_nil, List.length_append]; omega))
    all_goals exact LeA.refl _
  | false =>
    have d1 := of_decide_eq_false c1
    cases c2 : decide ((s.length : Int) ≤ o.getD k 0) with
    | true =>
      repeat' (first | omega | ((first | refine awC_sound _ _ _ _ ?_ | skip); simp only [go_sem, Nat.reduceLT, Nat.reduceLeDiff, Nat.reduceEqDiff, Nat.reduceBEq, Nat.reduceBNe, Nat.reduceAdd, Nat.reduceMul, Nat.reduceSub, Nat.reduceDiv, Nat.reduceMod, Int.reduceToNat, Int.reduceAdd, Int.reduceLT, Int.reduceLE, Int.reduceEq, Int.reduceSub, Int.reduceMul, Int.reduceNeg, ↓reduceIte, reduceCtorEq, c1, c2, nl, Int.toNat_natCast]) | (refine gspDI ?_ ?_ <;> (intro _hh; (try simp only [_hh]); revert _hh)) | refine gspLI ?_ ?_ | refine condLI ?_ ?_ | refine gspI ?_ ?_ | refine And.intro ?_ ?_ | with_reducible intro _hh | trivial | (simp only [cl1, cl2, cl3, List.length_cons, List.length_nil, List.length_append]; omega))
      all_goals exact LeA.refl _
    | false =>
      have d2 := of_decide_eq_false c2
      rw [c1, c2, Bool.false_or, Bool.false_or] at hb
      repeat' (first | omega | ((first | refine awC_sound _ _ _ _ ?_ | skip); simp only [go_sem, Nat.reduceLT, Nat.reduceLeDiff, Nat.reduceEqDiff, Nat.reduceBEq, Nat.reduceBNe, Nat.reduceAdd, Nat.reduceMul, Nat.reduceSub, Nat.reduceDiv, Nat.reduceMod, Int.reduceToNat, Int.reduceAdd, Int.reduceLT, Int.reduceLE, Int.reduceEq, Int.reduceSub, Int.reduceMul, Int.reduceNeg, ↓reduceIte, reduceCtorEq, c1, c2, hb, nl, Int.toNat_natCast]) | (refine gspDI ?_ ?_ <;> (intro _hh; (try simp only [_hh]); revert _hh)) | refine gspLI ?_ ?_ | refine condLI ?_ ?_ | refine gspI ?_ ?_ | refine And.intro ?_ ?_ | with_reducible intro _hh | trivial | (simp only [cl1, cl2, cl3, List.length_cons, List.length_nil, List.length_append]; omega))
      all_goals exact LeA.refl _
theorem fn_Renumber (s m : List Int) (L : Int) (o : List Int) (hv : validB s m L = true) (hl : o.length = s.length) (hK1 : ∀ i, i < s.length → nuB o s.length i = false) :
    Fn Tryz.prog 19 [dgA s m L, roI o] (.tup [dgA (rnS s (fun i => (o.getD i 0).toNat) s.length) (rnM m (fun i => (o.getD i 0).toNat) (fun c => ((nuL o s.length s.length).getD c 0).toNat) s.length) L, I 0]) := by
  have hV := fn_Valid s m L
  rw [hv] at hV
  have v1 := valid1 hv
  have h64 := v1.s64
  have b0 : ((o.length : Int) != s.length) = false := by rw [hl]; simp
  obtain ⟨K0, hK0⟩ : ∃ K0, K0 = s.length := ⟨_, rfl⟩
  have hK : ∀ i, i < K0 → nuB o s.length i = false := fun i hi => hK1 i (by omega)
  refine Fn.introL [.cell 4 24, .tmp 5] Tryz.func19 rfl rfl (by decide) (by simp [Tryz.ntmps19]) ?_; rw [Tryz.ntmps19]
  repeat' (first | omega | ((first | refine awC_sound _ _ _ _ ?_ | skip); simp only [go_sem, Nat.reduceLT, Nat.reduceLeDiff, Nat.reduceEqDiff, Nat.reduceBEq, Nat.reduceBNe, Nat.reduceAdd, Nat.reduceMul, Nat.reduceSub, Nat.reduceDiv, Nat.reduceMod, Int.reduceToNat, Int.reduceAdd, Int.reduceLT, Int.reduceLE, Int.reduceEq, Int.reduceSub, Int.reduceMul, Int.reduceNeg, ↓reduceIte, reduceCtorEq]) | (refine gspDI ?_ ?_ <;> (intro _hh; (try simp only [_hh]); revert _hh)) | refine gspLI ?_ ?_ | refine condLI ?_ ?_ | refine gspI ?_ ?_ | refine And.intro ?_ ?_ | with_reducible intro _hh | trivial | (simp only [cl1, cl2, cl3, List.length_cons, List.length_nil, List.length_append]; omega))
  refine ⟨CallB.fn rfl hV ?_⟩
  repeat' (first | omega | ((first | refine awC_sound _ _ _ _ ?_ | skip); simp only [go_sem, Nat.reduceLT, Nat.reduceLeDiff, Nat.reduceEqDiff, Nat.reduceBEq, Nat.reduceBNe, Nat.reduceAdd, Nat.reduceMul, Nat.reduceSub, Nat.reduceDiv, Nat.reduceMod, Int.reduceToNat, Int.reduceAdd, Int.reduceLT, Int.reduceLE, Int.reduceEq, Int.reduceSub, Int.reduceMul, Int.reduceNeg, ↓reduceIte, reduceCtorEq, b0]) | (refine gspDI ?_ ?_ <;> (intro _hh; (try simp only [_hh]); revert _hh)) | refine gspLI ?_ ?_ | refine condLI ?_ ?_ | refine gspI ?_ ?_ | refine And.intro ?_ ?_ | with_reducible intro _hh | trivial | (simp only [cl1, cl2, cl3, List.length_cons, List.length_nil, List.length_append]; omega))
  refine LoopA.intro (fun n fr H => ∃ k : Nat, k ≤ s.length ∧ n = s.length - k ∧ fr = [(32, I k), (31, I s.length), (30, .sl 1 2 0 s.length), (7, .sl 1 2 0 s.length), (6, I s.length), (5, I 0), (4, .ptr 1 0), (2, .ptr 0 0), (1, roI o)] ∧ H = rnH s m L (tabK (fun _ => -1) s.length k)) ?_ ?_
  · refine ⟨_, _, _, ?_, 0, by omega, rfl, rfl, rfl⟩
    rw [tabK_0]
    refine Wk.sub ?_ ?_ <;> simp only [go_sem, Nat.reduceLT, Nat.reduceLeDiff, Nat.reduceEqDiff, Nat.reduceBEq, Nat.reduceBNe, Nat.reduceAdd, Nat.reduceMul, Nat.reduceSub, Nat.reduceDiv, Nat.reduceMod, Int.reduceToNat, Int.reduceAdd, Int.reduceLT, Int.reduceLE, Int.reduceEq, Int.reduceSub, Int.reduceMul, Int.reduceNeg, ↓reduceIte, reduceCtorEq]
  rintro n fr H ⟨k, hk, rfl, rfl, rfl⟩
  have kl := tabK_len (fun _ => -1) s.length k
  by_cases hks : k < s.length
  · have st := tabK_set (fun _ => -1) s.length k hks
    repeat' (first | omega | ((first | refine awC_sound _ _ _ _ ?_ | skip); simp only [go_sem, Nat.reduceLT, Nat.reduceLeDiff, Nat.reduceEqDiff, Nat.reduceBEq, Nat.reduceBNe, Nat.reduceAdd, Nat.reduceMul, Nat.reduceSub, Nat.reduceDiv, Nat.reduceMod, Int.reduceToNat, Int.reduceAdd, Int.reduceLT, Int.reduceLE, Int.reduceEq, Int.reduceSub, Int.reduceMul, Int.reduceNeg, ↓reduceIte, reduceCtorEq, kl, Int.toNat_natCast, st]) | (refine gspDI ?_ ?_ <;> (intro _hh; (try simp only [_hh]); revert _hh)) | refine gspLI ?_ ?_ | refine condLI ?_ ?_ | refine gspI ?_ ?_ | refine And.intro ?_ ?_ | with_reducible intro _hh | trivial | (simp only [cl1, cl2, cl3, List.length_cons, List.length_nil, List.length_append]; omega))
    refine ⟨_, _, _, ?_, ?_, ⟨k + 1, by omega, rfl, rfl, rfl⟩⟩
    · omega
    · refine Wk.sub ?_ ?_ <;> simp only [go_sem, Nat.reduceLT, Nat.reduceLeDiff, Nat.reduceEqDiff, Nat.reduceBEq, Nat.reduceBNe, Nat.reduceAdd, Nat.reduceMul, Nat.reduceSub, Nat.reduceDiv, Nat.reduceMod, Int.reduceToNat, Int.reduceAdd, Int.reduceLT, Int.reduceLE, Int.reduceEq, Int.reduceSub, Int.reduceMul, Int.reduceNeg, ↓reduceIte, reduceCtorEq]
  obtain rfl : k = s.length := by omega
  rw [tabK_full, show (List.range s.length).map (fun _ => (-1 : Int)) = nuL o s.length 0 from rfl]
  clear kl hk hks
  have nl0 := nuL_len o s.length 0
  repeat' (first | omega | ((first | refine awC_sound _ _ _ _ ?_ | skip); simp only [go_sem, Nat.reduceLT, Nat.reduceLeDiff, Nat.reduceEqDiff, Nat.reduceBEq, Nat.reduceBNe, Nat.reduceAdd, Nat.reduceMul, Nat.reduceSub, Nat.reduceDiv, Nat.reduceMod, Int.reduceToNat, Int.reduceAdd, Int.reduceLT, Int.reduceLE, Int.reduceEq, Int.reduceSub, Int.reduceMul, Int.reduceNeg, ↓reduceIte, reduceCtorEq, nl0]) | (refine gspDI ?_ ?_ <;> (intro _hh; (try simp only [_hh]); revert _hh)) | refine gspLI ?_ ?_ | refine condLI ?_ ?_ | refine gspI ?_ ?_ | refine And.intro ?_ ?_ | with_reducible intro _hh | trivial | (simp only [cl1, cl2, cl3, List.length_cons, List.length_nil, List.length_append]; omega))
  refine LoopA.intro (fun n fr H => ∃ k : Nat, k ≤ K0 ∧ n = o.length - k ∧ fr = [(41, I k), (40, I o.length), (39, roI o), (7, .sl 1 2 0 s.length), (6, I s.length), (5, I 0), (4, .ptr 1 0), (2, .ptr 0 0), (1, roI o)] ∧ H = rnH s m L (nuL o s.length k)) ?_ ?_
  · refine ⟨_, _, _, ?_, 0, by omega, rfl, rfl, rfl⟩
    refine Wk.sub ?_ ?_ <;> simp only [go_sem, Nat.reduceLT, Nat.reduceLeDiff, Nat.reduceEqDiff, Nat.reduceBEq, Nat.reduceBNe, Nat.reduceAdd, Nat.reduceMul, Nat.reduceSub, Nat.reduceDiv, Nat.reduceMod, Int.reduceToNat, Int.reduceAdd, Int.reduceLT, Int.reduceLE, Int.reduceEq, Int.reduceSub, Int.reduceMul, Int.reduceNeg, ↓reduceIte, reduceCtorEq]
  rintro n fr H ⟨k, hk, rfl, rfl, rfl⟩
  have nl := nuL_len o s.length k
  by_cases hk0 : k < K0
  · have hok := hK k hk0
    simp only [nuB, Bool.or_eq_false_iff] at hok
    obtain ⟨c1, c2, c3⟩ := hok
    have d1 := of_decide_eq_false c1
    have d2 := of_decide_eq_false c2
    have d3 := of_decide_eq_false c3
    have st : (nuL o s.length k).set (o.getD k 0).toNat k = nuL o s.length (k + 1) := rfl
    repeat' (first | omega | ((first | refine awC_sound _ _ _ _ ?_ | skip); simp only [go_sem, Nat.reduceLT, Nat.reduceLeDiff, Nat.reduceEqDiff, Nat.reduceBEq, Nat.reduceBNe, Nat.reduceAdd, Nat.reduceMul, Nat.reduceSub, Nat.reduceDiv, Nat.reduceMod, Int.reduceToNat, Int.reduceAdd, Int.reduceLT, Int.reduceLE, Int.reduceEq, Int.reduceSub, Int.reduceMul, Int.reduceNeg, ↓reduceIte, reduceCtorEq, c1, c2, c3, nl, Int.toNat_natCast, st]) | (refine gspDI ?_ ?_ <;> (intro _hh; (try simp only [_hh]); revert _hh)) | refine gspLI ?_ ?_ | refine condLI ?_ ?_ | refine gspI ?_ ?_ | refine And.intro ?_ ?_ | with_reducible intro _hh | trivial | (simp only [cl1, cl2, cl3, List.length_cons, List.length_nil, List.length_append]; omega))
    refine ⟨_, _, _, ?_, ?_, ⟨k + 1, by omega, rfl, rfl, rfl⟩⟩
    · omega
    · refine Wk.sub ?_ ?_ <;> simp only [go_sem, Nat.reduceLT, Nat.reduceLeDiff, Nat.reduceEqDiff, Nat.reduceBEq, Nat.reduceBNe, Nat.reduceAdd, Nat.reduceMul, Nat.reduceSub, Nat.reduceDiv, Nat.reduceMod, Int.reduceToNat, Int.reduceAdd, Int.reduceLT, Int.reduceLE, Int.reduceEq, Int.reduceSub, Int.reduceMul, Int.reduceNeg, ↓reduceIte, reduceCtorEq]
  obtain rfl : k = K0 := by omega
  subst hK0
  have e4 : (4 * (s.length : Int)).toNat = 4 * s.length := by omega
  have hor := nu_ord hl hK1
  obtain ⟨hn1, hn2⟩ := nuL_spec o s.length s.length hK1
  have ob : ∀ i, i < s.length → 0 ≤ o.getD i 0 ∧ o.getD i 0 < s.length := fun i hi => by
    have := hK1 i hi
    simp only [nuB, Bool.or_eq_false_iff, decide_eq_false_iff_not] at this
    omega
  have nb : ∀ c, c < s.length → 0 ≤ (nuL o s.length s.length).getD c 0 ∧ (nuL o s.length s.length).getD c 0 < s.length := fun c hc => by
    have h1 := hor.on c hc
    have h2 := hn2 _ (hor.nl c hc)
    try dsimp only at h1
    rw [h1] at h2
    have h3 := hor.nl c hc
    try dsimp only at h3
    omega
  have hml := v1.len
  obtain ⟨fs, hfs⟩ : ∃ fs : Nat → Int, (fun i => s.getD (o.getD i 0).toNat 0) = fs := ⟨_, rfl⟩
  obtain ⟨fm, hfm⟩ : ∃ fm : Nat → Int, (fun y => (rnF (fun c => ((nuL o s.length s.length).getD c 0).toNat) (m.getD (rnF (fun i => (o.getD i 0).toNat) y) 0).toNat : Int)) = fm := ⟨_, rfl⟩
  have es : rnS s (fun i => (o.getD i 0).toNat) s.length = tabK fs s.length s.length := by rw [tabK_full, ← hfs]; rfl
  have em : rnM m (fun i => (o.getD i 0).toNat) (fun c => ((nuL o s.length s.length).getD c 0).toNat) s.length = tabK fm (4 * s.length) (4 * s.length) := by rw [tabK_full, ← hfm]; rfl
  rw [es, em]
  have fsg : ∀ i, fs i = s.getD (o.getD i 0).toNat 0 := fun i => by rw [← hfs]
  have fmg : ∀ i x, i < s.length → x < 4 → fm (4 * i + x) = 4 * (nuL o s.length s.length).getD ((m.getD (4 * (o.getD i 0).toNat + x) 0).toNat / 4) 0 + (m.getD (4 * (o.getD i 0).toNat + x) 0) % 4 := fun i x hi hx => by
    have b1 := ob i hi
    have b2 := v1.prd.ok.2 (4 * (o.getD i 0).toNat + x) (by omega)
    have b3 := nb ((m.getD (4 * (o.getD i 0).toNat + x) 0).toNat / 4) (by omega)
    rw [← hfm]
    unfold rnF
    dsimp only
    rw [show (4 * i + x) / 4 = i by omega, show (4 * i + x) % 4 = x by omega]
    omega
  clear hfs hfm es em
  repeat' (first | omega | ((first | refine awC_sound _ _ _ _ ?_ | (refine DrawA.intro (id := 19) [[68,69,70,71,72,11],[68,69,70,71,72,11],[66,67,71,72,11],[66,67,71,72,11],[66,67,71,72,11],[66,67,68,69,70,11],[66,67,68,69,70,11],[11],[66,67,68,69,70,71,72,73],[]] [[],[],[0,1],[0,1],[0,1],[0,1,2,3,4],[0,1,2,3,4],[],[0,1,2,3,4,5,6,7],[]] (by decide +kernel) mixed ?_) | (refine DrawA.intro (id := 23) [[83,84,85,86,87,88],[83,84,85,86,87,88],[81,82,84,85,86,87,88],[81,82,83,86],[81,82,83,86],[81,82,83,84,85],[81,82,83],[81,82,83],[],[]] [[],[],[0,1],[0,1,2],[0,1,2],[0,1,2,3,4],[0,1,2],[0,1,2],[],[]] (by decide +kernel) mixed ?_) | (refine DrawA.intro (id := 28) [[103,104,105,106,107,108,109,110,111,112,113,114,115],[103,104,105,106,107,108,109,110,111,112,113,114,115],[101,102,105,107,108,109,110,111,112,113,114,115],[101,102,105,107,108,109,110,111,112,113,114,115],[101,102,103,104,107,108,109,110,111,112,113,114,115],[101,102,107,108,109,110,111,112,113,114,115],[101,102,103,104,105,106,108,109,113,114],[101,102,103,104,105,106,107,113,114],[101,102,103,104,105,106,107,113,114],[101,102,103,104,105,106,113,114],[101,102,103,104,105,106,113,114],[101,102,103,104,105,106,113,114],[101,102,103,104,105,106,107,108,109,110,111,112],[101,102,103,104,105,106,107,108,109,110,111,112],[101,102,103,104,105,106],[],[]] [[],[],[0,1],[0,1],[0,1,2,3],[0,1],[0,1,2,3,4,5],[0,1,2,3,4,5,6],[0,1,2,3,4,5,6],[0,1,2,3,4,5],[0,1,2,3,4,5],[0,1,2,3,4,5],[0,1,2,3,4,5,6,7,8,9,10,11],[0,1,2,3,4,5,6,7,8,9,10,11],[0,1,2,3,4,5],[],[]] (by decide +kernel) mixed ?_) | skip); simp only [go_sem, Nat.reduceLT, Nat.reduceLeDiff, Nat.reduceEqDiff, Nat.reduceBEq, Nat.reduceBNe, Nat.reduceAdd, Nat.reduceMul, Nat.reduceSub, Nat.reduceDiv, Nat.reduceMod, Int.reduceToNat, Int.reduceAdd, Int.reduceLT, Int.reduceLE, Int.reduceEq, Int.reduceSub, Int.reduceMul, Int.reduceNeg, ↓reduceIte, reduceCtorEq, nl, Int.toNat_natCast, e4]) | (refine gspDI ?_ ?_ <;> (intro _hh; (try simp only [_hh]); revert _hh)) | refine gspLI ?_ ?_ | refine condLI ?_ ?_ | refine gspI ?_ ?_ | refine And.intro ?_ ?_ | with_reducible intro _hh | trivial | (simp only [cl1, cl2, cl3, List.length_cons, List.length_nil, List.length_append]; omega))
  generalize hNU : nuL o s.length s.length = NU at *
  refine LoopA.intro (fun n fr H => ∃ i : Nat, i ≤ s.length ∧ n = s.length - i ∧ fr = [(76, I i), (75, I s.length), (74, roI o), (11, .ptr 11 0), (7, .sl 1 2 0 s.length), (6, I s.length), (5, I 0), (4, .ptr 1 0), (2, .ptr 0 0), (1, roI o)] ∧
    H = (11, .cells 24 (.lst [.sl 1 4 0 s.length, .sl 1 7 0 (4 * s.length), I L])) :: (7, .cells 3 (.ints (tabK fm (4 * s.length) (4 * i)))) :: (4, .cells 3 (.ints (tabK fs s.length i))) :: rnH s m L NU) ?_ ?_
  · refine ⟨_, _, _, ?_, 0, by omega, rfl, rfl, rfl⟩
    rw [Nat.mul_zero, tabK_0, tabK_0]
    refine Wk.sub ?_ ?_ <;> (simp only [go_sem, Nat.reduceLT, Nat.reduceLeDiff, Nat.reduceEqDiff, Nat.reduceBEq, Nat.reduceBNe, Nat.reduceAdd, Nat.reduceMul, Nat.reduceSub, Nat.reduceDiv, Nat.reduceMod, Int.reduceToNat, Int.reduceAdd, Int.reduceLT, Int.reduceLE, Int.reduceEq, Int.reduceSub, Int.reduceMul, Int.reduceNeg, ↓reduceIte, reduceCtorEq, hl])
  rintro n fr H ⟨i, hi, rfl, rfl, rfl⟩
  have sl := tabK_len fs s.length i
  by_cases his : i < s.length
  · have b1 := ob i his
    have st := tabK_set fs s.length i his
    rw [fsg] at st
    repeat' (first | omega | ((first | refine awC_sound _ _ _ _ ?_ | (refine DrawA.intro (id := 19) [[68,69,70,71,72,11],[68,69,70,71,72,11],[66,67,71,72,11],[66,67,71,72,11],[66,67,71,72,11],[66,67,68,69,70,11],[66,67,68,69,70,11],[11],[66,67,68,69,70,71,72,73],[]] [[],[],[0,1],[0,1],[0,1],[0,1,2,3,4],[0,1,2,3,4],[],[0,1,2,3,4,5,6,7],[]] (by decide +kernel) mixed ?_) | (refine DrawA.intro (id := 23) [[83,84,85,86,87,88],[83,84,85,86,87,88],[81,82,84,85,86,87,88],[81,82,83,86],[81,82,83,86],[81,82,83,84,85],[81,82,83],[81,82,83],[],[]] [[],[],[0,1],[0,1,2],[0,1,2],[0,1,2,3,4],[0,1,2],[0,1,2],[],[]] (by decide +kernel) mixed ?_) | (refine DrawA.intro (id := 28) [[103,104,105,106,107,108,109,110,111,112,113,114,115],[103,104,105,106,107,108,109,110,111,112,113,114,115],[101,102,105,107,108,109,110,111,112,113,114,115],[101,102,105,107,108,109,110,111,112,113,114,115],[101,102,103,104,107,108,109,110,111,112,113,114,115],[101,102,107,108,109,110,111,112,113,114,115],[101,102,103,104,105,106,108,109,113,114],[101,102,103,104,105,106,107,113,114],[101,102,103,104,105,106,107,113,114],[101,102,103,104,105,106,113,114],[101,102,103,104,105,106,113,114],[101,102,103,104,105,106,113,114],[101,102,103,104,105,106,107,108,109,110,111,112],[101,102,103,104,105,106,107,108,109,110,111,112],[101,102,103,104,105,106],[],[]] [[],[],[0,1],[0,1],[0,1,2,3],[0,1],[0,1,2,3,4,5],[0,1,2,3,4,5,6],[0,1,2,3,4,5,6],[0,1,2,3,4,5],[0,1,2,3,4,5],[0,1,2,3,4,5],[0,1,2,3,4,5,6,7,8,9,10,11],[0,1,2,3,4,5,6,7,8,9,10,11],[0,1,2,3,4,5],[],[]] (by decide +kernel) mixed ?_) | skip); simp only [go_sem, Nat.reduceLT, Nat.reduceLeDiff, Nat.reduceEqDiff, Nat.reduceBEq, Nat.reduceBNe, Nat.reduceAdd, Nat.reduceMul, Nat.reduceSub, Nat.reduceDiv, Nat.reduceMod, Int.reduceToNat, Int.reduceAdd, Int.reduceLT, Int.reduceLE, Int.reduceEq, Int.reduceSub, Int.reduceMul, Int.reduceNeg, ↓reduceIte, reduceCtorEq, sl, Int.toNat_natCast, st]) | (refine gspDI ?_ ?_ <;> (intro _hh; (try simp only [_hh]); revert _hh)) | refine gspLI ?_ ?_ | refine condLI ?_ ?_ | refine gspI ?_ ?_ | refine And.intro ?_ ?_ | with_reducible intro _hh | trivial | (simp only [cl1, cl2, cl3, List.length_cons, List.length_nil, List.length_append]; omega))
    refine LoopA.intro (fun n fr H => ∃ x : Nat, x ≤ 4 ∧ n = 4 - x ∧ fr = [(90, I x), (13, I (o.getD i 0)), (12, I i), (76, I i), (75, I s.length), (74, roI o), (11, .ptr 11 0), (7, .sl 1 2 0 s.length), (6, I s.length), (5, I 0), (4, .ptr 1 0), (2, .ptr 0 0), (1, roI o)] ∧
      H = (11, .cells 24 (.lst [.sl 1 4 0 s.length, .sl 1 7 0 (4 * s.length), I L])) :: (7, .cells 3 (.ints (tabK fm (4 * s.length) (4 * i + x)))) :: (4, .cells 3 (.ints (tabK fs s.length (i + 1)))) :: rnH s m L NU) ?_ ?_
    · refine ⟨_, _, _, ?_, 0, by omega, rfl, rfl, rfl⟩
      refine Wk.sub ?_ ?_ <;> simp only [go_sem, Nat.reduceLT, Nat.reduceLeDiff, Nat.reduceEqDiff, Nat.reduceBEq, Nat.reduceBNe, Nat.reduceAdd, Nat.reduceMul, Nat.reduceSub, Nat.reduceDiv, Nat.reduceMod, Int.reduceToNat, Int.reduceAdd, Int.reduceLT, Int.reduceLE, Int.reduceEq, Int.reduceSub, Int.reduceMul, Int.reduceNeg, ↓reduceIte, reduceCtorEq]
    rintro n fr H ⟨x, hx, rfl, rfl, rfl⟩
    have ml := tabK_len fm (4 * s.length) (4 * i + x)
    by_cases hx4 : x < 4
    · have b2 := v1.prd.ok.2 (4 * (o.getD i 0).toNat + x) (by omega)
      have b3 := nb ((m.getD (4 * (o.getD i 0).toNat + x) 0).toNat / 4) (by omega)
      have st2 := tabK_set fm (4 * s.length) (4 * i + x) (by omega)
      rw [fmg i x his hx4] at st2
      have f1 : (4 * o.getD i 0 + (x : Int)).toNat = 4 * (o.getD i 0).toNat + x := by omega
      have f3 : (4 * (i : Int) + (x : Int)).toNat = 4 * i + x := by omega
      have f6 := tmod_nn (b := 4) b2.1
      have f5 := tdiv_nn (b := 4) b2.1
      obtain ⟨q, hq⟩ : ∃ q : Nat, (m.getD (4 * (o.getD i 0).toNat + x) 0).toNat / 4 = q := ⟨_, rfl⟩
      have f7 : m.getD (4 * (o.getD i 0).toNat + x) 0 / 4 = (q : Int) := by omega
      rw [f7] at f5
      rw [hq] at b3 st2
      have nuq := nl
      obtain ⟨M, hM⟩ : ∃ M, m.getD (4 * (o.getD i 0).toNat + x) 0 = M := ⟨_, rfl⟩
      rw [hM] at b2 f5 f6 f7 st2
      repeat' (first | omega | ((first | refine awC_sound _ _ _ _ ?_ | (refine DrawA.intro (id := 19) [[68,69,70,71,72,11],[68,69,70,71,72,11],[66,67,71,72,11],[66,67,71,72,11],[66,67,71,72,11],[66,67,68,69,70,11],[66,67,68,69,70,11],[11],[66,67,68,69,70,71,72,73],[]] [[],[],[0,1],[0,1],[0,1],[0,1,2,3,4],[0,1,2,3,4],[],[0,1,2,3,4,5,6,7],[]] (by decide +kernel) mixed ?_) | (refine DrawA.intro (id := 23) [[83,84,85,86,87,88],[83,84,85,86,87,88],[81,82,84,85,86,87,88],[81,82,83,86],[81,82,83,86],[81,82,83,84,85],[81,82,83],[81,82,83],[],[]] [[],[],[0,1],[0,1,2],[0,1,2],[0,1,2,3,4],[0,1,2],[0,1,2],[],[]] (by decide +kernel) mixed ?_) | (refine DrawA.intro (id := 28) [[103,104,105,106,107,108,109,110,111,112,113,114,115],[103,104,105,106,107,108,109,110,111,112,113,114,115],[101,102,105,107,108,109,110,111,112,113,114,115],[101,102,105,107,108,109,110,111,112,113,114,115],[101,102,103,104,107,108,109,110,111,112,113,114,115],[101,102,107,108,109,110,111,112,113,114,115],[101,102,103,104,105,106,108,109,113,114],[101,102,103,104,105,106,107,113,114],[101,102,103,104,105,106,107,113,114],[101,102,103,104,105,106,113,114],[101,102,103,104,105,106,113,114],[101,102,103,104,105,106,113,114],[101,102,103,104,105,106,107,108,109,110,111,112],[101,102,103,104,105,106,107,108,109,110,111,112],[101,102,103,104,105,106],[],[]] [[],[],[0,1],[0,1],[0,1,2,3],[0,1],[0,1,2,3,4,5],[0,1,2,3,4,5,6],[0,1,2,3,4,5,6],[0,1,2,3,4,5],[0,1,2,3,4,5],[0,1,2,3,4,5],[0,1,2,3,4,5,6,7,8,9,10,11],[0,1,2,3,4,5,6,7,8,9,10,11],[0,1,2,3,4,5],[],[]] (by decide +kernel) mixed ?_) | skip); simp only [go_sem, Nat.reduceLT, Nat.reduceLeDiff, Nat.reduceEqDiff, Nat.reduceBEq, Nat.reduceBNe, Nat.reduceAdd, Nat.reduceMul, Nat.reduceSub, Nat.reduceDiv, Nat.reduceMod, Int.reduceToNat, Int.reduceAdd, Int.reduceLT, Int.reduceLE, Int.reduceEq, Int.reduceSub, Int.reduceMul, Int.reduceNeg, ↓reduceIte, reduceCtorEq, ml, Int.toNat_natCast, f1, f3, hM, f5, f6, st2]) | (refine gspDI ?_ ?_ <;> (intro _hh; (try simp only [_hh]); revert _hh)) | refine gspLI ?_ ?_ | refine condLI ?_ ?_ | refine gspI ?_ ?_ | refine And.intro ?_ ?_ | with_reducible intro _hh | trivial | (simp only [cl1, cl2, cl3, List.length_cons, List.length_nil, List.length_append]; omega))
      refine ⟨_, _, _, ?_, ?_, ⟨x + 1, by omega, rfl, rfl, rfl⟩⟩
      · omega
      · rw [show 4 * i + (x + 1) = 4 * i + x + 1 by omega]
        refine Wk.sub ?_ ?_ <;> simp only [go_sem, Nat.reduceLT, Nat.reduceLeDiff, Nat.reduceEqDiff, Nat.reduceBEq, Nat.reduceBNe, Nat.reduceAdd, Nat.reduceMul, Nat.reduceSub, Nat.reduceDiv, Nat.reduceMod, Int.reduceToNat, Int.reduceAdd, Int.reduceLT, Int.reduceLE, Int.reduceEq, Int.reduceSub, Int.reduceMul, Int.reduceNeg, ↓reduceIte, reduceCtorEq]
    · obtain rfl : x = 4 := by omega
      repeat' (first | omega | ((first | refine awC_sound _ _ _ _ ?_ | skip); simp only [go_sem, Nat.reduceLT, Nat.reduceLeDiff, Nat.reduceEqDiff, Nat.reduceBEq, Nat.reduceBNe, Nat.reduceAdd, Nat.reduceMul, Nat.reduceSub, Nat.reduceDiv, Nat.reduceMod, Int.reduceToNat, Int.reduceAdd, Int.reduceLT, Int.reduceLE, Int.reduceEq, Int.reduceSub, Int.reduceMul, Int.reduceNeg, ↓reduceIte, reduceCtorEq]) | (refine gspDI ?_ ?_ <;> (intro _hh; (try simp only [_hh]); revert _hh)) | refine gspLI ?_ ?_ | refine condLI ?_ ?_ | refine gspI ?_ ?_ | refine And.intro ?_ ?_ | with_reducible intro _hh | trivial | (simp only [cl1, cl2, cl3, List.length_cons, List.length_nil, List.length_append]; omega))
      refine ⟨_, _, _, ?_, ?_, ⟨i + 1, by omega, rfl, rfl, rfl⟩⟩
      · omega
      · rw [show 4 * (i + 1) = 4 * i + 4 by omega]
        refine Wk.sub ?_ ?_ <;> simp only [go_sem, Nat.reduceLT, Nat.reduceLeDiff, Nat.reduceEqDiff, Nat.reduceBEq, Nat.reduceBNe, Nat.reduceAdd, Nat.reduceMul, Nat.reduceSub, Nat.reduceDiv, Nat.reduceMod, Int.reduceToNat, Int.reduceAdd, Int.reduceLT, Int.reduceLE, Int.reduceEq, Int.reduceSub, Int.reduceMul, Int.reduceNeg, ↓reduceIte, reduceCtorEq]
  · obtain rfl : i = s.length := by omega
    repeat' (first | omega | ((first | refine awC_sound _ _ _ _ ?_ | skip); simp only [go_sem, Nat.reduceLT, Nat.reduceLeDiff, Nat.reduceEqDiff, Nat.reduceBEq, Nat.reduceBNe, Nat.reduceAdd, Nat.reduceMul, Nat.reduceSub, Nat.reduceDiv, Nat.reduceMod, Int.reduceToNat, Int.reduceAdd, Int.reduceLT, Int.reduceLE, Int.reduceEq, Int.reduceSub, Int.reduceMul, Int.reduceNeg, ↓reduceIte, reduceCtorEq, tabK_len]) | (refine gspDI ?_ ?_ <;> (intro _hh; (try simp only [_hh]); revert _hh)) | refine gspLI ?_ ?_ | refine condLI ?_ ?_ | refine gspI ?_ ?_ | refine And.intro ?_ ?_ | with_reducible intro _hh | trivial | (simp only [cl1, cl2, cl3, List.length_cons, List.length_nil, List.length_append]; omega))
    all_goals exact LeA.of (by rw [List.take_of_length_le (by rw [tabK_len]; omega), List.take_of_length_le (by rw [tabK_len]; omega)])
end Go.Proofs.YtalmkaiiffodnaaGreatDoor
