/- The reference of layer 1: turns, faces. -/
import Derived.Test.YtalmkaiiffodnaaGreatDoorXf
import Derived.Test.YtalmkaiiffodnaaGreatDoorPl
set_option linter.unusedSimpArgs false
set_option linter.unusedVariables false
namespace Go.Proofs.YtalmkaiiffodnaaGreatDoor
open Go Go.RowKit
set_option maxRecDepth 100000
set_option maxHeartbeats 8000000
theorem fn_rTurn (h b : Int) (h0 : 0 ≤ h) (h1 : h ≤ 100000) : Fn Tryz.prog 86 [I h, I b] (I (turnM h b)) := by
  have e1 : h.tmod 4 = h % 4 := Int.tmod_eq_emod_of_nonneg h0
  have e2 : -4 < b.tmod 4 ∧ b.tmod 4 < 4 := ⟨Int.lt_tmod_of_pos b (by decide), Int.tmod_lt_of_pos b (by decide)⟩
  have e4 : (h % 4 + b.tmod 4).tmod 4 = if 0 ≤ h % 4 + b.tmod 4 then (h % 4 + b.tmod 4) % 4 else h % 4 + b.tmod 4 := by
    split
    · exact Int.tmod_eq_emod_of_nonneg (by omega)
    · rename_i hn
      have : (h % 4 + b.tmod 4) = -(-(h % 4 + b.tmod 4)) := by omega
      rw [this, Int.neg_tmod, Int.tmod_eq_emod_of_nonneg (by omega)]
      omega
  have e3 : ((h % 4 + b.tmod 4).tmod 4 + 4).tmod 4 = (h % 4 + b.tmod 4 + 4) % 4 := by
    rw [e4, Int.tmod_eq_emod_of_nonneg (by split <;> omega)]
    split <;> omega
  unfold turnM
  refine Fn.intro [.tmp 4] Tryz.func86 rfl rfl (by decide) (by simp [Tryz.ntmps86]) ?_; rw [Tryz.ntmps86]
  repeat' (first | omega | ((first | refine awC_sound _ _ _ _ ?_ | skip); simp only [go_sem, sevalprocAttr, ↓reduceIte, reduceCtorEq]) | (refine gspDI ?_ ?_ <;> (intro _hh; (try simp only [_hh]); revert _hh)) | refine gspLI ?_ ?_ | refine condLI ?_ ?_ | refine gspI ?_ ?_ | refine And.intro ?_ ?_ | with_reducible intro _hh | trivial | (simp only [cl1, cl2, cl3, List.length_cons, List.length_nil, List.length_append]; omega))
  all_goals try simp only [e1, e3]
  all_goals try (rw [e4]; split <;> omega)
  all_goals try omega
theorem fn_rOut (s : List Int) (h : Int) (h0 : 0 ≤ h) (h1 : h < 4 * s.length) (hs : s.length ≤ 1000) : Fn Tryz.prog 30 [roI s, I h] (.bool (outB s h)) := by
  have e1 : h.tmod 4 = h % 4 := Int.tmod_eq_emod_of_nonneg h0
  have e2 : h.tdiv 4 = h / 4 := Int.tdiv_eq_ediv_of_nonneg h0
  refine Fn.intro [.tmp 4] Tryz.func30 rfl rfl (by decide) (by simp [Tryz.ntmps30]) ?_; rw [Tryz.ntmps30]
  repeat' (first | omega | ((first | refine awC_sound _ _ _ _ ?_ | skip); simp only [go_sem, sevalprocAttr, ↓reduceIte, reduceCtorEq]) | (refine gspDI ?_ ?_ <;> (intro _hh; (try simp only [_hh]); revert _hh)) | refine gspLI ?_ ?_ | refine condLI ?_ ?_ | refine gspI ?_ ?_ | refine And.intro ?_ ?_ | with_reducible intro _hh | trivial | (simp only [cl1, cl2, cl3, List.length_cons, List.length_nil, List.length_append]; omega))
  all_goals try simp only [e1, e2] at *
  all_goals try omega
  all_goals simp_all [outB]
theorem fn_rFace (m : List Int) (n h : Nat) (hn : n ≤ 1000) (hml : m.length = 4 * n) (hm : ∀ i, i < m.length → 0 ≤ m.getD i 0 ∧ m.getD i 0 < 4 * n) (hh : h < m.length) : Fn Tryz.prog 66 [roI m, I h] (roI (orbF (faceNx m) m.length h)) := by
  have hnx : ∀ g : Nat, g < m.length → Fn Tryz.prog 86 [I (m.getD g 0), I (-1)] (I (faceNx m g)) := fun g hg => by
    have := hm g hg
    exact fn_rTurn _ _ (by omega) (by omega)
  have hrg : ∀ g : Nat, g < m.length → 0 ≤ faceNx m g ∧ faceNx m g < 4 * n := fun g hg => turnM_range (hm g hg).1 (hm g hg).2
  have hbig : ∀ g : Nat, g < m.length → (g : Int) < m.length := fun g hg => by omega
  have hh' := hnx h hh
  refine Fn.intro [.tmp 4] Tryz.func66 rfl rfl (by decide) (by simp [Tryz.ntmps66]) ?_; rw [Tryz.ntmps66]
  repeat' (first | omega | ((first | refine awC_sound _ _ _ _ ?_ | skip); simp only [go_sem, sevalprocAttr, ↓reduceIte, reduceCtorEq]) | (refine gspDI ?_ ?_ <;> (intro _hh; (try simp only [_hh]); revert _hh)) | refine gspLI ?_ ?_ | refine condLI ?_ ?_ | refine gspI ?_ ?_ | refine And.intro ?_ ?_ | with_reducible intro _hh | trivial | (simp only [cl1, cl2, cl3, List.length_cons, List.length_nil, List.length_append]; omega))
  refine ⟨CallB.fn rfl hh' ?_⟩
  repeat' (first | omega | ((first | refine awC_sound _ _ _ _ ?_ | skip); simp only [go_sem, sevalprocAttr, ↓reduceIte, reduceCtorEq]) | (refine gspDI ?_ ?_ <;> (intro _hh; (try simp only [_hh]); revert _hh)) | refine gspLI ?_ ?_ | refine condLI ?_ ?_ | refine gspI ?_ ?_ | refine And.intro ?_ ?_ | with_reducible intro _hh | trivial | (simp only [cl1, cl2, cl3, List.length_cons, List.length_nil, List.length_append]; omega))
  refine LoopA.intro (fun k fr H => ∃ (acc : List Int) (g : Nat), g < m.length ∧ 0 < acc.length ∧ acc.length + k = m.length + 2 ∧ acc ++ orbG (faceNx m) h (m.length + 1 - acc.length) g = orbF (faceNx m) m.length h ∧ fr = [(6, I g), (5, .sl 1 0 0 acc.length), (1, I h), (0, roI m)] ∧ H = [(0, .cells 3 (.ints acc))]) ?_ ?_
  · have h2 := hrg h hh
    refine ⟨m.length + 1, _, _, ?_, [(h : Int)], (faceNx m h).toNat, by omega, by simp, by simp; omega, ?_, rfl, rfl⟩
    · refine Wk.sub ?_ ?_ <;> simp only [go_sem, sevalprocAttr, ↓reduceIte, reduceCtorEq]
      all_goals omega
    · rw [Int.toNat_of_nonneg h2.1]; simp [orbF]
  rintro k fr H ⟨acc, g, hg, ha, hk, hacc, rfl, rfl⟩
  have hg' := hnx g hg
  have hr := hrg g hg
  have key : ((g : Int) = h ∨ m.length < acc.length) → acc = orbF (faceNx m) m.length h := fun hc => by
    rw [← hacc]
    rcases hc with e | e
    · have : orbG (faceNx m) h (m.length + 1 - acc.length) g = [] := by
        cases m.length + 1 - acc.length with
        | zero => rfl
        | succ f => simp [orbG, e]
      rw [this, List.append_nil]
    · rw [show m.length + 1 - acc.length = 0 by omega]; simp [orbG]
  repeat' (first | omega | ((first | refine awC_sound _ _ _ _ ?_ | skip); simp only [go_sem, sevalprocAttr, ↓reduceIte, reduceCtorEq]) | (refine gspDI ?_ ?_ <;> (intro _hh; (try simp only [_hh]); revert _hh)) | refine gspLI ?_ ?_ | refine condLI ?_ ?_ | refine gspI ?_ ?_ | refine And.intro ?_ ?_ | with_reducible intro _hh | trivial | (simp only [cl1, cl2, cl3, List.length_cons, List.length_nil, List.length_append]; omega))
  · refine ⟨CallB.fn rfl hg' ?_⟩
    repeat' (first | omega | ((first | refine awC_sound _ _ _ _ ?_ | skip); simp only [go_sem, sevalprocAttr, ↓reduceIte, reduceCtorEq]) | (refine gspDI ?_ ?_ <;> (intro _hh; (try simp only [_hh]); revert _hh)) | refine gspLI ?_ ?_ | refine condLI ?_ ?_ | refine gspI ?_ ?_ | refine And.intro ?_ ?_ | with_reducible intro _hh | trivial | (simp only [cl1, cl2, cl3, List.length_cons, List.length_nil, List.length_append]; omega))
    refine ⟨k - 1, _, _, ?_, ?_, ⟨acc ++ [(g : Int)], (faceNx m g).toNat, by omega, by simp, by simp; omega, ?_, rfl, rfl⟩⟩
    · omega
    · refine Wk.sub ?_ ?_ <;> simp only [go_sem, sevalprocAttr, ↓reduceIte, reduceCtorEq]
      all_goals omega
    · rw [← hacc, Int.toNat_of_nonneg hr.1, show m.length + 1 - acc.length = (m.length + 1 - (acc ++ [(g : Int)]).length) + 1 by simp; omega]
      rw [orbG, if_neg (by omega)]; simp
  all_goals first
    | exact congrArg List.length (key (by omega))
    | (rw [List.take_length]; exact key (by omega))
end Go.Proofs.YtalmkaiiffodnaaGreatDoor

/- The reference of layer 1: strands, equal lists. -/
set_option linter.unusedSimpArgs false
set_option linter.unusedVariables false
namespace Go.Proofs.YtalmkaiiffodnaaGreatDoor
open Go Go.RowKit
set_option maxRecDepth 100000
set_option maxHeartbeats 8000000
theorem rlH_len (m l : List Int) : ∀ h, (rlH m l h).length = l.length
  | 0 => rfl
  | h + 1 => by simp only [rlH, rl1, List.length_set]; exact rlH_len m l h
theorem rlP_len (m : List Int) (n : Nat) : ∀ k, (rlP m n k).length = n
  | 0 => by simp [rlP]
  | k + 1 => by simp only [rlP]; rw [rlH_len, rlP_len m n k]
theorem fn_rLabel (m : List Int) (n : Nat) (hn : n ≤ 1000) (hm : mateOk m n) : Fn Tryz.prog 31 [roI m] (roI (rlP m n n)) := by
  obtain ⟨hml, hmr⟩ := hm
  have e0 : (m.length : Int).tdiv 4 = n := by rw [tdiv_nn (by omega)]; omega
  refine Fn.intro [.tmp 2] Tryz.func31 rfl rfl (by decide) (by simp [Tryz.ntmps31]) ?_; rw [Tryz.ntmps31]
  repeat' (first | omega | ((first | refine awC_sound _ _ _ _ ?_ | (refine DrawA.intro (id := 13) [[38,39,40,41,42],[38,39,40,41,42],[36,37,39,8],[36,37,38,8],[36,37,8],[36,37,8],[36,37,8],[38,39,40,41,42],[]] [[],[],[0,1],[0,1,2],[0,1],[0,1],[0,1],[2,3,4,5,6],[]] (by decide +kernel) mixed ?_) | (refine DrawA.intro (id := 14) [[44,47,48,49,50],[43,47,48,49,50],[47,48,49,50],[47,48,49,50],[43,44,45,46,48],[43,44,45,46,47],[43,44,45,46],[43,44,45,46],[],[]] [[],[0],[],[],[0,1,2,3],[0,1,2,3,4],[0,1,2,3],[0,1,2,3],[],[]] (by decide +kernel) mixed ?_) | skip); simp only [go_sem, sevalprocAttr, ↓reduceIte, reduceCtorEq, e0]) | (refine gspDI ?_ ?_ <;> (intro _hh; (try simp only [_hh]); revert _hh)) | refine gspLI ?_ ?_ | refine condLI ?_ ?_ | refine gspI ?_ ?_ | refine And.intro ?_ ?_ | with_reducible intro _hh | trivial | (simp only [cl1, cl2, cl3, List.length_cons, List.length_nil, List.length_append]; omega))
  refine LoopA.intro (fun t fr H => ∃ k : Nat, k ≤ n ∧ t = n - k ∧ fr = [(5, I k), (4, .sl 1 0 0 n), (3, I n), (0, roI m)] ∧ H = [(0, .cells 3 (.ints ((List.range k).map (fun (i : Nat) => (i : Int)) ++ List.replicate (n - k) 0)))]) ?_ ?_
  · refine ⟨_, _, _, ?_, 0, by omega, rfl, rfl, rfl⟩
    refine Wk.sub ?_ ?_ <;> simp only [go_sem, sevalprocAttr, ↓reduceIte, reduceCtorEq]
    all_goals simp
  rintro t fr H ⟨k, hk, rfl, rfl, rfl⟩
  repeat' (first | omega | ((first | refine awC_sound _ _ _ _ ?_ | (refine DrawA.intro (id := 13) [[38,39,40,41,42],[38,39,40,41,42],[36,37,39,8],[36,37,38,8],[36,37,8],[36,37,8],[36,37,8],[38,39,40,41,42],[]] [[],[],[0,1],[0,1,2],[0,1],[0,1],[0,1],[2,3,4,5,6],[]] (by decide +kernel) mixed ?_) | (refine DrawA.intro (id := 14) [[44,47,48,49,50],[43,47,48,49,50],[47,48,49,50],[47,48,49,50],[43,44,45,46,48],[43,44,45,46,47],[43,44,45,46],[43,44,45,46],[],[]] [[],[0],[],[],[0,1,2,3],[0,1,2,3,4],[0,1,2,3],[0,1,2,3],[],[]] (by decide +kernel) mixed ?_) | skip); simp only [go_sem, sevalprocAttr, ↓reduceIte, reduceCtorEq, List.length_range]) | (refine gspDI ?_ ?_ <;> (intro _hh; (try simp only [_hh]); revert _hh)) | refine gspLI ?_ ?_ | refine condLI ?_ ?_ | refine gspI ?_ ?_ | refine And.intro ?_ ?_ | with_reducible intro _hh | trivial | (simp only [cl1, cl2, cl3, List.length_cons, List.length_nil, List.length_append]; omega))
  · refine ⟨_, _, _, ?_, ?_, ⟨k + 1, by omega, rfl, rfl, rfl⟩⟩
    · omega
    · have e : ((List.range k).map (fun (i : Nat) => (i : Int)) ++ List.replicate (n - k) 0).set k k = (List.range (k + 1)).map (fun (i : Nat) => (i : Int)) ++ List.replicate (n - (k + 1)) 0 := by
        rw [List.set_append, if_neg (by simp), show n - k = (n - (k + 1)) + 1 by omega, List.replicate_succ]
        simp [List.range_succ]
      rw [e]
      refine Wk.sub ?_ ?_ <;> simp only [go_sem, sevalprocAttr, ↓reduceIte, reduceCtorEq]
  obtain rfl : k = n := by omega
  refine LoopA.intro (fun t fr H => ∃ q : Nat, q ≤ k ∧ t = k - q ∧ fr = [(6, I q), (4, .sl 1 0 0 k), (3, I k), (0, roI m)] ∧ H = [(0, .cells 3 (.ints (rlP m k q)))]) ?_ ?_
  · refine ⟨_, _, _, ?_, 0, by omega, rfl, rfl, rfl⟩
    refine Wk.sub ?_ ?_ <;> simp only [go_sem, sevalprocAttr, ↓reduceIte, reduceCtorEq]
    all_goals simp [rlP]
  rintro t fr H ⟨q, hq, rfl, rfl, rfl⟩
  have hpl := rlP_len m k q
  by_cases hqk : q < k
  · have bq : decide ((q : Int) < k) = true := by simp; omega
    repeat' (first | omega | ((first | refine awC_sound _ _ _ _ ?_ | (refine DrawA.intro (id := 13) [[38,39,40,41,42],[38,39,40,41,42],[36,37,39,8],[36,37,38,8],[36,37,8],[36,37,8],[36,37,8],[38,39,40,41,42],[]] [[],[],[0,1],[0,1,2],[0,1],[0,1],[0,1],[2,3,4,5,6],[]] (by decide +kernel) mixed ?_) | (refine DrawA.intro (id := 14) [[44,47,48,49,50],[43,47,48,49,50],[47,48,49,50],[47,48,49,50],[43,44,45,46,48],[43,44,45,46,47],[43,44,45,46],[43,44,45,46],[],[]] [[],[0],[],[],[0,1,2,3],[0,1,2,3,4],[0,1,2,3],[0,1,2,3],[],[]] (by decide +kernel) mixed ?_) | skip); simp only [go_sem, sevalprocAttr, ↓reduceIte, reduceCtorEq, bq]) | (refine gspDI ?_ ?_ <;> (intro _hh; (try simp only [_hh]); revert _hh)) | refine gspLI ?_ ?_ | refine condLI ?_ ?_ | refine gspI ?_ ?_ | refine And.intro ?_ ?_ | with_reducible intro _hh | trivial | (simp only [cl1, cl2, cl3, List.length_cons, List.length_nil, List.length_append]; omega))
    refine LoopA.intro (fun t fr H => ∃ h : Nat, h ≤ 4 * k ∧ t = 4 * k - h ∧ fr = [(7, I h), (6, I q), (4, .sl 1 0 0 k), (3, I k), (0, roI m)] ∧ H = [(0, .cells 3 (.ints (rlH m (rlP m k q) h)))]) ?_ ?_
    · refine ⟨_, _, _, ?_, 0, by omega, rfl, rfl, rfl⟩
      refine Wk.sub ?_ ?_ <;> simp only [go_sem, sevalprocAttr, ↓reduceIte, reduceCtorEq]
      all_goals simp [rlH]
    rintro t fr H ⟨h, hh, rfl, rfl, rfl⟩
    have hhl : (rlH m (rlP m k q) h).length = k := by rw [rlH_len, hpl]
    by_cases hhk : h < 4 * k
    · have bh : decide ((h : Int) < m.length) = true := by simp; omega
      have hr := hmr h hhk
      have e1 : (h : Int).tdiv 4 = ((h / 4 : Nat) : Int) := by rw [tdiv_nn (by omega)]; omega
      have e2 : (m.getD h 0).tdiv 4 = ((m.getD h 0 / 4).toNat : Int) := by rw [tdiv_nn (by omega)]; omega
      have e3 : (m.getD h 0 / 4).toNat < k := by omega
      repeat' (first | omega | ((first | refine awC_sound _ _ _ _ ?_ | (refine DrawA.intro (id := 13) [[38,39,40,41,42],[38,39,40,41,42],[36,37,39,8],[36,37,38,8],[36,37,8],[36,37,8],[36,37,8],[38,39,40,41,42],[]] [[],[],[0,1],[0,1,2],[0,1],[0,1],[0,1],[2,3,4,5,6],[]] (by decide +kernel) mixed ?_) | (refine DrawA.intro (id := 14) [[44,47,48,49,50],[43,47,48,49,50],[47,48,49,50],[47,48,49,50],[43,44,45,46,48],[43,44,45,46,47],[43,44,45,46],[43,44,45,46],[],[]] [[],[0],[],[],[0,1,2,3],[0,1,2,3,4],[0,1,2,3],[0,1,2,3],[],[]] (by decide +kernel) mixed ?_) | skip); simp only [go_sem, sevalprocAttr, ↓reduceIte, reduceCtorEq, bh, e1, e2]) | (refine gspDI ?_ ?_ <;> (intro _hh; (try simp only [_hh]); revert _hh)) | refine gspLI ?_ ?_ | refine condLI ?_ ?_ | refine gspI ?_ ?_ | refine And.intro ?_ ?_ | with_reducible intro _hh | trivial | (simp only [cl1, cl2, cl3, List.length_cons, List.length_nil, List.length_append]; omega))
      refine ⟨_, _, _, ?_, ?_, ⟨h + 1, by omega, rfl, rfl, rfl⟩⟩
      · omega
      · have em : ∀ a b : Int, (if b < a then b else a) = min a b := fun a b => by split <;> omega
        have eh : rlH m (rlP m k q) (h + 1) = ((rlH m (rlP m k q) h).set (h / 4) (min ((rlH m (rlP m k q) h).getD (h / 4) 0) ((rlH m (rlP m k q) h).getD (m.getD h 0 / 4).toNat 0))).set (m.getD h 0 / 4).toNat (min ((rlH m (rlP m k q) h).getD (h / 4) 0) ((rlH m (rlP m k q) h).getD (m.getD h 0 / 4).toNat 0)) := rfl
        rw [eh]
        simp only [em]
        refine Wk.sub ?_ ?_ <;> simp only [go_sem, sevalprocAttr, ↓reduceIte, reduceCtorEq]
    · obtain rfl : h = 4 * k := by omega
      have bh : decide (((4 * k : Nat) : Int) < m.length) = false := by simp; omega
      repeat' (first | omega | ((first | refine awC_sound _ _ _ _ ?_ | (refine DrawA.intro (id := 13) [[38,39,40,41,42],[38,39,40,41,42],[36,37,39,8],[36,37,38,8],[36,37,8],[36,37,8],[36,37,8],[38,39,40,41,42],[]] [[],[],[0,1],[0,1,2],[0,1],[0,1],[0,1],[2,3,4,5,6],[]] (by decide +kernel) mixed ?_) | (refine DrawA.intro (id := 14) [[44,47,48,49,50],[43,47,48,49,50],[47,48,49,50],[47,48,49,50],[43,44,45,46,48],[43,44,45,46,47],[43,44,45,46],[43,44,45,46],[],[]] [[],[0],[],[],[0,1,2,3],[0,1,2,3,4],[0,1,2,3],[0,1,2,3],[],[]] (by decide +kernel) mixed ?_) | skip); simp only [go_sem, sevalprocAttr, ↓reduceIte, reduceCtorEq, bh]) | (refine gspDI ?_ ?_ <;> (intro _hh; (try simp only [_hh]); revert _hh)) | refine gspLI ?_ ?_ | refine condLI ?_ ?_ | refine gspI ?_ ?_ | refine And.intro ?_ ?_ | with_reducible intro _hh | trivial | (simp only [cl1, cl2, cl3, List.length_cons, List.length_nil, List.length_append]; omega))
      refine ⟨_, _, _, ?_, ?_, ⟨q + 1, by omega, rfl, rfl, rfl⟩⟩
      · omega
      · rw [show rlP m k (q + 1) = rlH m (rlP m k q) (4 * k) from rfl]
        refine Wk.sub ?_ ?_ <;> simp only [go_sem, sevalprocAttr, ↓reduceIte, reduceCtorEq]
  · obtain rfl : q = k := by omega
    have bq : decide ((q : Int) < q) = false := by simp
    repeat' (first | omega | ((first | refine awC_sound _ _ _ _ ?_ | (refine DrawA.intro (id := 13) [[38,39,40,41,42],[38,39,40,41,42],[36,37,39,8],[36,37,38,8],[36,37,8],[36,37,8],[36,37,8],[38,39,40,41,42],[]] [[],[],[0,1],[0,1,2],[0,1],[0,1],[0,1],[2,3,4,5,6],[]] (by decide +kernel) mixed ?_) | (refine DrawA.intro (id := 14) [[44,47,48,49,50],[43,47,48,49,50],[47,48,49,50],[47,48,49,50],[43,44,45,46,48],[43,44,45,46,47],[43,44,45,46],[43,44,45,46],[],[]] [[],[0],[],[],[0,1,2,3],[0,1,2,3,4],[0,1,2,3],[0,1,2,3],[],[]] (by decide +kernel) mixed ?_) | skip); simp only [go_sem, sevalprocAttr, ↓reduceIte, reduceCtorEq, bq]) | (refine gspDI ?_ ?_ <;> (intro _hh; (try simp only [_hh]); revert _hh)) | refine gspLI ?_ ?_ | refine condLI ?_ ?_ | refine gspI ?_ ?_ | refine And.intro ?_ ?_ | with_reducible intro _hh | trivial | (simp only [cl1, cl2, cl3, List.length_cons, List.length_nil, List.length_append]; omega))
    all_goals first
      | omega
      | exact List.take_of_length_le (by omega)
end Go.Proofs.YtalmkaiiffodnaaGreatDoor
