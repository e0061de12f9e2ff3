/- The reference of layer 1: turns, faces. -/
import Derived.Test.YtebdkebfkpbmpaaDoorXg
import Derived.Test.YtebdkebfkpbmpaaDoorPl
set_option linter.unusedSimpArgs false
set_option linter.unusedVariables false
namespace Go.Proofs.YtebdkebfkpbmpaaDoor
open Go Go.RowKit
set_option maxRecDepth 100000
set_option maxHeartbeats 8000000
theorem fn_rTurn (h b : Int) (h0 : 0 ≤ h) (h1 : h ≤ 100000) : Fn Tryd.prog 66 [I h, I b] (I (turnM h b)) := by
  have e1 : h.tmod 4 = h % 4 := Int.tmod_eq_emod_of_nonneg h0
  have e2 : -4 < b.tmod 4 ∧ b.tmod 4 < 4 := ⟨Int.lt_tmod_of_pos b (by decide), Int.tmod_lt_of_pos b (by decide)⟩
  have e4 : (h % 4 + b.tmod 4).tmod 4 = if 0 ≤ h % 4 + b.tmod 4 then (h % 4 + b.tmod 4) % 4 else h % 4 + b.tmod 4 := by
    split
    · exact Int.tmod_eq_emod_of_nonneg (by omega)
    · rename_i hn
      have : (h % 4 + b.tmod 4) = -(-(h % 4 + b.tmod 4)) := by omega
      rw [this, Int.neg_tmod, Int.tmod_eq_emod_of_nonneg (by omega)]
      omega
  have e3 : ((h % 4 + b.tmod 4).tmod 4 + 4).tmod 4 = (h % 4 + b.tmod 4 + 4) % 4 := by
    rw [e4, Int.tmod_eq_emod_of_nonneg (by split <;> omega)]
    split <;> omega
  unfold turnM
  refine Fn.intro [.tmp 4] Tryd.func66 rfl rfl (by decide) (by simp [Tryd.ntmps66]) ?_; rw [Tryd.ntmps66]
  repeat' (first | omega | ((try refine awC_sound _ _ _ _ ?_); simp only [go_sem, sevalprocAttr, ↓reduceIte, reduceCtorEq]) | (apply gspDI <;> (intro h_; (try simp only [h_]); revert h_)) | apply gspLI | apply condLI | apply gspI | apply And.intro | with_reducible intro h_ | trivial | (simp only [go_sem, List.length_append]; omega))
  all_goals try simp only [e1, e3]
  all_goals try (rw [e4]; split <;> omega)
  all_goals try omega
theorem fn_rOut (s : List Int) (h : Int) (h0 : 0 ≤ h) (h1 : h < 4 * s.length) (hs : s.length ≤ 1000) : Fn Tryd.prog 27 [roI s, I h] (.bool (outB s h)) := by
  have e1 : h.tmod 4 = h % 4 := Int.tmod_eq_emod_of_nonneg h0
  have e2 : h.tdiv 4 = h / 4 := Int.tdiv_eq_ediv_of_nonneg h0
  refine Fn.intro [.tmp 4] Tryd.func27 rfl rfl (by decide) (by simp [Tryd.ntmps27]) ?_; rw [Tryd.ntmps27]
  repeat' (first | omega | ((try refine awC_sound _ _ _ _ ?_); simp only [go_sem, sevalprocAttr, ↓reduceIte, reduceCtorEq]) | (apply gspDI <;> (intro h_; (try simp only [h_]); revert h_)) | apply gspLI | apply condLI | apply gspI | apply And.intro | with_reducible intro h_ | trivial | (simp only [go_sem, List.length_append]; omega))
  all_goals try simp only [e1, e2] at *
  all_goals try omega
  all_goals simp_all [outB]
theorem fn_rFace (m : List Int) (n h : Nat) (hn : n ≤ 1000) (hml : m.length = 4 * n) (hm : ∀ i, i < m.length → 0 ≤ m.getD i 0 ∧ m.getD i 0 < 4 * n) (hh : h < m.length) : Fn Tryd.prog 50 [roI m, I h] (roI (orbF (faceNx m) m.length h)) := by
  have hnx : ∀ g : Nat, g < m.length → Fn Tryd.prog 66 [I (m.getD g 0), I (-1)] (I (faceNx m g)) := fun g hg => by
    have := hm g hg
    exact fn_rTurn _ _ (by omega) (by omega)
  have hrg : ∀ g : Nat, g < m.length → 0 ≤ faceNx m g ∧ faceNx m g < 4 * n := fun g hg => turnM_range (hm g hg).1 (hm g hg).2
  have hbig : ∀ g : Nat, g < m.length → (g : Int) < m.length := fun g hg => by omega
  have hh' := hnx h hh
  refine Fn.intro [.tmp 4] Tryd.func50 rfl rfl (by decide) (by simp [Tryd.ntmps50]) ?_; rw [Tryd.ntmps50]
  repeat' (first | omega | ((try refine awC_sound _ _ _ _ ?_); simp only [go_sem, sevalprocAttr, ↓reduceIte, reduceCtorEq]) | (apply gspDI <;> (intro h_; (try simp only [h_]); revert h_)) | apply gspLI | apply condLI | apply gspI | apply And.intro | with_reducible intro h_ | trivial | (simp only [go_sem, List.length_append]; omega))
  refine ⟨CallB.fn rfl hh' ?_⟩
  repeat' (first | omega | ((try refine awC_sound _ _ _ _ ?_); simp only [go_sem, sevalprocAttr, ↓reduceIte, reduceCtorEq]) | (apply gspDI <;> (intro h_; (try simp only [h_]); revert h_)) | apply gspLI | apply condLI | apply gspI | apply And.intro | with_reducible intro h_ | trivial | (simp only [go_sem, List.length_append]; omega))
  refine LoopA.intro (fun k fr H => ∃ (acc : List Int) (g : Nat), g < m.length ∧ 0 < acc.length ∧ acc.length + k = m.length + 2 ∧ acc ++ orbG (faceNx m) h (m.length + 1 - acc.length) g = orbF (faceNx m) m.length h ∧ fr = [(6, I g), (5, .sl 1 0 0 acc.length), (1, I h), (0, roI m)] ∧ H = [(0, .cells 3 (.ints acc))]) ?_ ?_
  · have h2 := hrg h hh
    refine ⟨m.length + 1, _, _, ?_, [(h : Int)], (faceNx m h).toNat, by omega, by simp, by simp; omega, ?_, rfl, rfl⟩
    · refine Wk.sub ?_ ?_ <;> simp only [go_sem, sevalprocAttr, ↓reduceIte, reduceCtorEq]
      all_goals omega
    · rw [Int.toNat_of_nonneg h2.1]; simp [orbF]
  rintro k fr H ⟨acc, g, hg, ha, hk, hacc, rfl, rfl⟩
  have hg' := hnx g hg
  have hr := hrg g hg
  have key : ((g : Int) = h ∨ m.length < acc.length) → acc = orbF (faceNx m) m.length h := fun hc => by
    rw [← hacc]
    rcases hc with e | e
    · have : orbG (faceNx m) h (m.length + 1 - acc.length) g = [] := by
        cases m.length + 1 - acc.length with
        | zero => rfl
        | succ f => simp [orbG, e]
      rw [this, List.append_nil]
    · rw [show m.length + 1 - acc.length = 0 by omega]; simp [orbG]
  repeat' (first | omega | ((try refine awC_sound _ _ _ _ ?_); simp only [go_sem, sevalprocAttr, ↓reduceIte, reduceCtorEq]) | (apply gspDI <;> (intro h_; (try simp only [h_]); revert h_)) | apply gspLI | apply condLI | apply gspI | apply And.intro | with_reducible intro h_ | trivial | (simp only [go_sem, List.length_append]; omega))
  · refine ⟨CallB.fn rfl hg' ?_⟩
    repeat' (first | omega | ((try refine awC_sound _ _ _ _ ?_); simp only [go_sem, sevalprocAttr, ↓reduceIte, reduceCtorEq]) | (apply gspDI <;> (intro h_; (try simp only [h_]); revert h_)) | apply gspLI | apply condLI | apply gspI | apply And.intro | with_reducible intro h_ | trivial | (simp only [go_sem, List.length_append]; omega))
    refine ⟨k - 1, _, _, ?_, ?_, ⟨acc ++ [(g : Int)], (faceNx m g).toNat, by omega, by simp, by simp; omega, ?_, rfl, rfl⟩⟩
    · omega
    · refine Wk.sub ?_ ?_ <;> simp only [go_sem, sevalprocAttr, ↓reduceIte, reduceCtorEq]
      all_goals omega
    · rw [← hacc, Int.toNat_of_nonneg hr.1, show m.length + 1 - acc.length = (m.length + 1 - (acc ++ [(g : Int)]).length) + 1 by simp; omega]
      rw [orbG, if_neg (by omega)]; simp
  all_goals first
    | exact congrArg List.length (key (by omega))
    | (rw [List.take_length]; exact key (by omega))
end Go.Proofs.YtebdkebfkpbmpaaDoor

/- The reference of layer 1: equal lists. -/
set_option linter.unusedSimpArgs false
set_option linter.unusedVariables false
namespace Go.Proofs.YtebdkebfkpbmpaaDoor
open Go Go.RowKit
set_option maxRecDepth 100000
set_option maxHeartbeats 8000000
def drRi0 : List (List Nat) := [[18,21,22,23,24],[17,21,22,23,24],[21,22,23,24],[21,22,23,24],[17,18,19,20,22],[17,18,19,20,21],[17,18,19,20],[17,18,19,20],[]]
theorem fn_rInts (a b : List Int) (hl : a.length ≤ 1000000) : Fn Tryd.prog 10 [roI a, roI b] (.bool (decide (a = b))) := by
  refine Fn.intro [.tmp 4] Tryd.func10 rfl rfl (by decide) (by simp [Tryd.ntmps10]) ?_; rw [Tryd.ntmps10]
  by_cases hab : a.length = b.length
  case neg =>
    have b0 : ((a.length : Int) != b.length) = true := by simp; omega
    have e : decide (a = b) = false := decide_eq_false fun e => hab (by rw [e])
    rw [e]
    repeat' (first | omega | ((first | refine awC_sound _ _ _ _ ?_ | (refine DrawA.intro (id := 6) drRi0 [[],[0],[],[],[0,1,2,3],[0,1,2,3,4],[0,1,2,3],[0,1,2,3],[]] (by decide +kernel) mixed ?_) | skip); simp only [go_sem, sevalprocAttr, ↓reduceIte, reduceCtorEq, b0, drRi0]) | (apply gspDI <;> (intro h_; (try simp only [h_]); revert h_)) | apply gspLI | apply condLI | apply gspI | apply And.intro | with_reducible intro h_ | trivial | (simp only [go_sem, List.length_append]; omega))
  have b0 : ((a.length : Int) != b.length) = false := by simp; omega
  repeat' (first | omega | ((first | refine awC_sound _ _ _ _ ?_ | (refine DrawA.intro (id := 6) drRi0 [[],[0],[],[],[0,1,2,3],[0,1,2,3,4],[0,1,2,3],[0,1,2,3],[]] (by decide +kernel) mixed ?_) | skip); simp only [go_sem, sevalprocAttr, ↓reduceIte, reduceCtorEq, b0, drRi0]) | (apply gspDI <;> (intro h_; (try simp only [h_]); revert h_)) | apply gspLI | apply condLI | apply gspI | apply And.intro | with_reducible intro h_ | trivial | (simp only [go_sem, List.length_append]; omega))
  refine LoopA.intro (fun n fr H => ∃ i : Nat, i ≤ a.length ∧ n = a.length - i ∧ (∀ j, j < i → a.getD j 0 = b.getD j 0) ∧ fr = [(5, I i), (1, roI b), (0, roI a)] ∧ H = []) ?_ ?_
  · refine ⟨_, _, _, ?_, 0, by omega, rfl, fun j hj => by omega, rfl, rfl⟩
    refine Wk.sub ?_ ?_ <;> simp only [go_sem, sevalprocAttr, ↓reduceIte, reduceCtorEq]
  rintro n fr H ⟨i, hi, rfl, hj, rfl, rfl⟩
  repeat' (first | omega | ((first | refine awC_sound _ _ _ _ ?_ | (refine DrawA.intro (id := 6) drRi0 [[],[0],[],[],[0,1,2,3],[0,1,2,3,4],[0,1,2,3],[0,1,2,3],[]] (by decide +kernel) mixed ?_) | skip); simp only [go_sem, sevalprocAttr, ↓reduceIte, reduceCtorEq, drRi0]) | (apply gspDI <;> (intro h_; (try simp only [h_]); revert h_)) | apply gspLI | apply condLI | apply gspI | apply And.intro | with_reducible intro h_ | trivial | (simp only [go_sem, List.length_append]; omega))
  · exact (decide_eq_false fun e => h_ (by rw [e])).symm
  · have h2 := h_
    refine ⟨_, _, _, ?_, ?_, ⟨i + 1, by omega, rfl, fun j hj' => ?_, rfl, rfl⟩⟩
    · omega
    · refine Wk.sub ?_ ?_ <;> simp only [go_sem, sevalprocAttr, ↓reduceIte, reduceCtorEq]
    · by_cases e : j = i
      · subst e; exact h2
      · exact hj j (by omega)
  · obtain rfl : i = a.length := by omega
    refine (decide_eq_true (List.ext_getElem hab fun j h1 h2 => ?_)).symm
    have := hj j h1
    simpa [h1, h2] using this
end Go.Proofs.YtebdkebfkpbmpaaDoor

/- The reference of layer 1: strands, equal lists. -/
set_option linter.unusedSimpArgs false
set_option linter.unusedVariables false
namespace Go.Proofs.YtebdkebfkpbmpaaDoor
open Go Go.RowKit
set_option maxRecDepth 100000
set_option maxHeartbeats 8000000
def drRf20 : List (List Nat) := [[38,39,40,41,42],[38,39,40,41,42],[36,37,39,8],[36,37,38,8],[36,37,8],[36,37,8],[36,37,8],[38,39,40,41,42],[]]
def drRf21 : List (List Nat) := [[44,47,48,49,50],[43,47,48,49,50],[47,48,49,50],[47,48,49,50],[43,44,45,46,48],[43,44,45,46,47],[43,44,45,46],[43,44,45,46],[],[]]
theorem rlH_len (m l : List Int) : ∀ h, (rlH m l h).length = l.length
  | 0 => rfl
  | h + 1 => by simp only [rlH, rl1, List.length_set]; exact rlH_len m l h
theorem rlP_len (m : List Int) (n : Nat) : ∀ k, (rlP m n k).length = n
  | 0 => by simp [rlP]
  | k + 1 => by simp only [rlP]; rw [rlH_len, rlP_len m n k]
theorem fn_rLabel (m : List Int) (n : Nat) (hn : n ≤ 1000) (hm : mateOk m n) : Fn Tryd.prog 28 [roI m] (roI (rlP m n n)) := by
  obtain ⟨hml, hmr⟩ := hm
  have e0 : (m.length : Int).tdiv 4 = n := by rw [tdiv_nn (by omega)]; omega
  refine Fn.intro [.tmp 2] Tryd.func28 rfl rfl (by decide) (by simp [Tryd.ntmps28]) ?_; rw [Tryd.ntmps28]
  repeat' (first | omega | ((first | refine awC_sound _ _ _ _ ?_ | (refine DrawA.intro (id := 13) drRf20 [[],[],[0,1],[0,1,2],[0,1],[0,1],[0,1],[2,3,4,5,6],[]] (by decide +kernel) mixed ?_) | (refine DrawA.intro (id := 14) drRf21 [[],[0],[],[],[0,1,2,3],[0,1,2,3,4],[0,1,2,3],[0,1,2,3],[],[]] (by decide +kernel) mixed ?_) | skip); simp only [go_sem, sevalprocAttr, ↓reduceIte, reduceCtorEq, e0, drRf20, drRf21]) | (apply gspDI <;> (intro h_; (try simp only [h_]); revert h_)) | apply gspLI | apply condLI | apply gspI | apply And.intro | with_reducible intro h_ | trivial | (simp only [go_sem, List.length_append]; omega))
  refine LoopA.intro (fun t fr H => ∃ k : Nat, k ≤ n ∧ t = n - k ∧ fr = [(5, I k), (4, .sl 1 0 0 n), (3, I n), (0, roI m)] ∧ H = [(0, .cells 3 (.ints ((List.range k).map (fun (i : Nat) => (i : Int)) ++ List.replicate (n - k) 0)))]) ?_ ?_
  · refine ⟨_, _, _, ?_, 0, by omega, rfl, rfl, rfl⟩
    refine Wk.sub ?_ ?_ <;> simp only [go_sem, sevalprocAttr, ↓reduceIte, reduceCtorEq]
    all_goals simp
  rintro t fr H ⟨k, hk, rfl, rfl, rfl⟩
  repeat' (first | omega | ((first | refine awC_sound _ _ _ _ ?_ | (refine DrawA.intro (id := 13) drRf20 [[],[],[0,1],[0,1,2],[0,1],[0,1],[0,1],[2,3,4,5,6],[]] (by decide +kernel) mixed ?_) | (refine DrawA.intro (id := 14) drRf21 [[],[0],[],[],[0,1,2,3],[0,1,2,3,4],[0,1,2,3],[0,1,2,3],[],[]] (by decide +kernel) mixed ?_) | skip); simp only [go_sem, sevalprocAttr, ↓reduceIte, reduceCtorEq, List.length_range, drRf20, drRf21]) | (apply gspDI <;> (intro h_; (try simp only [h_]); revert h_)) | apply gspLI | apply condLI | apply gspI | apply And.intro | with_reducible intro h_ | trivial | (simp only [go_sem, List.length_append]; omega))
  · refine ⟨_, _, _, ?_, ?_, ⟨k + 1, by omega, rfl, rfl, rfl⟩⟩
    · omega
    · have e : ((List.range k).map (fun (i : Nat) => (i : Int)) ++ List.replicate (n - k) 0).set k k = (List.range (k + 1)).map (fun (i : Nat) => (i : Int)) ++ List.replicate (n - (k + 1)) 0 := by
        rw [List.set_append, if_neg (by simp), show n - k = (n - (k + 1)) + 1 by omega, List.replicate_succ]
        simp [List.range_succ]
      rw [e]
      refine Wk.sub ?_ ?_ <;> simp only [go_sem, sevalprocAttr, ↓reduceIte, reduceCtorEq]
  obtain rfl : k = n := by omega
  refine LoopA.intro (fun t fr H => ∃ q : Nat, q ≤ k ∧ t = k - q ∧ fr = [(6, I q), (4, .sl 1 0 0 k), (3, I k), (0, roI m)] ∧ H = [(0, .cells 3 (.ints (rlP m k q)))]) ?_ ?_
  · refine ⟨_, _, _, ?_, 0, by omega, rfl, rfl, rfl⟩
    refine Wk.sub ?_ ?_ <;> simp only [go_sem, sevalprocAttr, ↓reduceIte, reduceCtorEq]
    all_goals simp [rlP]
  rintro t fr H ⟨q, hq, rfl, rfl, rfl⟩
  have hpl := rlP_len m k q
  by_cases hqk : q < k
  · have bq : decide ((q : Int) < k) = true := by simp; omega
    repeat' (first | omega | ((first | refine awC_sound _ _ _ _ ?_ | (refine DrawA.intro (id := 13) drRf20 [[],[],[0,1],[0,1,2],[0,1],[0,1],[0,1],[2,3,4,5,6],[]] (by decide +kernel) mixed ?_) | (refine DrawA.intro (id := 14) drRf21 [[],[0],[],[],[0,1,2,3],[0,1,2,3,4],[0,1,2,3],[0,1,2,3],[],[]] (by decide +kernel) mixed ?_) | skip); simp only [go_sem, sevalprocAttr, ↓reduceIte, reduceCtorEq, bq, drRf20, drRf21]) | (apply gspDI <;> (intro h_; (try simp only [h_]); revert h_)) | apply gspLI | apply condLI | apply gspI | apply And.intro | with_reducible intro h_ | trivial | (simp only [go_sem, List.length_append]; omega))
    refine LoopA.intro (fun t fr H => ∃ h : Nat, h ≤ 4 * k ∧ t = 4 * k - h ∧ fr = [(7, I h), (6, I q), (4, .sl 1 0 0 k), (3, I k), (0, roI m)] ∧ H = [(0, .cells 3 (.ints (rlH m (rlP m k q) h)))]) ?_ ?_
    · refine ⟨_, _, _, ?_, 0, by omega, rfl, rfl, rfl⟩
      refine Wk.sub ?_ ?_ <;> simp only [go_sem, sevalprocAttr, ↓reduceIte, reduceCtorEq]
      all_goals simp [rlH]
    rintro t fr H ⟨h, hh, rfl, rfl, rfl⟩
    have hhl : (rlH m (rlP m k q) h).length = k := by rw [rlH_len, hpl]
    by_cases hhk : h < 4 * k
    · have bh : decide ((h : Int) < m.length) = true := by simp; omega
      have hr := hmr h hhk
      have e1 : (h : Int).tdiv 4 = ((h / 4 : Nat) : Int) := by rw [tdiv_nn (by omega)]; omega
      have e2 : (m.getD h 0).tdiv 4 = ((m.getD h 0 / 4).toNat : Int) := by rw [tdiv_nn (by omega)]; omega
      have e3 : (m.getD h 0 / 4).toNat < k := by omega
      repeat' (first | omega | ((first | refine awC_sound _ _ _ _ ?_ | (refine DrawA.intro (id := 13) drRf20 [[],[],[0,1],[0,1,2],[0,1],[0,1],[0,1],[2,3,4,5,6],[]] (by decide +kernel) mixed ?_) | (refine DrawA.intro (id := 14) drRf21 [[],[0],[],[],[0,1,2,3],[0,1,2,3,4],[0,1,2,3],[0,1,2,3],[],[]] (by decide +kernel) mixed ?_) | skip); simp only [go_sem, sevalprocAttr, ↓reduceIte, reduceCtorEq, bh, e1, e2, drRf20, drRf21]) | (apply gspDI <;> (intro h_; (try simp only [h_]); revert h_)) | apply gspLI | apply condLI | apply gspI | apply And.intro | with_reducible intro h_ | trivial | (simp only [go_sem, List.length_append]; omega))
      refine ⟨_, _, _, ?_, ?_, ⟨h + 1, by omega, rfl, rfl, rfl⟩⟩
      · omega
      · have em : ∀ a b : Int, (if b < a then b else a) = min a b := fun a b => by split <;> omega
        have eh : rlH m (rlP m k q) (h + 1) = ((rlH m (rlP m k q) h).set (h / 4) (min ((rlH m (rlP m k q) h).getD (h / 4) 0) ((rlH m (rlP m k q) h).getD (m.getD h 0 / 4).toNat 0))).set (m.getD h 0 / 4).toNat (min ((rlH m (rlP m k q) h).getD (h / 4) 0) ((rlH m (rlP m k q) h).getD (m.getD h 0 / 4).toNat 0)) := rfl
        rw [eh]
        simp only [em]
        refine Wk.sub ?_ ?_ <;> simp only [go_sem, sevalprocAttr, ↓reduceIte, reduceCtorEq]
    · obtain rfl : h = 4 * k := by omega
      have bh : decide (((4 * k : Nat) : Int) < m.length) = false := by simp; omega
      repeat' (first | omega | ((first | refine awC_sound _ _ _ _ ?_ | (refine DrawA.intro (id := 13) drRf20 [[],[],[0,1],[0,1,2],[0,1],[0,1],[0,1],[2,3,4,5,6],[]] (by decide +kernel) mixed ?_) | (refine DrawA.intro (id := 14) drRf21 [[],[0],[],[],[0,1,2,3],[0,1,2,3,4],[0,1,2,3],[0,1,2,3],[],[]] (by decide +kernel) mixed ?_) | skip); simp only [go_sem, sevalprocAttr, ↓reduceIte, reduceCtorEq, bh, drRf20, drRf21]) | (apply gspDI <;> (intro h_; (try simp only [h_]); revert h_)) | apply gspLI | apply condLI | apply gspI | apply And.intro | with_reducible intro h_ | trivial | (simp only [go_sem, List.length_append]; omega))
      refine ⟨_, _, _, ?_, ?_, ⟨q + 1, by omega, rfl, rfl, rfl⟩⟩
      · omega
      · rw [show rlP m k (q + 1) = rlH m (rlP m k q) (4 * k) from rfl]
        refine Wk.sub ?_ ?_ <;> simp only [go_sem, sevalprocAttr, ↓reduceIte, reduceCtorEq]
  · obtain rfl : q = k := by omega
    have bq : decide ((q : Int) < q) = false := by simp
    repeat' (first | omega | ((first | refine awC_sound _ _ _ _ ?_ | (refine DrawA.intro (id := 13) drRf20 [[],[],[0,1],[0,1,2],[0,1],[0,1],[0,1],[2,3,4,5,6],[]] (by decide +kernel) mixed ?_) | (refine DrawA.intro (id := 14) drRf21 [[],[0],[],[],[0,1,2,3],[0,1,2,3,4],[0,1,2,3],[0,1,2,3],[],[]] (by decide +kernel) mixed ?_) | skip); simp only [go_sem, sevalprocAttr, ↓reduceIte, reduceCtorEq, bq, drRf20, drRf21]) | (apply gspDI <;> (intro h_; (try simp only [h_]); revert h_)) | apply gspLI | apply condLI | apply gspI | apply And.intro | with_reducible intro h_ | trivial | (simp only [go_sem, List.length_append]; omega))
    all_goals first
      | omega
      | exact List.take_of_length_le (by omega)
end Go.Proofs.YtebdkebfkpbmpaaDoor

/- The reference of layer 1: faces, strands. -/
set_option linter.unusedSimpArgs false
set_option linter.unusedVariables false
namespace Go.Proofs.YtebdkebfkpbmpaaDoor
open Go Go.RowKit
set_option maxRecDepth 100000
set_option maxHeartbeats 8000000
def lstR (orb : Nat → List Int) (p : Nat → Bool) (k : Nat) : List (List Int) := ((List.range k).filter p).map orb
theorem lstR_t {orb : Nat → List Int} {p : Nat → Bool} {k : Nat} (h : p k = true) : lstR orb p (k + 1) = lstR orb p k ++ [orb k] := by simp [lstR, List.range_succ, List.filter_append, h]
theorem lstR_f {orb : Nat → List Int} {p : Nat → Bool} {k : Nat} (h : p k = false) : lstR orb p (k + 1) = lstR orb p k := by simp [lstR, List.range_succ, List.filter_append, h]
theorem leastB_take {x : Int} {l : List Int} {i : Nat} (h : i < l.length) : leastB x (l.take (i + 1)) = (leastB x (l.take i) && decide (x ≤ l.getD i 0)) := by
  unfold leastB
  rw [List.take_succ_eq_append_getElem h, List.all_append]
  simp [h]
theorem map_roF_snoc (ls : List (List Int)) (l : List Int) : ls.map roF ++ [AV.ro 1 l.length (.ints l)] = (ls ++ [l]).map roF := by simp [roF]
theorem orbG_len (nx : Int → Int) (x : Int) : ∀ f g, (orbG nx x f g).length ≤ f
  | 0, _ => by simp [orbG]
  | f + 1, g => by
    unfold orbG
    split
    · simp
    · simp only [List.length_cons]; have := orbG_len nx x f (nx g); omega
theorem orbF_len (nx : Int → Int) (N : Nat) (x : Int) : (orbF nx N x).length ≤ N + 1 := by
  unfold orbF; simp only [List.length_cons]; have := orbG_len nx x N (nx x); omega
theorem fn_rFaces (m : List Int) (n : Nat) (hn : n ≤ 1000) (hml : m.length = 4 * n) (hm : ∀ i, i < m.length → 0 ≤ m.getD i 0 ∧ m.getD i 0 < 4 * n) : Fn Tryd.prog 29 [roI m] (roLL (lstR (fun h => orbF (faceNx m) m.length h) (fl m) m.length)) := by
  refine Fn.introL [.tmp 2] Tryd.func29 rfl rfl (by decide) (by simp [Tryd.ntmps29]) ?_; rw [Tryd.ntmps29]
  repeat' (first | omega | ((try refine awC_sound _ _ _ _ ?_); simp only [go_sem, sevalprocAttr, ↓reduceIte, reduceCtorEq]) | (apply gspDI <;> (intro h_; (try simp only [h_]); revert h_)) | apply gspLI | apply condLI | apply gspI | apply And.intro | with_reducible intro h_ | trivial | (simp only [go_sem, List.length_append]; omega))
  refine LoopA.intro (fun t fr H => ∃ h : Nat, h ≤ m.length ∧ t = m.length - h ∧ ((lstR (fun h => orbF (faceNx m) m.length h) (fl m) h = [] ∧ fr = [(4, I h), (3, .nils), (0, roI m)] ∧ H = []) ∨
    (fr = [(4, I h), (3, .sl 1 1 0 (lstR (fun h => orbF (faceNx m) m.length h) (fl m) h).length), (0, roI m)] ∧ H = [(1, .cells 22 (.lst ((lstR (fun h => orbF (faceNx m) m.length h) (fl m) h).map roF)))]))) ?_ ?_
  · refine ⟨_, _, _, ?_, 0, by omega, rfl, .inl ⟨rfl, rfl, rfl⟩⟩
    refine Wk.sub ?_ ?_ <;> simp only [go_sem, sevalprocAttr, ↓reduceIte, reduceCtorEq]
  rintro t fr H ⟨h, hh, rfl, hcase⟩
  have hlen : (lstR (fun h => orbF (faceNx m) m.length h) (fl m) h).length ≤ h := by
    have := List.length_filter_le (fl m) (List.range h)
    simp only [lstR, List.length_map]; simp only [List.length_range] at this; exact this
  have hol : (orbF (faceNx m) m.length h).length ≤ m.length + 1 := orbF_len _ _ _
  rcases hcase with ⟨hnil, rfl, rfl⟩ | ⟨rfl, rfl⟩
  · by_cases hlt : h < m.length
    · have bh : decide ((h : Int) < m.length) = true := by simp; omega
      have hF := fn_rFace m n h hn hml hm hlt
      repeat' (first | omega | ((try refine awC_sound _ _ _ _ ?_); simp only [go_sem, sevalprocAttr, ↓reduceIte, reduceCtorEq, bh]) | (apply gspDI <;> (intro h_; (try simp only [h_]); revert h_)) | apply gspLI | apply condLI | apply gspI | apply And.intro | with_reducible intro h_ | trivial | (simp only [go_sem, List.length_append]; omega))
      refine ⟨CallB.fn rfl hF ?_⟩
      repeat' (first | omega | ((try refine awC_sound _ _ _ _ ?_); simp only [go_sem, sevalprocAttr, ↓reduceIte, reduceCtorEq]) | (apply gspDI <;> (intro h_; (try simp only [h_]); revert h_)) | apply gspLI | apply condLI | apply gspI | apply And.intro | with_reducible intro h_ | trivial | (simp only [go_sem, List.length_append]; omega))
      refine LoopA.intro (fun t fr H => ∃ i : Nat, i ≤ (orbF (faceNx m) m.length h).length ∧ t = (orbF (faceNx m) m.length h).length - i ∧ fr = [(7, I i), (6, .bool (leastB h ((orbF (faceNx m) m.length h).take i))), (5, roI (orbF (faceNx m) m.length h)), (4, I h), (3, .nils), (0, roI m)] ∧ H = []) ?_ ?_
      · refine ⟨_, _, _, ?_, 0, by omega, rfl, rfl, rfl⟩
        refine Wk.sub ?_ ?_ <;> simp only [go_sem, sevalprocAttr, ↓reduceIte, reduceCtorEq]
        all_goals simp [leastB]
      rintro t fr H ⟨i, hi, rfl, rfl, rfl⟩
      by_cases hil : i < (orbF (faceNx m) m.length h).length
      · have bi : decide ((i : Int) < (orbF (faceNx m) m.length h).length) = true := by simp; omega
        have el := leastB_take (x := h) hil
        cases hb : leastB h ((orbF (faceNx m) m.length h).take i) with
        | false =>
          rw [hb] at el
          repeat' (first | omega | ((try refine awC_sound _ _ _ _ ?_); simp only [go_sem, sevalprocAttr, ↓reduceIte, reduceCtorEq, bi]) | (apply gspDI <;> (intro h_; (try simp only [h_]); revert h_)) | apply gspLI | apply condLI | apply gspI | apply And.intro | with_reducible intro h_ | trivial | (simp only [go_sem, List.length_append]; omega))
          refine ⟨_, _, _, ?_, ?_, ⟨i + 1, by omega, rfl, rfl, rfl⟩⟩
          · omega
          · rw [el]
            refine Wk.sub ?_ ?_ <;> simp only [go_sem, sevalprocAttr, ↓reduceIte, reduceCtorEq]
        | true =>
          rw [hb] at el
          repeat' (first | omega | ((try refine awC_sound _ _ _ _ ?_); simp only [go_sem, sevalprocAttr, ↓reduceIte, reduceCtorEq, bi]) | (apply gspDI <;> (intro h_; (try simp only [h_]); revert h_)) | apply gspLI | apply condLI | apply gspI | apply And.intro | with_reducible intro h_ | trivial | (simp only [go_sem, List.length_append]; omega))
          refine ⟨_, _, _, ?_, ?_, ⟨i + 1, by omega, rfl, rfl, rfl⟩⟩
          · omega
          · rw [el]
            refine Wk.sub ?_ ?_ <;> simp only [go_sem, sevalprocAttr, ↓reduceIte, reduceCtorEq]
      · obtain rfl : i = (orbF (faceNx m) m.length h).length := by omega
        have bi : decide (((orbF (faceNx m) m.length h).length : Int) < (orbF (faceNx m) m.length h).length) = false := by simp
        have ef : leastB h ((orbF (faceNx m) m.length h).take (orbF (faceNx m) m.length h).length) = fl m h := by rw [List.take_length]; rfl
        rw [ef]
        cases hb : fl m h with
        | false =>
          have eS := lstR_f (orb := fun h => orbF (faceNx m) m.length h) hb
          repeat' (first | omega | ((try refine awC_sound _ _ _ _ ?_); simp only [go_sem, sevalprocAttr, ↓reduceIte, reduceCtorEq, bi]) | (apply gspDI <;> (intro h_; (try simp only [h_]); revert h_)) | apply gspLI | apply condLI | apply gspI | apply And.intro | with_reducible intro h_ | trivial | (simp only [go_sem, List.length_append]; omega))
          refine ⟨_, _, _, ?_, ?_, ⟨h + 1, by omega, rfl, .inl ⟨by rw [eS]; exact hnil, rfl, rfl⟩⟩⟩
          · omega
          · first | rw [eS] | skip
            refine Wk.sub ?_ ?_ <;> simp only [go_sem, sevalprocAttr, ↓reduceIte, reduceCtorEq]
        | true =>
          have eS := lstR_t (orb := fun h => orbF (faceNx m) m.length h) hb
          repeat' (first | omega | ((try refine awC_sound _ _ _ _ ?_); simp only [go_sem, sevalprocAttr, ↓reduceIte, reduceCtorEq, bi, List.length_map]) | (apply gspDI <;> (intro h_; (try simp only [h_]); revert h_)) | apply gspLI | apply condLI | apply gspI | apply And.intro | with_reducible intro h_ | trivial | (simp only [go_sem, List.length_append]; omega))
          refine ⟨_, _, _, ?_, ?_, ⟨h + 1, by omega, rfl, .inr ⟨rfl, rfl⟩⟩⟩
          · omega
          · rw [eS]
            rw [hnil]
            refine Wk.sub ?_ ?_ <;> simp only [go_sem, sevalprocAttr, ↓reduceIte, reduceCtorEq]
            all_goals first
              | rfl
              | exact ⟨rfl, rfl⟩
              | exact ⟨rfl, rfl, rfl⟩

    · obtain rfl : h = m.length := by omega
      have bh : decide ((m.length : Int) < m.length) = false := by simp
      repeat' (first | omega | ((try refine awC_sound _ _ _ _ ?_); simp only [go_sem, sevalprocAttr, ↓reduceIte, reduceCtorEq, bh]) | (apply gspDI <;> (intro h_; (try simp only [h_]); revert h_)) | apply gspLI | apply condLI | apply gspI | apply And.intro | with_reducible intro h_ | trivial | (simp only [go_sem, List.length_append]; omega))
      all_goals first
        | (rw [hnil]; exact LeA.nils (by omega) rfl)
        | exact snapP_roF _ _ _ _ h_
        | exact snapP_roF _ _ _ _ (List.mem_of_mem_take h_)
        | (rw [List.take_of_length_le (by simp)]; exact LeA.refl _)

  · by_cases hlt : h < m.length
    · have bh : decide ((h : Int) < m.length) = true := by simp; omega
      have hF := fn_rFace m n h hn hml hm hlt
      repeat' (first | omega | ((try refine awC_sound _ _ _ _ ?_); simp only [go_sem, sevalprocAttr, ↓reduceIte, reduceCtorEq, bh]) | (apply gspDI <;> (intro h_; (try simp only [h_]); revert h_)) | apply gspLI | apply condLI | apply gspI | apply And.intro | with_reducible intro h_ | trivial | (simp only [go_sem, List.length_append]; omega))
      refine ⟨CallB.fn rfl hF ?_⟩
      repeat' (first | omega | ((try refine awC_sound _ _ _ _ ?_); simp only [go_sem, sevalprocAttr, ↓reduceIte, reduceCtorEq]) | (apply gspDI <;> (intro h_; (try simp only [h_]); revert h_)) | apply gspLI | apply condLI | apply gspI | apply And.intro | with_reducible intro h_ | trivial | (simp only [go_sem, List.length_append]; omega))
      refine LoopA.intro (fun t fr H => ∃ i : Nat, i ≤ (orbF (faceNx m) m.length h).length ∧ t = (orbF (faceNx m) m.length h).length - i ∧ fr = [(7, I i), (6, .bool (leastB h ((orbF (faceNx m) m.length h).take i))), (5, roI (orbF (faceNx m) m.length h)), (4, I h), (3, .sl 1 1 0 (lstR (fun h => orbF (faceNx m) m.length h) (fl m) h).length), (0, roI m)] ∧ H = [(1, .cells 22 (.lst ((lstR (fun h => orbF (faceNx m) m.length h) (fl m) h).map roF)))]) ?_ ?_
      · refine ⟨_, _, _, ?_, 0, by omega, rfl, rfl, rfl⟩
        refine Wk.sub ?_ ?_ <;> simp only [go_sem, sevalprocAttr, ↓reduceIte, reduceCtorEq]
        all_goals simp [leastB]
      rintro t fr H ⟨i, hi, rfl, rfl, rfl⟩
      by_cases hil : i < (orbF (faceNx m) m.length h).length
      · have bi : decide ((i : Int) < (orbF (faceNx m) m.length h).length) = true := by simp; omega
        have el := leastB_take (x := h) hil
        cases hb : leastB h ((orbF (faceNx m) m.length h).take i) with
        | false =>
          rw [hb] at el
          repeat' (first | omega | ((try refine awC_sound _ _ _ _ ?_); simp only [go_sem, sevalprocAttr, ↓reduceIte, reduceCtorEq, bi]) | (apply gspDI <;> (intro h_; (try simp only [h_]); revert h_)) | apply gspLI | apply condLI | apply gspI | apply And.intro | with_reducible intro h_ | trivial | (simp only [go_sem, List.length_append]; omega))
          refine ⟨_, _, _, ?_, ?_, ⟨i + 1, by omega, rfl, rfl, rfl⟩⟩
          · omega
          · rw [el]
            refine Wk.sub ?_ ?_ <;> simp only [go_sem, sevalprocAttr, ↓reduceIte, reduceCtorEq]
        | true =>
          rw [hb] at el
          repeat' (first | omega | ((try refine awC_sound _ _ _ _ ?_); simp only [go_sem, sevalprocAttr, ↓reduceIte, reduceCtorEq, bi]) | (apply gspDI <;> (intro h_; (try simp only [h_]); revert h_)) | apply gspLI | apply condLI | apply gspI | apply And.intro | with_reducible intro h_ | trivial | (simp only [go_sem, List.length_append]; omega))
          refine ⟨_, _, _, ?_, ?_, ⟨i + 1, by omega, rfl, rfl, rfl⟩⟩
          · omega
          · rw [el]
            refine Wk.sub ?_ ?_ <;> simp only [go_sem, sevalprocAttr, ↓reduceIte, reduceCtorEq]
      · obtain rfl : i = (orbF (faceNx m) m.length h).length := by omega
        have bi : decide (((orbF (faceNx m) m.length h).length : Int) < (orbF (faceNx m) m.length h).length) = false := by simp
        have ef : leastB h ((orbF (faceNx m) m.length h).take (orbF (faceNx m) m.length h).length) = fl m h := by rw [List.take_length]; rfl
        rw [ef]
        cases hb : fl m h with
        | false =>
          have eS := lstR_f (orb := fun h => orbF (faceNx m) m.length h) hb
          repeat' (first | omega | ((try refine awC_sound _ _ _ _ ?_); simp only [go_sem, sevalprocAttr, ↓reduceIte, reduceCtorEq, bi]) | (apply gspDI <;> (intro h_; (try simp only [h_]); revert h_)) | apply gspLI | apply condLI | apply gspI | apply And.intro | with_reducible intro h_ | trivial | (simp only [go_sem, List.length_append]; omega))
          refine ⟨_, _, _, ?_, ?_, ⟨h + 1, by omega, rfl, .inr ⟨rfl, rfl⟩⟩⟩
          · omega
          · first | rw [eS] | skip
            refine Wk.sub ?_ ?_ <;> simp only [go_sem, sevalprocAttr, ↓reduceIte, reduceCtorEq]
        | true =>
          have eS := lstR_t (orb := fun h => orbF (faceNx m) m.length h) hb
          repeat' (first | omega | ((try refine awC_sound _ _ _ _ ?_); simp only [go_sem, sevalprocAttr, ↓reduceIte, reduceCtorEq, bi, List.length_map]) | (apply gspDI <;> (intro h_; (try simp only [h_]); revert h_)) | apply gspLI | apply condLI | apply gspI | apply And.intro | with_reducible intro h_ | trivial | (simp only [go_sem, List.length_append]; omega))
          refine ⟨_, _, _, ?_, ?_, ⟨h + 1, by omega, rfl, .inr ⟨rfl, rfl⟩⟩⟩
          · omega
          · rw [eS]
            rw [map_roF_snoc]
            refine Wk.sub ?_ ?_ <;> simp only [go_sem, sevalprocAttr, ↓reduceIte, reduceCtorEq]
            all_goals first
              | rfl
              | exact ⟨rfl, rfl⟩
              | exact ⟨rfl, rfl, rfl⟩

    · obtain rfl : h = m.length := by omega
      have bh : decide ((m.length : Int) < m.length) = false := by simp
      repeat' (first | omega | ((try refine awC_sound _ _ _ _ ?_); simp only [go_sem, sevalprocAttr, ↓reduceIte, reduceCtorEq, bh]) | (apply gspDI <;> (intro h_; (try simp only [h_]); revert h_)) | apply gspLI | apply condLI | apply gspI | apply And.intro | with_reducible intro h_ | trivial | (simp only [go_sem, List.length_append]; omega))
      all_goals first
        | (rw [hnil]; exact LeA.nils (by omega) rfl)
        | exact snapP_roF _ _ _ _ h_
        | exact snapP_roF _ _ _ _ (List.mem_of_mem_take h_)
        | (rw [List.take_of_length_le (by simp)]; exact LeA.refl _)

end Go.Proofs.YtebdkebfkpbmpaaDoor
