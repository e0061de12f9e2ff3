/- Layer 15: the bracket of the chapter's examples. -/
import Derived.Test.YtmfdclbiljpmgaaDoorBr2
import Derived.Test.YtmfdclbiljpmgaaDoorOf1
import Derived.Test.YtmfdclbiljpmgaaDoorKb3
set_option linter.unusedSimpArgs false
set_option linter.unusedVariables false
namespace Go.Proofs.YtmfdclbiljpmgaaDoor
open Go Go.RowKit
set_option maxHeartbeats 8000000
set_option maxRecDepth 100000
theorem lfind_nil (n : Int) : lfind [] n = none := rfl
theorem lfind_cons (k : Int) (x : AV) (l : List (Int × AV)) (n : Int) : lfind ((k, x) :: l) n = if k = n then some x else lfind l n := by
  unfold lfind
  by_cases h : k = n
  · simp [h]
  · have : (k == n) = false := by simpa using h
    simp [this, h]
theorem lput_nil (n : Int) (v : AV) : lput [] n v = [(n, v)] := rfl
theorem lput_cons (k : Int) (x : AV) (l : List (Int × AV)) (n : Int) (v : AV) : lput ((k, x) :: l) n v = if k = n then (n, v) :: l else (k, x) :: lput l n v := rfl
theorem land1 (x : Nat) (h : x < 9223372036854775808) : land64 (x : Int) 1 = ((x % 2 : Nat) : Int) := by
  unfold land64
  have h1 : (BitVec.ofInt 64 (x : Int) &&& BitVec.ofInt 64 1).toNat = x % 2 := by
    rw [BitVec.toNat_and]
    have e1 : (BitVec.ofInt 64 (x : Int)).toNat = x := by simp [BitVec.toNat_ofInt]; omega
    have e2 : (BitVec.ofInt 64 1).toNat = 1 := by decide
    rw [e1, e2, Nat.and_one_is_mod]
  rw [h1]
  exact wrap_InI (by unfold InI; omega)
theorem fn_chB (b c : Nat) (hb : b ≤ 100000) (hc : c ≤ 60) : Fn Tryd.prog 15 [I c, .rp (.lst [I b]) 0] (.bool (chB b c)) := by
  have e0 : (b : Int) / 2 ^ c = ((b / 2 ^ c : Nat) : Int) := by simp
  have hlt : b / 2 ^ c ≤ b := Nat.div_le_self _ _
  have e1 := land1 (b / 2 ^ c) (by omega)
  have e2 : (((b / 2 ^ c % 2 : Nat) : Int) == 1) = chB b c := by
    unfold chB
    by_cases h : b / 2 ^ c % 2 = 1
    · simp [h]
    · have : ((b / 2 ^ c % 2 : Nat) : Int) ≠ 1 := by omega
      rw [beq_eq_false_iff_ne.2 this, beq_eq_false_iff_ne.2 h]
  refine Fn.intro [.tmp 3] Tryd.func15 rfl rfl (by decide) (by simp [Tryd.ntmps15]) ?_; rw [Tryd.ntmps15]
  repeat' (first | omega | ((first | refine awC_sound _ _ _ _ ?_ | skip); simp only [go_sem, Nat.reduceLT, Nat.reduceLeDiff, Nat.reduceEqDiff, Nat.reduceBEq, Nat.reduceBNe, Nat.reduceAdd, Nat.reduceMul, Nat.reduceSub, Nat.reduceDiv, Nat.reduceMod, Int.reduceToNat, Int.reduceAdd, Int.reduceLT, Int.reduceLE, Int.reduceEq, Int.reduceSub, Int.reduceMul, Int.reduceNeg, ↓reduceIte, reduceCtorEq, e0, e1, e2, Int.toNat_natCast]) | (refine gspDI ?_ ?_ <;> (intro _hh; (try simp only [_hh]); revert _hh)) | refine gspLI ?_ ?_ | refine condLI ?_ ?_ | refine gspI ?_ ?_ | refine And.intro ?_ ?_ | with_reducible intro _hh | trivial | (simp only [cl1, cl2, cl3, List.length_cons, List.length_nil, List.length_append]; omega))
theorem lnd0 : land64 0 1 = 0 := by decide
theorem lnd1 : land64 1 1 = 1 := by decide
theorem lnd2 : land64 2 1 = 0 := by decide
theorem lnd3 : land64 3 1 = 1 := by decide
theorem lnd4 : land64 4 1 = 0 := by decide
theorem lnd5 : land64 5 1 = 1 := by decide
theorem lnd6 : land64 6 1 = 0 := by decide
theorem lnd7 : land64 7 1 = 1 := by decide
theorem fn_OfD : Fn Tryd.prog 8 [I (-2), .ro 1 5 (.ints [-1, 0, 0, 0, -1])] (plA false [(-2, -1), (2, -1)]) := by
  have h := fn_Of (-2) [-1, 0, 0, 0, -1] (by decide) (by decide) (by decide)
  rw [show tmI (-2) [-1, 0, 0, 0, -1] = [(-2, -1), (2, -1)] by decide] at h
  exact h
theorem fn_Mul0n (q : List (Int × Int)) : Fn Tryd.prog 10 [.agg [.bool false, .nils], plA false q] (plA false []) := by
  refine Fn.introL [.cell 4 29] Tryd.func10 rfl rfl (by decide) (by simp [Tryd.ntmps10]) ?_; rw [Tryd.ntmps10]
  repeat' (first | omega | ((first | refine awC_sound _ _ _ _ ?_ | skip); simp only [go_sem, Nat.reduceLT, Nat.reduceLeDiff, Nat.reduceEqDiff, Nat.reduceBEq, Nat.reduceBNe, Nat.reduceAdd, Nat.reduceMul, Nat.reduceSub, Nat.reduceDiv, Nat.reduceMod, Int.reduceToNat, Int.reduceAdd, Int.reduceLT, Int.reduceLE, Int.reduceEq, Int.reduceSub, Int.reduceMul, Int.reduceNeg, ↓reduceIte, reduceCtorEq]) | (refine gspDI ?_ ?_ <;> (intro _hh; (try simp only [_hh]); revert _hh)) | refine gspLI ?_ ?_ | refine condLI ?_ ?_ | refine gspI ?_ ?_ | refine And.intro ?_ ?_ | with_reducible intro _hh | trivial | (simp only [cl1, cl2, cl3, List.length_cons, List.length_nil, List.length_append]; omega))
  all_goals exact LeA.aggL (.cons (LeA.refl _) (.cons (LeA.nils (by omega) rfl) .nil))
def ascB : List (Int × Int) → Bool
  | [] => true
  | [t] => decide (-1000000 ≤ t.1 ∧ t.1 ≤ 1000000) && decide (-1125899906842624 ≤ t.2 ∧ t.2 ≤ 1125899906842624)
  | t :: u :: r => decide (-1000000 ≤ t.1 ∧ t.1 ≤ 1000000) && decide (-1125899906842624 ≤ t.2 ∧ t.2 ≤ 1125899906842624) && decide (t.1 < u.1) && ascB (u :: r)
theorem ascB_all : ∀ {p : List (Int × Int)}, ascB p = true → ∀ t ∈ p, (-1000000 ≤ t.1 ∧ t.1 ≤ 1000000) ∧ (-1125899906842624 ≤ t.2 ∧ t.2 ≤ 1125899906842624)
  | [], _, t, ht => by simp at ht
  | [a], h, t, ht => by
    simp only [ascB, Bool.and_eq_true, decide_eq_true_eq] at h
    simp only [List.mem_singleton] at ht
    subst ht; exact h
  | a :: b :: r, h, t, ht => by
    simp only [ascB, Bool.and_eq_true, decide_eq_true_eq] at h
    rcases List.mem_cons.1 ht with rfl | ht
    · exact h.1.1
    · exact ascB_all h.2 t ht
theorem ascB_head : ∀ {a : Int × Int} {p : List (Int × Int)}, ascB (a :: p) = true → ∀ t ∈ p, a.1 < t.1
  | a, [], _, t, ht => by simp at ht
  | a, b :: r, h, t, ht => by
    simp only [ascB, Bool.and_eq_true, decide_eq_true_eq] at h
    rcases List.mem_cons.1 ht with rfl | ht
    · exact h.1.2
    · have := ascB_head h.2 t ht; omega
theorem ascB_tail {a : Int × Int} {p : List (Int × Int)} (h : ascB (a :: p) = true) : ascB p = true := by
  cases p with
  | nil => rfl
  | cons b r => simp only [ascB, Bool.and_eq_true] at h; exact h.2
theorem ascB_get : ∀ {p : List (Int × Int)}, ascB p = true → ∀ i j, i ≤ j → j < p.length → (p.getD i (0, 0)).1 ≤ (p.getD j (0, 0)).1
  | [], _, i, j, _, hj => by simp at hj
  | a :: p, h, 0, 0, _, _ => by simp
  | a :: p, h, 0, j + 1, _, hj => by
    have hj' : j < p.length := by simpa using hj
    have := ascB_head h (p.getD j (0, 0)) (by simp [List.getD_eq_getElem?_getD, List.getElem?_eq_getElem hj'])
    simp only [List.getD_cons_zero, List.getD_cons_succ]; omega
  | a :: p, h, i + 1, j + 1, hij, hj => by
    have := ascB_get (ascB_tail h) i j (by omega) (by simpa using hj)
    simpa using this
theorem polyOk_of {p : List (Int × Int)} (h : ascB p = true) (hl : p.length ≤ 100000) : PolyOk p :=
  ⟨fun t ht => (ascB_all h t ht).2, hl, ascB_get h, fun i hi => (ascB_all h (p.getD i (0, 0)) (by simp [List.getD_eq_getElem?_getD, List.getElem?_eq_getElem hi])).1⟩
def mulOkB (p q r : List (Int × Int)) : Bool := ascB p && ascB q && decide (p.length ≤ 1000) && decide (q.length ≤ 1000) && decide (0 < p.length) && decide (0 < q.length) && decide (-1048576 ≤ lowE p + lowE q) && decide (highE p + highE q ≤ 1048576) && decide (highE p + highE q - (lowE p + lowE q) < 1048576) &&
  decide (highE p + highE q - (lowE p + lowE q) ≤ 64 + 4 * (p.length : Int) * q.length) && (mulZ p q).all (fun z => decide (-1125899906842624 ≤ z ∧ z ≤ 1125899906842624)) && decide (tmI (lowE p + lowE q) (mulZ p q) = r)
theorem fn_MulD (p q r : List (Int × Int)) (h : mulOkB p q r = true) : Fn Tryd.prog 10 [plA false p, plA false q] (plA false r) := by
  simp only [mulOkB, Bool.and_eq_true, decide_eq_true_eq] at h
  obtain ⟨⟨⟨⟨⟨⟨⟨⟨⟨⟨⟨h1, h2⟩, h3⟩, h4⟩, h5⟩, h6⟩, h7⟩, h8⟩, h9⟩, h10⟩, h11⟩, h12⟩ := h
  have := fn_Mul p q (polyOk_of h1 (by omega)) (polyOk_of h2 (by omega)) h5 h6 h7 h8 h9 h10 (fun z hz => by have := List.all_eq_true.1 h11 z hz; simpa using this)
  rw [h12] at this
  exact this
def addOkB (p q r : List (Int × Int)) : Bool := ascB p && ascB q && decide (p.length ≤ 1000) && decide (q.length ≤ 1000) && cmbOk (mrg addF p q) && decide (nz (mrg addF p q) = r)
theorem fn_AddD (p q r : List (Int × Int)) (h : addOkB p q r = true) : Fn Tryd.prog 16 [plA false p, plA false q] (plA false r) := by
  simp only [addOkB, Bool.and_eq_true, decide_eq_true_eq] at h
  obtain ⟨⟨⟨⟨⟨h1, h2⟩, h3⟩, h4⟩, h5⟩, h6⟩ := h
  have := fn_Add p q (fun t ht => (ascB_all h1 t ht).2) (fun t ht => (ascB_all h2 t ht).2) (by omega) (by omega) h5
  rw [h6] at this
  exact this
end Go.Proofs.YtmfdclbiljpmgaaDoor
