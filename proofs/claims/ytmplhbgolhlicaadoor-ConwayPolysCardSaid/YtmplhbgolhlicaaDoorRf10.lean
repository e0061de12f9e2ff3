/- The reference of layer 6: smoothing. -/
import Derived.Test.YtmplhbgolhlicaaDoorRf8
import Derived.Test.YtmplhbgolhlicaaDoorMi4
import Derived.Test.YtmplhbgolhlicaaDoorGd
set_option linter.unusedSimpArgs false
set_option linter.unusedVariables false
namespace Go.Proofs.YtmplhbgolhlicaaDoor
open Go Go.RowKit
set_option maxRecDepth 100000
set_option maxHeartbeats 8000000
theorem jn_ff (c : Nat) : jnB false (4 * c) = 4 * c + 1 ∧ jnB false (4 * c + 1) = 4 * c ∧ jnB false (4 * c + 2) = 4 * c + 3 ∧ jnB false (4 * c + 3) = 4 * c + 2 := by
  unfold jnB; simp only [turn1, turnN1]; refine ⟨?_, ?_, ?_, ?_⟩ <;> (split <;> rename_i h <;> simp at h <;> omega)
theorem jn_tt (c : Nat) : jnB true (4 * c) = 4 * c + 3 ∧ jnB true (4 * c + 1) = 4 * c + 2 ∧ jnB true (4 * c + 2) = 4 * c + 1 ∧ jnB true (4 * c + 3) = 4 * c := by
  unfold jnB; simp only [turn1, turnN1]; refine ⟨?_, ?_, ?_, ?_⟩ <;> (split <;> rename_i h <;> simp at h <;> omega)
def snL (c : Nat) (u : Int → Bool) : List Bool := [u (4 * c), u (4 * c + 1), u (4 * c + 2), u (4 * c + 3)]
def thL (c : Nat) (b : Bool) : List Int := [jnB b (4 * c), jnB b (4 * c + 1), jnB b (4 * c + 2), jnB b (4 * c + 3)]
theorem four {c : Nat} {x : Int} (h : x / 4 = c) : x = 4 * c ∨ x = 4 * c + 1 ∨ x = 4 * c + 2 ∨ x = 4 * c + 3 := by omega
theorem mod4 (c : Nat) : ((4 * (c : Int)) % 4).toNat = 0 ∧ ((4 * (c : Int) + 1) % 4).toNat = 1 ∧ ((4 * (c : Int) + 2) % 4).toNat = 2 ∧ ((4 * (c : Int) + 3) % 4).toNat = 3 := by omega
theorem thL_get {c : Nat} {b : Bool} {x : Int} (h : x / 4 = c) : (thL c b).getD (x % 4).toNat 0 = jnB b x := by
  have m := mod4 c
  rcases four h with rfl | rfl | rfl | rfl
  · rw [m.1]; rfl
  · rw [m.2.1]; rfl
  · rw [m.2.2.1]; rfl
  · rw [m.2.2.2]; rfl
theorem snL_get {c : Nat} {u : Int → Bool} {x : Int} (h : x / 4 = c) : (snL c u).getD (x % 4).toNat false = u x := by
  have m := mod4 c
  rcases four h with rfl | rfl | rfl | rfl
  · rw [m.1]; rfl
  · rw [m.2.1]; rfl
  · rw [m.2.2.1]; rfl
  · rw [m.2.2.2]; rfl
theorem snL_set {c : Nat} {u : Int → Bool} {x : Int} (h : x / 4 = c) : (snL c u).set (x % 4).toNat true = snL c (fun z => u z || z == x) := by
  have m := mod4 c
  have d : ∀ i j : Int, (4 * (c : Int) + i == 4 * (c : Int) + j) = (i == j) := fun i j => by
    rw [Bool.eq_iff_iff, beq_iff_eq, beq_iff_eq]; omega
  have d0 : ∀ j : Int, (4 * (c : Int) == 4 * (c : Int) + j) = (0 == j) := fun j => by have := d 0 j; simpa using this
  have d1 : ∀ j : Int, (4 * (c : Int) + j == 4 * (c : Int)) = (j == 0) := fun j => by have := d j 0; simpa using this
  rcases four h with rfl | rfl | rfl | rfl
  · rw [m.1]; simp [snL, d, d0, d1]
  · rw [m.2.1]; simp [snL, d, d0, d1]
  · rw [m.2.2.1]; simp [snL, d, d0, d1]
  · rw [m.2.2.2]; simp [snL, d, d0, d1]
theorem snL_two {c : Nat} {b : Bool} {u : Int → Bool} {x : Int} (h : x / 4 = c) : ((snL c u).set (x % 4).toNat true).set (jnB b x % 4).toNat true = snL c (usd u x (jnB b x)) := by
  rw [snL_set h, snL_set (by rw [jnB_div]; exact h)]
  rfl
theorem snL_len (c : Nat) (u : Int → Bool) : (snL c u).length = 4 := rfl
theorem thL_len (c : Nat) (b : Bool) : (thL c b).length = 4 := rfl
def endT (m : List Int) (b : Bool) (c : Nat) (h : Nat) : Int := if h / 4 = c then 0 else thrX m b c 5 (m.getD h 0)
theorem smE_get {m : List Int} {b : Bool} {c : Nat} : ∀ k h, k ≤ m.length → (smE m b c k).getD h 0 = if h < k ∧ h / 4 ≠ c then thrX m b c 5 (m.getD h 0) else m.getD h 0
  | 0, h, _ => by simp [smE]
  | k + 1, h, hk => by
    have ih := smE_get (m := m) (b := b) (c := c) k h (by omega)
    have hl := smE_len (m := m) (b := b) (c := c) k
    simp only [smE]
    split
    · rename_i e
      rw [ih]
      by_cases e1 : h = k
      · subst e1; simp [e]
      · have : (h < k + 1 ∧ h / 4 ≠ c) ↔ (h < k ∧ h / 4 ≠ c) := by omega
        simp only [this]
    · rename_i e
      by_cases e1 : k = h
      · subst e1
        rw [getD_set_eq (by omega), if_pos ⟨by omega, e⟩]
      · rw [getD_set_ne' e1, ih]
        have : (h < k + 1 ∧ h / 4 ≠ c) ↔ (h < k ∧ h / 4 ≠ c) := by omega
        simp only [this]
theorem woM4_congr {m m' : List Int} {c k : Nat} (h : ∀ x, x < 4 → m.getD (4 * k + x) 0 = m'.getD (4 * k + x) 0) (l : List Int) : ∀ x, x ≤ 4 → woM4 m c k l x = woM4 m' c k l x
  | 0, _ => rfl
  | x + 1, hx => by
    simp only [woM4]
    rw [woM4_congr h l x (by omega)]
    unfold cutM
    rw [h x (by omega)]
theorem woM_congr {m m' : List Int} {c n : Nat} (h : ∀ x, x < 4 * n → x / 4 ≠ c → m.getD x 0 = m'.getD x 0) : ∀ k, k ≤ n → woM m c k = woM m' c k
  | 0, _ => rfl
  | k + 1, hk => by
    simp only [woM]
    rw [woM_congr h k (by omega)]
    split
    · rfl
    · exact woM4_congr (fun x hx => h _ (by omega) (by omega)) _ 4 (by omega)
theorem woM_ends {m : List Int} {b : Bool} {c n : Nat} (hm : m.length = 4 * n) : woM (toL (endT m b c) m.length) c n = woM (smE m b c (4 * n)) c n := by
  refine woM_congr (n := n) (fun x hx hc => ?_) n (Nat.le_refl _)
  rw [toL_get _ _ _ (by omega), smE_get _ _ (by omega), if_pos ⟨hx, hc⟩]
  unfold endT; rw [if_neg hc]
def lpS (m : List Int) (b : Bool) (c : Nat) (u0 : Int → Bool) : Nat → (Int → Bool) × Int
  | 0 => (u0, 0)
  | k + 1 => if (lpS m b c u0 k).1 (4 * c + k) then lpS m b c u0 k else (lpU m b 5 (4 * c + k) (lpS m b c u0 k).1, (lpS m b c u0 k).2 + 1)
theorem lpU_mono {m : List Int} {b : Bool} (f : Nat) : ∀ (x : Int) (u : Int → Bool) (y : Int), u y = true → lpU m b f x u y = true := by
  induction f with
  | zero => intro x u y h; exact h
  | succ f ih =>
    intro x u y h
    unfold lpU
    split
    · exact h
    · exact ih _ _ _ (by simp [usd, h])
theorem lpU_self {m : List Int} {b : Bool} (f : Nat) (x : Int) (u : Int → Bool) : lpU m b (f + 1) x u x = true := by
  unfold lpU
  split
  · assumption
  · exact lpU_mono f _ _ _ (by simp [usd])
theorem lpS_mono {m : List Int} {b : Bool} {c : Nat} {u0 : Int → Bool} : ∀ (k : Nat) (y : Int), u0 y = true → (lpS m b c u0 k).1 y = true
  | 0, _, h => h
  | k + 1, y, h => by
    have := lpS_mono (m := m) (b := b) (c := c) k y h
    simp only [lpS]
    split
    · exact this
    · exact lpU_mono 5 _ _ _ this
theorem lpS_le {m : List Int} {b : Bool} {c : Nat} {u0 : Int → Bool} : ∀ k : Nat, 0 ≤ (lpS m b c u0 k).2 ∧ (lpS m b c u0 k).2 ≤ k
  | 0 => by simp [lpS]
  | k + 1 => by
    have := lpS_le (m := m) (b := b) (c := c) (u0 := u0) k
    simp only [lpS]
    split
    · omega
    · simp only; omega
section
variable {m : List Int} {b : Bool} {c : Nat} {u0 : Int → Bool}
theorem lpS_t {k : Nat} {x : Int} (hx : x = 4 * c + k) (h : (lpS m b c u0 k).1 x = true) : lpS m b c u0 (k + 1) = lpS m b c u0 k := by
  subst hx; simp only [lpS, h, if_true]
theorem lpS_f {k : Nat} {x : Int} (hx : x = 4 * c + k) (h : (lpS m b c u0 k).1 x = false) : lpS m b c u0 (k + 1) = (lpU m b 5 x (lpS m b c u0 k).1, (lpS m b c u0 k).2 + 1) := by
  subst hx; simp only [lpS, h, Bool.false_eq_true, if_false]
theorem lpS_cl (h : jclosed b u0) : ∀ k, jclosed b (lpS m b c u0 k).1
  | 0 => h
  | k + 1 => by
    simp only [lpS]
    split
    · exact lpS_cl h k
    · exact lpU_closed 5 _ _ (lpS_cl h k)
theorem lpS_step {k : Nat} {x : Int} (hx : x = 4 * c + k) : (lpS m b c u0 (k + 1)).1 x = true ∧ (∀ y, (lpS m b c u0 k).1 y = true → (lpS m b c u0 (k + 1)).1 y = true) ∧ (lpS m b c u0 (k + 1)).2 = (lpS m b c u0 k).2 + (if (lpS m b c u0 k).1 x then 0 else 1) := by
  cases h : (lpS m b c u0 k).1 x with
  | true => rw [lpS_t hx h]; simp [h]
  | false =>
    rw [lpS_f hx h]
    exact ⟨lpU_self 4 _ _, fun y hy => lpU_mono 5 _ _ _ hy, by simp⟩
theorem lpS_eq {n : Nat} : (lpS m b c (smU m b c (4 * n)) 4).2 = smL m b c n := by
  have hcl := lpS_cl (m := m) (c := c) (smU_closed (m := m) (b := b) (c := c) (4 * n))
  have h1 := lpS_step (m := m) (b := b) (c := c) (u0 := smU m b c (4 * n)) (k := 0) (x := 4 * c) (by omega)
  have h2 := lpS_step (m := m) (b := b) (c := c) (u0 := smU m b c (4 * n)) (k := 1) (x := 4 * c + 1) (by omega)
  have h3 := lpS_step (m := m) (b := b) (c := c) (u0 := smU m b c (4 * n)) (k := 2) (x := 4 * c + 2) (by omega)
  have h4 := lpS_step (m := m) (b := b) (c := c) (u0 := smU m b c (4 * n)) (k := 3) (x := 4 * c + 3) (by omega)
  have e0 : lpS m b c (smU m b c (4 * n)) 0 = (smU m b c (4 * n), 0) := rfl
  have e1 : (lpS m b c (smU m b c (4 * n)) 1).1 = if smU m b c (4 * n) (4 * c) then smU m b c (4 * n) else lpU m b 5 (4 * c) (smU m b c (4 * n)) := by
    cases h : smU m b c (4 * n) (4 * c) with
    | true => rw [lpS_t (k := 0) (x := 4 * c) (by omega) h]; simp [e0]
    | false => rw [lpS_f (k := 0) (x := 4 * c) (by omega) h]; simp [e0]
  have k2 : (lpS m b c (smU m b c (4 * n)) 1).1 (4 * c + 1) = true → lpS m b c (smU m b c (4 * n)) 2 = lpS m b c (smU m b c (4 * n)) 1 := lpS_t (by omega)
  have c1 := hcl 1
  have c2 := hcl 2
  have c3 := hcl 3
  unfold smL
  simp only
  rw [← e1]
  rw [e0] at h1
  simp only at h1
  rw [h4.2.2, h3.2.2, h2.2.2, h1.2.2]
  generalize lpS m b c (smU m b c (4 * n)) 1 = s1 at *
  generalize lpS m b c (smU m b c (4 * n)) 2 = s2 at *
  generalize lpS m b c (smU m b c (4 * n)) 3 = s3 at *
  cases b with
  | false =>
    have j := jn_ff c
    have a1 : s1.1 (4 * c + 1) = true := by rw [c1, j.2.1]; exact h1.1
    have a3 : s3.1 (4 * c + 3) = true := by rw [c3, j.2.2.2]; exact h3.1
    have a2 : s2.1 (4 * c + 2) = s1.1 (4 * c + 3) := by rw [k2 a1, c1, j.2.2.1]
    rw [a1, a3, a2]
    simp
  | true =>
    have j := jn_tt c
    have a2 : s2.1 (4 * c + 2) = true := by rw [c2, j.2.2.1]; exact h2.1
    have a3 : s3.1 (4 * c + 3) = true := by rw [c3, j.2.2.2]; exact h3.2.1 _ (h2.2.1 _ h1.1)
    rw [a2, a3]
    simp
end
theorem fn_rSmooth (s m : List Int) (L : Int) (c : Nat) (hc : c < s.length) (hL : L ≤ 64) (hv : validB s m L = true) (b : Bool) (hb : (s.getD c 0 == -1) = b) :
    Fn Tryd.prog 18 [dgA s m L, I c] (dgA (woS s c s.length) (woM (smE m b c (4 * s.length)) c s.length) (L + smL m b c s.length)) := by
  have v1 := valid1 hv
  have h64 := v1.s64
  have hl := v1.len
  have hl0 := v1.l0
  have hsg := v1.sg c hc
  have hp := v1.prd
  rw [← woM_ends (m := m) (b := b) (c := c) (n := s.length) hl]
  have hth : (b = true ∧ s.getD c 0 = -1 ∧ thL c b = [4 * (c : Int) + 3, 4 * (c : Int) + 2, 4 * (c : Int) + 1, 4 * (c : Int)]) ∨ (b = false ∧ s.getD c 0 = 1 ∧ thL c b = [4 * (c : Int) + 1, 4 * (c : Int), 4 * (c : Int) + 3, 4 * (c : Int) + 2]) := by
    cases b with
    | true => have j := jn_tt c; exact .inl ⟨rfl, by simpa using hb, by unfold thL; rw [j.1, j.2.1, j.2.2.1, j.2.2.2]⟩
    | false =>
      have j := jn_ff c
      have : s.getD c 0 ≠ -1 := by simpa using hb
      exact .inr ⟨rfl, by omega, by unfold thL; rw [j.1, j.2.1, j.2.2.1, j.2.2.2]⟩
  have q1 : (4 * (c : Int) + 1).tmod 4 = 1 := by rw [tmod_nn (by omega)]; omega
  have q3 : (4 * (c : Int) + 3).tmod 4 = 3 := by rw [tmod_nn (by omega)]; omega
  refine Fn.introL [.cell 4 24] Tryd.func18 rfl rfl (by decide) (by simp [Tryd.ntmps18]) ?_; rw [Tryd.ntmps18]
  rcases hth with ⟨hb1, hs1, ht1⟩ | ⟨hb1, hs1, ht1⟩
  all_goals repeat' (first | omega | ((first | refine awC_sound _ _ _ _ ?_ | (refine DrawA.intro (id := 39) [[154,155,156,157,158,159],[154,155,156,157,158,159],[152,153,156],[152,153,156],[152,153,154,155],[152,153],[152,153],[152,153],[],[],[]] [[],[],[0,1],[0,1],[0,1,2,3],[0,1],[0,1],[0,1],[],[],[]] (by decide +kernel) mixed ?_) | skip); simp only [go_sem, Nat.reduceLT, Nat.reduceLeDiff, Nat.reduceEqDiff, Nat.reduceBEq, Nat.reduceBNe, Nat.reduceAdd, Nat.reduceMul, Nat.reduceSub, Nat.reduceDiv, Nat.reduceMod, Int.reduceToNat, Int.reduceAdd, Int.reduceLT, Int.reduceLE, Int.reduceEq, Int.reduceSub, Int.reduceMul, Int.reduceNeg, ↓reduceIte, reduceCtorEq, hs1, q1, q3]) | (refine gspDI ?_ ?_ <;> (intro _hh; (try simp only [_hh]); revert _hh)) | refine gspLI ?_ ?_ | refine condLI ?_ ?_ | refine gspI ?_ ?_ | refine And.intro ?_ ?_ | with_reducible intro _hh | trivial | (simp only [cl1, cl2, cl3, List.length_cons, List.length_nil, List.length_append]; omega))
  all_goals (
    refine LoopA.intro (fun n fr H => ∃ h : Nat, h ≤ m.length ∧ n = m.length - h ∧ fr = [(11, I h), (10, .sl 1 4 0 4), (9, .sl 1 3 0 m.length), (8, I m.length), (7, .sl 1 2 0 4), (4, .ptr 1 0), (2, .ptr 0 0), (1, I c)] ∧ H = [(4, .cells 4 (.bools (snL c (smU m b c h)))), (3, .cells 3 (.ints (toL (endT m b c) h ++ List.replicate (m.length - h) 0))), (2, .cells 3 (.ints (thL c b))), (1, .cells 24 (.lst [.nils, .nils, I 0])), (0, .cells 24 (.lst [roI s, roI m, I L]))]) ?_ ?_
    · refine ⟨_, _, _, ?_, 0, by omega, rfl, rfl, rfl⟩
      refine Wk.sub ?_ ?_ <;> simp only [go_sem, Nat.reduceLT, Nat.reduceLeDiff, Nat.reduceEqDiff, Nat.reduceBEq, Nat.reduceBNe, Nat.reduceAdd, Nat.reduceMul, Nat.reduceSub, Nat.reduceDiv, Nat.reduceMod, Int.reduceToNat, Int.reduceAdd, Int.reduceLT, Int.reduceLE, Int.reduceEq, Int.reduceSub, Int.reduceMul, Int.reduceNeg, ↓reduceIte, reduceCtorEq]
      all_goals simp [snL, smU, toL, ht1, List.replicate]
    clear ht1 q1 q3 hs1
    rintro n fr H ⟨h, hh, rfl, rfl, rfl⟩
    have htl := toL_len (endT m b c) h
    have thl := thL_len c b
    have bh0 : decide ((h : Int) < m.length) = true ∨ decide ((h : Int) < m.length) = false := by cases decide ((h : Int) < m.length) <;> simp
    by_cases hhl : h < m.length
    · have bh : decide ((h : Int) < m.length) = true := by simp; omega
      have e1 : (h : Int).tdiv 4 = ((h / 4 : Nat) : Int) := by rw [tdiv_nn (by omega)]; omega
      have hmr := hp.ok.2 h (by omega)
      by_cases hhc : h / 4 = c
      · have bc : (((h / 4 : Nat) : Int) == (c : Int)) = true := by rw [hhc]; simp
        have ek := rep_keep (endT m b c) m.length h hhl (by unfold endT; rw [if_pos hhc])
        have eu : smU m b c (h + 1) = smU m b c h := by simp only [smU, hhc, if_true]
        repeat' (first | omega | ((first | refine awC_sound _ _ _ _ ?_ | skip); simp only [go_sem, Nat.reduceLT, Nat.reduceLeDiff, Nat.reduceEqDiff, Nat.reduceBEq, Nat.reduceBNe, Nat.reduceAdd, Nat.reduceMul, Nat.reduceSub, Nat.reduceDiv, Nat.reduceMod, Int.reduceToNat, Int.reduceAdd, Int.reduceLT, Int.reduceLE, Int.reduceEq, Int.reduceSub, Int.reduceMul, Int.reduceNeg, ↓reduceIte, reduceCtorEq, bh, e1, bc]) | (refine gspDI ?_ ?_ <;> (intro _hh; (try simp only [_hh]); revert _hh)) | refine gspLI ?_ ?_ | refine condLI ?_ ?_ | refine gspI ?_ ?_ | refine And.intro ?_ ?_ | with_reducible intro _hh | trivial | (simp only [cl1, cl2, cl3, List.length_cons, List.length_nil, List.length_append]; omega))
        refine ⟨_, _, _, ?_, ?_, ⟨h + 1, by omega, rfl, rfl, rfl⟩⟩
        · omega
        · rw [ek, eu]
          refine Wk.sub ?_ ?_ <;> simp only [go_sem, Nat.reduceLT, Nat.reduceLeDiff, Nat.reduceEqDiff, Nat.reduceBEq, Nat.reduceBNe, Nat.reduceAdd, Nat.reduceMul, Nat.reduceSub, Nat.reduceDiv, Nat.reduceMod, Int.reduceToNat, Int.reduceAdd, Int.reduceLT, Int.reduceLE, Int.reduceEq, Int.reduceSub, Int.reduceMul, Int.reduceNeg, ↓reduceIte, reduceCtorEq]
      · have bc : (((h / 4 : Nat) : Int) == (c : Int)) = false := by simp; omega
        have ho := thrX_out (b := b) hp hc (show h < 4 * s.length by omega) hhc
        have eu : smU m b c (h + 1) = thrU m b c 5 (m.getD h 0) (smU m b c h) := by simp only [smU, hhc, if_false]
        have eT : endT m b c h = thrX m b c 5 (m.getD h 0) := by unfold endT; rw [if_neg hhc]
        have eS := toL_set (endT m b c) m.length h hhl
        repeat' (first | omega | ((first | refine awC_sound _ _ _ _ ?_ | skip); simp only [go_sem, Nat.reduceLT, Nat.reduceLeDiff, Nat.reduceEqDiff, Nat.reduceBEq, Nat.reduceBNe, Nat.reduceAdd, Nat.reduceMul, Nat.reduceSub, Nat.reduceDiv, Nat.reduceMod, Int.reduceToNat, Int.reduceAdd, Int.reduceLT, Int.reduceLE, Int.reduceEq, Int.reduceSub, Int.reduceMul, Int.reduceNeg, ↓reduceIte, reduceCtorEq, bh, e1, bc]) | (refine gspDI ?_ ?_ <;> (intro _hh; (try simp only [_hh]); revert _hh)) | refine gspLI ?_ ?_ | refine condLI ?_ ?_ | refine gspI ?_ ?_ | refine And.intro ?_ ?_ | with_reducible intro _hh | trivial | (simp only [cl1, cl2, cl3, List.length_cons, List.length_nil, List.length_append]; omega))
        refine LoopA.intro (fun f fr H => ∃ (x : Int) (u : Int → Bool), 0 ≤ x ∧ x < 4 * s.length ∧ thrX m b c f x = thrX m b c 5 (m.getD h 0) ∧ thrU m b c f x u = thrU m b c 5 (m.getD h 0) (smU m b c h) ∧ fr = [(12, I x), (11, I h), (10, .sl 1 4 0 4), (9, .sl 1 3 0 m.length), (8, I m.length), (7, .sl 1 2 0 4), (4, .ptr 1 0), (2, .ptr 0 0), (1, I c)] ∧ H = [(4, .cells 4 (.bools (snL c u))), (3, .cells 3 (.ints (toL (endT m b c) h ++ List.replicate (m.length - h) 0))), (2, .cells 3 (.ints (thL c b))), (1, .cells 24 (.lst [.nils, .nils, I 0])), (0, .cells 24 (.lst [roI s, roI m, I L]))]) ?_ ?_
        · refine ⟨5, _, _, ?_, m.getD h 0, smU m b c h, hmr.1, hmr.2, rfl, rfl, rfl, rfl⟩
          refine Wk.sub ?_ ?_ <;> simp only [go_sem, Nat.reduceLT, Nat.reduceLeDiff, Nat.reduceEqDiff, Nat.reduceBEq, Nat.reduceBNe, Nat.reduceAdd, Nat.reduceMul, Nat.reduceSub, Nat.reduceDiv, Nat.reduceMod, Int.reduceToNat, Int.reduceAdd, Int.reduceLT, Int.reduceLE, Int.reduceEq, Int.reduceSub, Int.reduceMul, Int.reduceNeg, ↓reduceIte, reduceCtorEq]
        rintro f fr H ⟨x, u, hx0, hx1, hX, hU, rfl, rfl⟩
        have snl := snL_len c u
        have e2 : x.tdiv 4 = x / 4 := tdiv_nn hx0
        by_cases hxc : x / 4 = c
        · obtain ⟨f', rfl⟩ : ∃ f', f = f' + 1 := by
            cases f with
            | zero => rw [← hX] at ho; exact absurd hxc ho
            | succ f' => exact ⟨f', rfl⟩
          have bx : (x / 4 == (c : Int)) = true := by rw [hxc]; simp
          have e3 : x.tmod 4 = x % 4 := tmod_nn hx0
          have hj0 := jnB_nn b hx0
          have e4 : (jnB b x).tmod 4 = jnB b x % 4 := tmod_nn hj0
          have et := thL_get (b := b) hxc
          have ew := snL_two (b := b) (u := u) hxc
          have hjd := jnB_div b x
          have hmj := hp.ok.2 (jnB b x).toNat (by omega)
          rw [thrX_in hxc] at hX
          rw [thrU_in hxc] at hU
          repeat' (first | omega | ((first | refine awC_sound _ _ _ _ ?_ | skip); simp only [go_sem, Nat.reduceLT, Nat.reduceLeDiff, Nat.reduceEqDiff, Nat.reduceBEq, Nat.reduceBNe, Nat.reduceAdd, Nat.reduceMul, Nat.reduceSub, Nat.reduceDiv, Nat.reduceMod, Int.reduceToNat, Int.reduceAdd, Int.reduceLT, Int.reduceLE, Int.reduceEq, Int.reduceSub, Int.reduceMul, Int.reduceNeg, ↓reduceIte, reduceCtorEq, e2, bx, e3, et, e4, snl, thl]) | (refine gspDI ?_ ?_ <;> (intro _hh; (try simp only [_hh]); revert _hh)) | refine gspLI ?_ ?_ | refine condLI ?_ ?_ | refine gspI ?_ ?_ | refine And.intro ?_ ?_ | with_reducible intro _hh | trivial | (simp only [cl1, cl2, cl3, List.length_cons, List.length_nil, List.length_append]; omega))
          refine ⟨f', _, _, ?_, ?_, ⟨m.getD (jnB b x).toNat 0, usd u x (jnB b x), hmj.1, hmj.2, hX, hU, rfl, rfl⟩⟩
          · omega
          · rw [ew]
            refine Wk.sub ?_ ?_ <;> simp only [go_sem, Nat.reduceLT, Nat.reduceLeDiff, Nat.reduceEqDiff, Nat.reduceBEq, Nat.reduceBNe, Nat.reduceAdd, Nat.reduceMul, Nat.reduceSub, Nat.reduceDiv, Nat.reduceMod, Int.reduceToNat, Int.reduceAdd, Int.reduceLT, Int.reduceLE, Int.reduceEq, Int.reduceSub, Int.reduceMul, Int.reduceNeg, ↓reduceIte, reduceCtorEq]
        · have bx : (x / 4 == (c : Int)) = false := by simpa using hxc
          rw [thrX_ou hxc] at hX
          rw [thrU_ou hxc] at hU
          rw [← hX] at eT
          rw [eT] at eS
          rw [← hU] at eu
          repeat' (first | omega | ((first | refine awC_sound _ _ _ _ ?_ | skip); simp only [go_sem, Nat.reduceLT, Nat.reduceLeDiff, Nat.reduceEqDiff, Nat.reduceBEq, Nat.reduceBNe, Nat.reduceAdd, Nat.reduceMul, Nat.reduceSub, Nat.reduceDiv, Nat.reduceMod, Int.reduceToNat, Int.reduceAdd, Int.reduceLT, Int.reduceLE, Int.reduceEq, Int.reduceSub, Int.reduceMul, Int.reduceNeg, ↓reduceIte, reduceCtorEq, e2, bx, htl]) | (refine gspDI ?_ ?_ <;> (intro _hh; (try simp only [_hh]); revert _hh)) | refine gspLI ?_ ?_ | refine condLI ?_ ?_ | refine gspI ?_ ?_ | refine And.intro ?_ ?_ | with_reducible intro _hh | trivial | (simp only [cl1, cl2, cl3, List.length_cons, List.length_nil, List.length_append]; omega))
          refine ⟨_, _, _, ?_, ?_, ⟨h + 1, by omega, rfl, rfl, rfl⟩⟩
          · omega
          · rw [eS, eu]
            refine Wk.sub ?_ ?_ <;> simp only [go_sem, Nat.reduceLT, Nat.reduceLeDiff, Nat.reduceEqDiff, Nat.reduceBEq, Nat.reduceBNe, Nat.reduceAdd, Nat.reduceMul, Nat.reduceSub, Nat.reduceDiv, Nat.reduceMod, Int.reduceToNat, Int.reduceAdd, Int.reduceLT, Int.reduceLE, Int.reduceEq, Int.reduceSub, Int.reduceMul, Int.reduceNeg, ↓reduceIte, reduceCtorEq]
    · obtain rfl : h = m.length := by omega
      have bh : decide ((m.length : Int) < m.length) = false := by simp
      rw [Nat.sub_self, List.replicate_zero, List.append_nil]
      repeat' (first | omega | ((first | refine awC_sound _ _ _ _ ?_ | skip); simp only [go_sem, Nat.reduceLT, Nat.reduceLeDiff, Nat.reduceEqDiff, Nat.reduceBEq, Nat.reduceBNe, Nat.reduceAdd, Nat.reduceMul, Nat.reduceSub, Nat.reduceDiv, Nat.reduceMod, Int.reduceToNat, Int.reduceAdd, Int.reduceLT, Int.reduceLE, Int.reduceEq, Int.reduceSub, Int.reduceMul, Int.reduceNeg, ↓reduceIte, reduceCtorEq, bh]) | (refine gspDI ?_ ?_ <;> (intro _hh; (try simp only [_hh]); revert _hh)) | refine gspLI ?_ ?_ | refine condLI ?_ ?_ | refine gspI ?_ ?_ | refine And.intro ?_ ?_ | with_reducible intro _hh | trivial | (simp only [cl1, cl2, cl3, List.length_cons, List.length_nil, List.length_append]; omega))
      have hin : ∀ x : Int, x / 4 = c → smU m b c m.length x = false → nxC m b x / 4 = (c : Int) := fun x hx hu => smU_in hp hc hx (by rw [← hl]; exact hu)
      have hle := lpS_eq (m := m) (b := b) (c := c) (n := s.length)
      rw [← hl] at hle
      have hend : ∀ x, x < m.length → x / 4 ≠ c → 0 ≤ (toL (endT m b c) m.length).getD x 0 ∧ (toL (endT m b c) m.length).getD x 0 < 4 * s.length := fun x hx hxc => by
        rw [toL_get _ _ _ hx]
        unfold endT
        rw [if_neg hxc]
        have := thrX_rng (b := b) hp hc 5 (m.getD x 0) (by have := hp.ok.2 x (by omega); unfold InR; omega)
        unfold InR at this; exact this
      generalize toL (endT m b c) m.length = E at *
      generalize smU m b c m.length = u0 at *
      refine LoopA.intro (fun n fr H => ∃ k : Nat, k ≤ 4 ∧ n = 4 - k ∧ fr = [(14, I k), (13, .ptr 5 0), (10, .sl 1 4 0 4), (9, .sl 1 3 0 m.length), (7, .sl 1 2 0 4), (4, .ptr 1 0), (2, .ptr 0 0), (1, I c)] ∧ H = [(5, .cells 24 (.lst [.nils, .nils, I (L + (lpS m b c u0 k).2)])), (4, .cells 4 (.bools (snL c (lpS m b c u0 k).1))), (3, .cells 3 (.ints E)), (2, .cells 3 (.ints (thL c b))), (1, .cells 24 (.lst [.nils, .nils, I 0])), (0, .cells 24 (.lst [roI s, roI m, I L]))]) ?_ ?_
      · refine ⟨_, _, _, ?_, 0, by omega, rfl, rfl, rfl⟩
        refine Wk.sub ?_ ?_ <;> simp only [go_sem, Nat.reduceLT, Nat.reduceLeDiff, Nat.reduceEqDiff, Nat.reduceBEq, Nat.reduceBNe, Nat.reduceAdd, Nat.reduceMul, Nat.reduceSub, Nat.reduceDiv, Nat.reduceMod, Int.reduceToNat, Int.reduceAdd, Int.reduceLT, Int.reduceLE, Int.reduceEq, Int.reduceSub, Int.reduceMul, Int.reduceNeg, ↓reduceIte, reduceCtorEq]
        all_goals simp [lpS]
      rintro n fr H ⟨k, hk, rfl, rfl, rfl⟩
      have hll := lpS_le (m := m) (b := b) (c := c) (u0 := u0) k
      have hsup := lpS_mono (m := m) (b := b) (c := c) (u0 := u0) k
      by_cases hk4 : k < 4
      · have bk : decide ((k : Int) < 4) = true := by simp; omega
        have snl := snL_len c (lpS m b c u0 k).1
        have esn : (snL c (lpS m b c u0 k).1).getD k false = (lpS m b c u0 k).1 (4 * c + k) := by
          have := snL_get (c := c) (u := (lpS m b c u0 k).1) (x := 4 * c + k) (by omega)
          rw [show ((4 * (c : Int) + k) % 4).toNat = k by omega] at this
          exact this
        cases hu : (lpS m b c u0 k).1 (4 * c + k) with
        | true =>
          have et := lpS_t (m := m) (b := b) (c := c) (u0 := u0) (k := k) rfl hu
          rw [hu] at esn
          repeat' (first | omega | ((first | refine awC_sound _ _ _ _ ?_ | skip); simp only [go_sem, Nat.reduceLT, Nat.reduceLeDiff, Nat.reduceEqDiff, Nat.reduceBEq, Nat.reduceBNe, Nat.reduceAdd, Nat.reduceMul, Nat.reduceSub, Nat.reduceDiv, Nat.reduceMod, Int.reduceToNat, Int.reduceAdd, Int.reduceLT, Int.reduceLE, Int.reduceEq, Int.reduceSub, Int.reduceMul, Int.reduceNeg, ↓reduceIte, reduceCtorEq, bk, snl, esn]) | (refine gspDI ?_ ?_ <;> (intro _hh; (try simp only [_hh]); revert _hh)) | refine gspLI ?_ ?_ | refine condLI ?_ ?_ | refine gspI ?_ ?_ | refine And.intro ?_ ?_ | with_reducible intro _hh | trivial | (simp only [cl1, cl2, cl3, List.length_cons, List.length_nil, List.length_append]; omega))
          refine ⟨_, _, _, ?_, ?_, ⟨k + 1, by omega, rfl, rfl, rfl⟩⟩
          · omega
          · rw [et]
            refine Wk.sub ?_ ?_ <;> simp only [go_sem, Nat.reduceLT, Nat.reduceLeDiff, Nat.reduceEqDiff, Nat.reduceBEq, Nat.reduceBNe, Nat.reduceAdd, Nat.reduceMul, Nat.reduceSub, Nat.reduceDiv, Nat.reduceMod, Int.reduceToNat, Int.reduceAdd, Int.reduceLT, Int.reduceLE, Int.reduceEq, Int.reduceSub, Int.reduceMul, Int.reduceNeg, ↓reduceIte, reduceCtorEq]
        | false =>
          have et := lpS_f (m := m) (b := b) (c := c) (u0 := u0) (k := k) rfl hu
          rw [hu] at esn
          generalize (lpS m b c u0 k).2 = l at *
          generalize (lpS m b c u0 k).1 = u at *
          have hfr := free4_le (c := c) u
          repeat' (first | omega | ((first | refine awC_sound _ _ _ _ ?_ | skip); simp only [go_sem, Nat.reduceLT, Nat.reduceLeDiff, Nat.reduceEqDiff, Nat.reduceBEq, Nat.reduceBNe, Nat.reduceAdd, Nat.reduceMul, Nat.reduceSub, Nat.reduceDiv, Nat.reduceMod, Int.reduceToNat, Int.reduceAdd, Int.reduceLT, Int.reduceLE, Int.reduceEq, Int.reduceSub, Int.reduceMul, Int.reduceNeg, ↓reduceIte, reduceCtorEq, bk, snl, esn]) | (refine gspDI ?_ ?_ <;> (intro _hh; (try simp only [_hh]); revert _hh)) | refine gspLI ?_ ?_ | refine condLI ?_ ?_ | refine gspI ?_ ?_ | refine And.intro ?_ ?_ | with_reducible intro _hh | trivial | (simp only [cl1, cl2, cl3, List.length_cons, List.length_nil, List.length_append]; omega))
          refine LoopA.intro (fun f fr H => ∃ (h : Int) (u' : Int → Bool), h / 4 = c ∧ lpU m b f h u' = lpU m b 5 (4 * c + k) u ∧ free4 c u' < f ∧ (∀ y, u0 y = true → u' y = true) ∧
            fr = [(15, I h), (14, I k), (13, .ptr 5 0), (10, .sl 1 4 0 4), (9, .sl 1 3 0 m.length), (7, .sl 1 2 0 4), (4, .ptr 1 0), (2, .ptr 0 0), (1, I c)] ∧ H = [(5, .cells 24 (.lst [.nils, .nils, I (L + l + 1)])), (4, .cells 4 (.bools (snL c u'))), (3, .cells 3 (.ints E)), (2, .cells 3 (.ints (thL c b))), (1, .cells 24 (.lst [.nils, .nils, I 0])), (0, .cells 24 (.lst [roI s, roI m, I L]))]) ?_ ?_
          · refine ⟨5, _, _, ?_, 4 * c + k, u, by omega, rfl, by omega, hsup, rfl, rfl⟩
            refine Wk.sub ?_ ?_ <;> simp only [go_sem, Nat.reduceLT, Nat.reduceLeDiff, Nat.reduceEqDiff, Nat.reduceBEq, Nat.reduceBNe, Nat.reduceAdd, Nat.reduceMul, Nat.reduceSub, Nat.reduceDiv, Nat.reduceMod, Int.reduceToNat, Int.reduceAdd, Int.reduceLT, Int.reduceLE, Int.reduceEq, Int.reduceSub, Int.reduceMul, Int.reduceNeg, ↓reduceIte, reduceCtorEq]
          rintro f fr H ⟨h, u', hhc, hlp, hfr', hsup', rfl, rfl⟩
          have h0 : 0 ≤ h := by omega
          have snl' := snL_len c u'
          have esg := snL_get (u := u') hhc
          have e3 : h.tmod 4 = h % 4 := tmod_nn h0
          cases huh : u' h with
          | true =>
            rw [huh] at esg
            rw [lpU_t huh] at hlp
            rw [← hlp] at et
            repeat' (first | omega | ((first | refine awC_sound _ _ _ _ ?_ | skip); simp only [go_sem, Nat.reduceLT, Nat.reduceLeDiff, Nat.reduceEqDiff, Nat.reduceBEq, Nat.reduceBNe, Nat.reduceAdd, Nat.reduceMul, Nat.reduceSub, Nat.reduceDiv, Nat.reduceMod, Int.reduceToNat, Int.reduceAdd, Int.reduceLT, Int.reduceLE, Int.reduceEq, Int.reduceSub, Int.reduceMul, Int.reduceNeg, ↓reduceIte, reduceCtorEq, e3, snl', esg]) | (refine gspDI ?_ ?_ <;> (intro _hh; (try simp only [_hh]); revert _hh)) | refine gspLI ?_ ?_ | refine condLI ?_ ?_ | refine gspI ?_ ?_ | refine And.intro ?_ ?_ | with_reducible intro _hh | trivial | (simp only [cl1, cl2, cl3, List.length_cons, List.length_nil, List.length_append]; omega))
            refine ⟨_, _, _, ?_, ?_, ⟨k + 1, by omega, rfl, rfl, rfl⟩⟩
            · omega
            · rw [et]
              refine Wk.sub ?_ ?_ <;> simp only [go_sem, Nat.reduceLT, Nat.reduceLeDiff, Nat.reduceEqDiff, Nat.reduceBEq, Nat.reduceBNe, Nat.reduceAdd, Nat.reduceMul, Nat.reduceSub, Nat.reduceDiv, Nat.reduceMod, Int.reduceToNat, Int.reduceAdd, Int.reduceLT, Int.reduceLE, Int.reduceEq, Int.reduceSub, Int.reduceMul, Int.reduceNeg, ↓reduceIte, reduceCtorEq]
              all_goals first | omega | (simp only; omega)
          | false =>
            rw [huh] at esg
            obtain ⟨f', rfl⟩ : ∃ f', f = f' + 1 := ⟨f - 1, by omega⟩
            rw [lpU_f huh] at hlp
            have hf2 := free4_usd (c := c) (u := u') (x := h) (y := jnB b h) hhc huh
            have hu0 : u0 h = false := by
              cases hq : u0 h with
              | false => rfl
              | true => have := hsup' h hq; rw [huh] at this; cases this
            have hnx := hin h hhc hu0
            have hj0 := jnB_nn b h0
            have e4 : (jnB b h).tmod 4 = jnB b h % 4 := tmod_nn hj0
            have eth := thL_get (b := b) hhc
            have ew := snL_two (b := b) (u := u') hhc
            have hjd := jnB_div b h
            repeat' (first | omega | ((first | refine awC_sound _ _ _ _ ?_ | skip); simp only [go_sem, Nat.reduceLT, Nat.reduceLeDiff, Nat.reduceEqDiff, Nat.reduceBEq, Nat.reduceBNe, Nat.reduceAdd, Nat.reduceMul, Nat.reduceSub, Nat.reduceDiv, Nat.reduceMod, Int.reduceToNat, Int.reduceAdd, Int.reduceLT, Int.reduceLE, Int.reduceEq, Int.reduceSub, Int.reduceMul, Int.reduceNeg, ↓reduceIte, reduceCtorEq, e3, snl', esg, eth, e4, thl]) | (refine gspDI ?_ ?_ <;> (intro _hh; (try simp only [_hh]); revert _hh)) | refine gspLI ?_ ?_ | refine condLI ?_ ?_ | refine gspI ?_ ?_ | refine And.intro ?_ ?_ | with_reducible intro _hh | trivial | (simp only [cl1, cl2, cl3, List.length_cons, List.length_nil, List.length_append]; omega))
            refine ⟨f', _, _, ?_, ?_, ⟨nxC m b h, usd u' h (jnB b h), hnx, hlp, by omega, fun y hy => by simp [usd, hsup' y hy], rfl, rfl⟩⟩
            · omega
            · rw [ew]
              refine Wk.sub ?_ ?_ <;> simp only [go_sem, Nat.reduceLT, Nat.reduceLeDiff, Nat.reduceEqDiff, Nat.reduceBEq, Nat.reduceBNe, Nat.reduceAdd, Nat.reduceMul, Nat.reduceSub, Nat.reduceDiv, Nat.reduceMod, Int.reduceToNat, Int.reduceAdd, Int.reduceLT, Int.reduceLE, Int.reduceEq, Int.reduceSub, Int.reduceMul, Int.reduceNeg, ↓reduceIte, reduceCtorEq]
              all_goals rfl
      · obtain rfl : k = 4 := by omega
        have bk : decide (((4 : Nat) : Int) < 4) = false := by decide
        rw [hle]
        rw [hle] at hll
        repeat' (first | omega | ((first | refine awC_sound _ _ _ _ ?_ | skip); simp only [go_sem, Nat.reduceLT, Nat.reduceLeDiff, Nat.reduceEqDiff, Nat.reduceBEq, Nat.reduceBNe, Nat.reduceAdd, Nat.reduceMul, Nat.reduceSub, Nat.reduceDiv, Nat.reduceMod, Int.reduceToNat, Int.reduceAdd, Int.reduceLT, Int.reduceLE, Int.reduceEq, Int.reduceSub, Int.reduceMul, Int.reduceNeg, ↓reduceIte, reduceCtorEq, bk]) | (refine gspDI ?_ ?_ <;> (intro _hh; (try simp only [_hh]); revert _hh)) | refine gspLI ?_ ?_ | refine condLI ?_ ?_ | refine gspI ?_ ?_ | refine And.intro ?_ ?_ | with_reducible intro _hh | trivial | (simp only [cl1, cl2, cl3, List.length_cons, List.length_nil, List.length_append]; omega))
        generalize L + smL m b c s.length = LL at *
        refine LoopA.intro (fun n fr H => ∃ k : Nat, k ≤ s.length ∧ n = s.length - k ∧ fr = [(16, I k), (13, .ptr 5 0), (9, .sl 1 3 0 m.length), (4, .ptr 1 0), (2, .ptr 0 0), (1, I c)] ∧ ((woS s c k = [] ∧ woM E c k = [] ∧ H = [(5, .cells 24 (.lst [.nils, .nils, I LL])), (3, .cells 3 (.ints E)), (1, .cells 24 (.lst [.nils, .nils, I 0])), (0, .cells 24 (.lst [roI s, roI m, I L]))]) ∨ H = [(16, .cells 3 (.ints (woM E c k))), (14, .cells 3 (.ints (woS s c k))), (5, .cells 24 (.lst [.sl 1 14 0 (woS s c k).length, .sl 1 16 0 (woM E c k).length, I LL])), (3, .cells 3 (.ints E)), (1, .cells 24 (.lst [.nils, .nils, I 0])), (0, .cells 24 (.lst [roI s, roI m, I L]))])) ?_ ?_
        · refine ⟨_, _, _, ?_, 0, by omega, rfl, rfl, .inl ⟨rfl, rfl, rfl⟩⟩
          refine Wk.sub ?_ ?_ <;> simp only [go_sem, Nat.reduceLT, Nat.reduceLeDiff, Nat.reduceEqDiff, Nat.reduceBEq, Nat.reduceBNe, Nat.reduceAdd, Nat.reduceMul, Nat.reduceSub, Nat.reduceDiv, Nat.reduceMod, Int.reduceToNat, Int.reduceAdd, Int.reduceLT, Int.reduceLE, Int.reduceEq, Int.reduceSub, Int.reduceMul, Int.reduceNeg, ↓reduceIte, reduceCtorEq]
        rintro n fr H ⟨k, hk, rfl, rfl, hcase⟩
        have wl1 := woS_len s c k
        have wl2 := woM_len E c k
        by_cases hkl : k < s.length
        · have bk : decide ((k : Int) < s.length) = true := by simp; omega
          by_cases hkc : k = c
          · have bc : ((k : Int) != (c : Int)) = false := by rw [hkc]; simp
            have ek : woS s c (k + 1) = woS s c k ∧ woM E c (k + 1) = woM E c k := by simp [woS, woM, hkc]
            rcases hcase with ⟨hn1, hn2, rfl⟩ | rfl
            · repeat' (first | omega | ((first | refine awC_sound _ _ _ _ ?_ | skip); simp only [go_sem, Nat.reduceLT, Nat.reduceLeDiff, Nat.reduceEqDiff, Nat.reduceBEq, Nat.reduceBNe, Nat.reduceAdd, Nat.reduceMul, Nat.reduceSub, Nat.reduceDiv, Nat.reduceMod, Int.reduceToNat, Int.reduceAdd, Int.reduceLT, Int.reduceLE, Int.reduceEq, Int.reduceSub, Int.reduceMul, Int.reduceNeg, ↓reduceIte, reduceCtorEq, bk, bc]) | (refine gspDI ?_ ?_ <;> (intro _hh; (try simp only [_hh]); revert _hh)) | refine gspLI ?_ ?_ | refine condLI ?_ ?_ | refine gspI ?_ ?_ | refine And.intro ?_ ?_ | with_reducible intro _hh | trivial | (simp only [cl1, cl2, cl3, List.length_cons, List.length_nil, List.length_append]; omega))
              refine ⟨_, _, _, ?_, ?_, ⟨k + 1, by omega, rfl, rfl, .inl ⟨by rw [ek.1]; exact hn1, by rw [ek.2]; exact hn2, rfl⟩⟩⟩
              · omega
              · refine Wk.sub ?_ ?_ <;> simp only [go_sem, Nat.reduceLT, Nat.reduceLeDiff, Nat.reduceEqDiff, Nat.reduceBEq, Nat.reduceBNe, Nat.reduceAdd, Nat.reduceMul, Nat.reduceSub, Nat.reduceDiv, Nat.reduceMod, Int.reduceToNat, Int.reduceAdd, Int.reduceLT, Int.reduceLE, Int.reduceEq, Int.reduceSub, Int.reduceMul, Int.reduceNeg, ↓reduceIte, reduceCtorEq]
            · repeat' (first | omega | ((first | refine awC_sound _ _ _ _ ?_ | skip); simp only [go_sem, Nat.reduceLT, Nat.reduceLeDiff, Nat.reduceEqDiff, Nat.reduceBEq, Nat.reduceBNe, Nat.reduceAdd, Nat.reduceMul, Nat.reduceSub, Nat.reduceDiv, Nat.reduceMod, Int.reduceToNat, Int.reduceAdd, Int.reduceLT, Int.reduceLE, Int.reduceEq, Int.reduceSub, Int.reduceMul, Int.reduceNeg, ↓reduceIte, reduceCtorEq, bk, bc]) | (refine gspDI ?_ ?_ <;> (intro _hh; (try simp only [_hh]); revert _hh)) | refine gspLI ?_ ?_ | refine condLI ?_ ?_ | refine gspI ?_ ?_ | refine And.intro ?_ ?_ | with_reducible intro _hh | trivial | (simp only [cl1, cl2, cl3, List.length_cons, List.length_nil, List.length_append]; omega))
              refine ⟨_, _, _, ?_, ?_, ⟨k + 1, by omega, rfl, rfl, .inr rfl⟩⟩
              · omega
              · rw [ek.1, ek.2]
                refine Wk.sub ?_ ?_ <;> simp only [go_sem, Nat.reduceLT, Nat.reduceLeDiff, Nat.reduceEqDiff, Nat.reduceBEq, Nat.reduceBNe, Nat.reduceAdd, Nat.reduceMul, Nat.reduceSub, Nat.reduceDiv, Nat.reduceMod, Int.reduceToNat, Int.reduceAdd, Int.reduceLT, Int.reduceLE, Int.reduceEq, Int.reduceSub, Int.reduceMul, Int.reduceNeg, ↓reduceIte, reduceCtorEq]
          · have bc : ((k : Int) != (c : Int)) = true := by simp; omega
            have ek : woS s c (k + 1) = woS s c k ++ [s.getD k 0] ∧ woM E c (k + 1) = woM4 E c k (woM E c k) 4 := by simp [woS, woM, hkc]
            rcases hcase with ⟨hn1, hn2, rfl⟩ | rfl
            · repeat' (first | omega | ((first | refine awC_sound _ _ _ _ ?_ | (refine DrawA.intro (id := 39) [[154,155,156,157,158,159],[154,155,156,157,158,159],[152,153,156],[152,153,156],[152,153,154,155],[152,153],[152,153],[152,153],[],[],[]] [[],[],[0,1],[0,1],[0,1,2,3],[0,1],[0,1],[0,1],[],[],[]] (by decide +kernel) mixed ?_) | skip); simp only [go_sem, Nat.reduceLT, Nat.reduceLeDiff, Nat.reduceEqDiff, Nat.reduceBEq, Nat.reduceBNe, Nat.reduceAdd, Nat.reduceMul, Nat.reduceSub, Nat.reduceDiv, Nat.reduceMod, Int.reduceToNat, Int.reduceAdd, Int.reduceLT, Int.reduceLE, Int.reduceEq, Int.reduceSub, Int.reduceMul, Int.reduceNeg, ↓reduceIte, reduceCtorEq, bk, bc]) | (refine gspDI ?_ ?_ <;> (intro _hh; (try simp only [_hh]); revert _hh)) | refine gspLI ?_ ?_ | refine condLI ?_ ?_ | refine gspI ?_ ?_ | refine And.intro ?_ ?_ | with_reducible intro _hh | trivial | (simp only [cl1, cl2, cl3, List.length_cons, List.length_nil, List.length_append]; omega))
              refine LoopA.intro (fun j fr H => ∃ x : Nat, x ≤ 4 ∧ j = 4 - x ∧ fr = [(17, I x), (16, I k), (13, .ptr 5 0), (9, .sl 1 3 0 m.length), (4, .ptr 1 0), (2, .ptr 0 0), (1, I c)] ∧ ((x = 0 ∧ woM E c k = [] ∧ H = [(14, .cells 3 (.ints (woS s c k ++ [s.getD k 0]))), (5, .cells 24 (.lst [.sl 1 14 0 (woS s c k ++ [s.getD k 0]).length, .nils, I LL])), (3, .cells 3 (.ints E)), (1, .cells 24 (.lst [.nils, .nils, I 0])), (0, .cells 24 (.lst [roI s, roI m, I L]))]) ∨ H = [(16, .cells 3 (.ints (woM4 E c k (woM E c k) x))), (14, .cells 3 (.ints (woS s c k ++ [s.getD k 0]))), (5, .cells 24 (.lst [.sl 1 14 0 (woS s c k ++ [s.getD k 0]).length, .sl 1 16 0 (woM4 E c k (woM E c k) x).length, I LL])), (3, .cells 3 (.ints E)), (1, .cells 24 (.lst [.nils, .nils, I 0])), (0, .cells 24 (.lst [roI s, roI m, I L]))])) ?_ ?_
              · refine ⟨_, _, _, ?_, 0, by omega, rfl, rfl, .inl ⟨rfl, hn2, rfl⟩⟩
                rw [hn1]
                refine Wk.sub ?_ ?_ <;> simp only [go_sem, Nat.reduceLT, Nat.reduceLeDiff, Nat.reduceEqDiff, Nat.reduceBEq, Nat.reduceBNe, Nat.reduceAdd, Nat.reduceMul, Nat.reduceSub, Nat.reduceDiv, Nat.reduceMod, Int.reduceToNat, Int.reduceAdd, Int.reduceLT, Int.reduceLE, Int.reduceEq, Int.reduceSub, Int.reduceMul, Int.reduceNeg, ↓reduceIte, reduceCtorEq]
              rintro j fr H ⟨x, hx, rfl, rfl, hin2⟩
              have wl4 := woM4_len E c k (woM E c k) x
              have slen : (woS s c k ++ [s.getD k 0]).length = (woS s c k).length + 1 := by simp
              by_cases hx4 : x < 4
              · have bx : decide ((x : Int) < 4) = true := by simp; omega
                have hmr := hend (4 * k + x) (by omega) (by omega)
                have e0 : (4 * (k : Int) + x).toNat = 4 * k + x := by omega
                have e2 : (E.getD (4 * k + x) 0).tdiv 4 = E.getD (4 * k + x) 0 / 4 := tdiv_nn hmr.1
                have eW : woM4 E c k (woM E c k) (x + 1) = woM4 E c k (woM E c k) x ++ [cutM E c (4 * k + x)] := rfl
                rcases hin2 with ⟨rfl, hwn, rfl⟩ | rfl
                · have hmr0 := hend (4 * k) (by omega) (by omega)
                  have e3 : (4 * (k : Int)).toNat = 4 * k := by omega
                  have e4 : (E.getD (4 * k) 0).tdiv 4 = E.getD (4 * k) 0 / 4 := tdiv_nn hmr0.1
                  repeat' (first | omega | ((first | refine awC_sound _ _ _ _ ?_ | skip); simp only [go_sem, Nat.reduceLT, Nat.reduceLeDiff, Nat.reduceEqDiff, Nat.reduceBEq, Nat.reduceBNe, Nat.reduceAdd, Nat.reduceMul, Nat.reduceSub, Nat.reduceDiv, Nat.reduceMod, Int.reduceToNat, Int.reduceAdd, Int.reduceLT, Int.reduceLE, Int.reduceEq, Int.reduceSub, Int.reduceMul, Int.reduceNeg, ↓reduceIte, reduceCtorEq, bx, e3, e4, slen]) | (refine gspDI ?_ ?_ <;> (intro _hh; (try simp only [_hh]); revert _hh)) | refine gspLI ?_ ?_ | refine condLI ?_ ?_ | refine gspI ?_ ?_ | refine And.intro ?_ ?_ | with_reducible intro _hh | trivial | (simp only [cl1, cl2, cl3, List.length_cons, List.length_nil, List.length_append]; omega))
                  · have hcut : cutM E c (4 * k) = E.getD (4 * k) 0 - 4 := by unfold cutM; rw [if_pos (by omega)]
                    have e5 : woM4 E c k (woM E c k) 1 = [E.getD (4 * k) 0 - 4] := by simp only [woM4, hwn, Nat.add_zero, hcut, List.nil_append]
                    refine ⟨_, _, _, ?_, ?_, ⟨1, by omega, rfl, rfl, .inr rfl⟩⟩
                    · omega
                    · refine Wk.sub ?_ ?_ <;> (simp only [go_sem, Nat.reduceLT, Nat.reduceLeDiff, Nat.reduceEqDiff, Nat.reduceBEq, Nat.reduceBNe, Nat.reduceAdd, Nat.reduceMul, Nat.reduceSub, Nat.reduceDiv, Nat.reduceMod, Int.reduceToNat, Int.reduceAdd, Int.reduceLT, Int.reduceLE, Int.reduceEq, Int.reduceSub, Int.reduceMul, Int.reduceNeg, ↓reduceIte, reduceCtorEq, e5])
                  · have hcut : cutM E c (4 * k) = E.getD (4 * k) 0 := by unfold cutM; rw [if_neg (by omega)]
                    have e5 : woM4 E c k (woM E c k) 1 = [E.getD (4 * k) 0] := by simp only [woM4, hwn, Nat.add_zero, hcut, List.nil_append]
                    refine ⟨_, _, _, ?_, ?_, ⟨1, by omega, rfl, rfl, .inr rfl⟩⟩
                    · omega
                    · refine Wk.sub ?_ ?_ <;> (simp only [go_sem, Nat.reduceLT, Nat.reduceLeDiff, Nat.reduceEqDiff, Nat.reduceBEq, Nat.reduceBNe, Nat.reduceAdd, Nat.reduceMul, Nat.reduceSub, Nat.reduceDiv, Nat.reduceMod, Int.reduceToNat, Int.reduceAdd, Int.reduceLT, Int.reduceLE, Int.reduceEq, Int.reduceSub, Int.reduceMul, Int.reduceNeg, ↓reduceIte, reduceCtorEq, e5])
                · repeat' (first | omega | ((first | refine awC_sound _ _ _ _ ?_ | skip); simp only [go_sem, Nat.reduceLT, Nat.reduceLeDiff, Nat.reduceEqDiff, Nat.reduceBEq, Nat.reduceBNe, Nat.reduceAdd, Nat.reduceMul, Nat.reduceSub, Nat.reduceDiv, Nat.reduceMod, Int.reduceToNat, Int.reduceAdd, Int.reduceLT, Int.reduceLE, Int.reduceEq, Int.reduceSub, Int.reduceMul, Int.reduceNeg, ↓reduceIte, reduceCtorEq, bx, e0, e2, slen]) | (refine gspDI ?_ ?_ <;> (intro _hh; (try simp only [_hh]); revert _hh)) | refine gspLI ?_ ?_ | refine condLI ?_ ?_ | refine gspI ?_ ?_ | refine And.intro ?_ ?_ | with_reducible intro _hh | trivial | (simp only [cl1, cl2, cl3, List.length_cons, List.length_nil, List.length_append]; omega))
                  · have hcut : cutM E c (4 * k + x) = E.getD (4 * k + x) 0 - 4 := by unfold cutM; rw [if_pos (by omega)]
                    refine ⟨_, _, _, ?_, ?_, ⟨x + 1, by omega, rfl, rfl, .inr rfl⟩⟩
                    · omega
                    · refine Wk.sub ?_ ?_ <;> (simp only [go_sem, Nat.reduceLT, Nat.reduceLeDiff, Nat.reduceEqDiff, Nat.reduceBEq, Nat.reduceBNe, Nat.reduceAdd, Nat.reduceMul, Nat.reduceSub, Nat.reduceDiv, Nat.reduceMod, Int.reduceToNat, Int.reduceAdd, Int.reduceLT, Int.reduceLE, Int.reduceEq, Int.reduceSub, Int.reduceMul, Int.reduceNeg, ↓reduceIte, reduceCtorEq, eW, hcut, List.length_append])
                  · have hcut : cutM E c (4 * k + x) = E.getD (4 * k + x) 0 := by unfold cutM; rw [if_neg (by omega)]
                    refine ⟨_, _, _, ?_, ?_, ⟨x + 1, by omega, rfl, rfl, .inr rfl⟩⟩
                    · omega
                    · refine Wk.sub ?_ ?_ <;> (simp only [go_sem, Nat.reduceLT, Nat.reduceLeDiff, Nat.reduceEqDiff, Nat.reduceBEq, Nat.reduceBNe, Nat.reduceAdd, Nat.reduceMul, Nat.reduceSub, Nat.reduceDiv, Nat.reduceMod, Int.reduceToNat, Int.reduceAdd, Int.reduceLT, Int.reduceLE, Int.reduceEq, Int.reduceSub, Int.reduceMul, Int.reduceNeg, ↓reduceIte, reduceCtorEq, eW, hcut, List.length_append])
              · obtain rfl : x = 4 := by omega
                have bx : decide (((4 : Nat) : Int) < 4) = false := by decide
                rcases hin2 with ⟨h4, _⟩ | rfl
                · omega
                · repeat' (first | omega | ((first | refine awC_sound _ _ _ _ ?_ | skip); simp only [go_sem, Nat.reduceLT, Nat.reduceLeDiff, Nat.reduceEqDiff, Nat.reduceBEq, Nat.reduceBNe, Nat.reduceAdd, Nat.reduceMul, Nat.reduceSub, Nat.reduceDiv, Nat.reduceMod, Int.reduceToNat, Int.reduceAdd, Int.reduceLT, Int.reduceLE, Int.reduceEq, Int.reduceSub, Int.reduceMul, Int.reduceNeg, ↓reduceIte, reduceCtorEq, bx]) | (refine gspDI ?_ ?_ <;> (intro _hh; (try simp only [_hh]); revert _hh)) | refine gspLI ?_ ?_ | refine condLI ?_ ?_ | refine gspI ?_ ?_ | refine And.intro ?_ ?_ | with_reducible intro _hh | trivial | (simp only [cl1, cl2, cl3, List.length_cons, List.length_nil, List.length_append]; omega))
                  refine ⟨_, _, _, ?_, ?_, ⟨k + 1, by omega, rfl, rfl, .inr rfl⟩⟩
                  · omega
                  · refine Wk.sub ?_ ?_ <;> (simp only [go_sem, Nat.reduceLT, Nat.reduceLeDiff, Nat.reduceEqDiff, Nat.reduceBEq, Nat.reduceBNe, Nat.reduceAdd, Nat.reduceMul, Nat.reduceSub, Nat.reduceDiv, Nat.reduceMod, Int.reduceToNat, Int.reduceAdd, Int.reduceLT, Int.reduceLE, Int.reduceEq, Int.reduceSub, Int.reduceMul, Int.reduceNeg, ↓reduceIte, reduceCtorEq, ek.1, ek.2, List.length_append])
            · repeat' (first | omega | ((first | refine awC_sound _ _ _ _ ?_ | (refine DrawA.intro (id := 39) [[154,155,156,157,158,159],[154,155,156,157,158,159],[152,153,156],[152,153,156],[152,153,154,155],[152,153],[152,153],[152,153],[],[],[]] [[],[],[0,1],[0,1],[0,1,2,3],[0,1],[0,1],[0,1],[],[],[]] (by decide +kernel) mixed ?_) | skip); simp only [go_sem, Nat.reduceLT, Nat.reduceLeDiff, Nat.reduceEqDiff, Nat.reduceBEq, Nat.reduceBNe, Nat.reduceAdd, Nat.reduceMul, Nat.reduceSub, Nat.reduceDiv, Nat.reduceMod, Int.reduceToNat, Int.reduceAdd, Int.reduceLT, Int.reduceLE, Int.reduceEq, Int.reduceSub, Int.reduceMul, Int.reduceNeg, ↓reduceIte, reduceCtorEq, bk, bc]) | (refine gspDI ?_ ?_ <;> (intro _hh; (try simp only [_hh]); revert _hh)) | refine gspLI ?_ ?_ | refine condLI ?_ ?_ | refine gspI ?_ ?_ | refine And.intro ?_ ?_ | with_reducible intro _hh | trivial | (simp only [cl1, cl2, cl3, List.length_cons, List.length_nil, List.length_append]; omega))
              refine LoopA.intro (fun j fr H => ∃ x : Nat, x ≤ 4 ∧ j = 4 - x ∧ fr = [(17, I x), (16, I k), (13, .ptr 5 0), (9, .sl 1 3 0 m.length), (4, .ptr 1 0), (2, .ptr 0 0), (1, I c)] ∧ ((x = 0 ∧ woM E c k = [] ∧ H = [(14, .cells 3 (.ints (woS s c k ++ [s.getD k 0]))), (5, .cells 24 (.lst [.sl 1 14 0 (woS s c k ++ [s.getD k 0]).length, .nils, I LL])), (3, .cells 3 (.ints E)), (1, .cells 24 (.lst [.nils, .nils, I 0])), (0, .cells 24 (.lst [roI s, roI m, I L]))]) ∨ H = [(16, .cells 3 (.ints (woM4 E c k (woM E c k) x))), (14, .cells 3 (.ints (woS s c k ++ [s.getD k 0]))), (5, .cells 24 (.lst [.sl 1 14 0 (woS s c k ++ [s.getD k 0]).length, .sl 1 16 0 (woM4 E c k (woM E c k) x).length, I LL])), (3, .cells 3 (.ints E)), (1, .cells 24 (.lst [.nils, .nils, I 0])), (0, .cells 24 (.lst [roI s, roI m, I L]))])) ?_ ?_
              · refine ⟨_, _, _, ?_, 0, by omega, rfl, rfl, .inr rfl⟩
                rw [show woM4 E c k (woM E c k) 0 = woM E c k from rfl]
                refine Wk.subS 14 25 (fr1 := [(17, I ((0 : Nat) : Int)), (16, I k), (13, .ptr 5 0), (9, .sl 1 3 0 m.length), (4, .ptr 1 0), (2, .ptr 0 0), (1, I c)]) (H1 := [(16, .cells 3 (.ints (woM E c k))), (25, .cells 3 (.ints (woS s c k ++ [s.getD k 0]))), (5, .cells 24 (.lst [.sl 1 25 0 (woS s c k ++ [s.getD k 0]).length, .sl 1 16 0 (woM E c k).length, I LL])), (3, .cells 3 (.ints E)), (1, .cells 24 (.lst [.nils, .nils, I 0])), (0, .cells 24 (.lst [roI s, roI m, I L]))]) rfl rfl rfl rfl ?_ ?_ <;> (simp only [go_sem, Nat.reduceLT, Nat.reduceLeDiff, Nat.reduceEqDiff, Nat.reduceBEq, Nat.reduceBNe, Nat.reduceAdd, Nat.reduceMul, Nat.reduceSub, Nat.reduceDiv, Nat.reduceMod, Int.reduceToNat, Int.reduceAdd, Int.reduceLT, Int.reduceLE, Int.reduceEq, Int.reduceSub, Int.reduceMul, Int.reduceNeg, ↓reduceIte, reduceCtorEq, List.length_append])
              rintro j fr H ⟨x, hx, rfl, rfl, hin2⟩
              have wl4 := woM4_len E c k (woM E c k) x
              have slen : (woS s c k ++ [s.getD k 0]).length = (woS s c k).length + 1 := by simp
              by_cases hx4 : x < 4
              · have bx : decide ((x : Int) < 4) = true := by simp; omega
                have hmr := hend (4 * k + x) (by omega) (by omega)
                have e0 : (4 * (k : Int) + x).toNat = 4 * k + x := by omega
                have e2 : (E.getD (4 * k + x) 0).tdiv 4 = E.getD (4 * k + x) 0 / 4 := tdiv_nn hmr.1
                have eW : woM4 E c k (woM E c k) (x + 1) = woM4 E c k (woM E c k) x ++ [cutM E c (4 * k + x)] := rfl
                rcases hin2 with ⟨rfl, hwn, rfl⟩ | rfl
                · have hmr0 := hend (4 * k) (by omega) (by omega)
                  have e3 : (4 * (k : Int)).toNat = 4 * k := by omega
                  have e4 : (E.getD (4 * k) 0).tdiv 4 = E.getD (4 * k) 0 / 4 := tdiv_nn hmr0.1
                  repeat' (first | omega | ((first | refine awC_sound _ _ _ _ ?_ | skip); simp only [go_sem, Nat.reduceLT, Nat.reduceLeDiff, Nat.reduceEqDiff, Nat.reduceBEq, Nat.reduceBNe, Nat.reduceAdd, Nat.reduceMul, Nat.reduceSub, Nat.reduceDiv, Nat.reduceMod, Int.reduceToNat, Int.reduceAdd, Int.reduceLT, Int.reduceLE, Int.reduceEq, Int.reduceSub, Int.reduceMul, Int.reduceNeg, ↓reduceIte, reduceCtorEq, bx, e3, e4, slen]) | (refine gspDI ?_ ?_ <;> (intro _hh; (try simp only [_hh]); revert _hh)) | refine gspLI ?_ ?_ | refine condLI ?_ ?_ | refine gspI ?_ ?_ | refine And.intro ?_ ?_ | with_reducible intro _hh | trivial | (simp only [cl1, cl2, cl3, List.length_cons, List.length_nil, List.length_append]; omega))
                  · have hcut : cutM E c (4 * k) = E.getD (4 * k) 0 - 4 := by unfold cutM; rw [if_pos (by omega)]
                    have e5 : woM4 E c k (woM E c k) 1 = [E.getD (4 * k) 0 - 4] := by simp only [woM4, hwn, Nat.add_zero, hcut, List.nil_append]
                    refine ⟨_, _, _, ?_, ?_, ⟨1, by omega, rfl, rfl, .inr rfl⟩⟩
                    · omega
                    · refine Wk.sub ?_ ?_ <;> (simp only [go_sem, Nat.reduceLT, Nat.reduceLeDiff, Nat.reduceEqDiff, Nat.reduceBEq, Nat.reduceBNe, Nat.reduceAdd, Nat.reduceMul, Nat.reduceSub, Nat.reduceDiv, Nat.reduceMod, Int.reduceToNat, Int.reduceAdd, Int.reduceLT, Int.reduceLE, Int.reduceEq, Int.reduceSub, Int.reduceMul, Int.reduceNeg, ↓reduceIte, reduceCtorEq, e5])
                  · have hcut : cutM E c (4 * k) = E.getD (4 * k) 0 := by unfold cutM; rw [if_neg (by omega)]
                    have e5 : woM4 E c k (woM E c k) 1 = [E.getD (4 * k) 0] := by simp only [woM4, hwn, Nat.add_zero, hcut, List.nil_append]
                    refine ⟨_, _, _, ?_, ?_, ⟨1, by omega, rfl, rfl, .inr rfl⟩⟩
                    · omega
                    · refine Wk.sub ?_ ?_ <;> (simp only [go_sem, Nat.reduceLT, Nat.reduceLeDiff, Nat.reduceEqDiff, Nat.reduceBEq, Nat.reduceBNe, Nat.reduceAdd, Nat.reduceMul, Nat.reduceSub, Nat.reduceDiv, Nat.reduceMod, Int.reduceToNat, Int.reduceAdd, Int.reduceLT, Int.reduceLE, Int.reduceEq, Int.reduceSub, Int.reduceMul, Int.reduceNeg, ↓reduceIte, reduceCtorEq, e5])
                · repeat' (first | omega | ((first | refine awC_sound _ _ _ _ ?_ | skip); simp only [go_sem, Nat.reduceLT, Nat.reduceLeDiff, Nat.reduceEqDiff, Nat.reduceBEq, Nat.reduceBNe, Nat.reduceAdd, Nat.reduceMul, Nat.reduceSub, Nat.reduceDiv, Nat.reduceMod, Int.reduceToNat, Int.reduceAdd, Int.reduceLT, Int.reduceLE, Int.reduceEq, Int.reduceSub, Int.reduceMul, Int.reduceNeg, ↓reduceIte, reduceCtorEq, bx, e0, e2, slen]) | (refine gspDI ?_ ?_ <;> (intro _hh; (try simp only [_hh]); revert _hh)) | refine gspLI ?_ ?_ | refine condLI ?_ ?_ | refine gspI ?_ ?_ | refine And.intro ?_ ?_ | with_reducible intro _hh | trivial | (simp only [cl1, cl2, cl3, List.length_cons, List.length_nil, List.length_append]; omega))
                  · have hcut : cutM E c (4 * k + x) = E.getD (4 * k + x) 0 - 4 := by unfold cutM; rw [if_pos (by omega)]
                    refine ⟨_, _, _, ?_, ?_, ⟨x + 1, by omega, rfl, rfl, .inr rfl⟩⟩
                    · omega
                    · refine Wk.sub ?_ ?_ <;> (simp only [go_sem, Nat.reduceLT, Nat.reduceLeDiff, Nat.reduceEqDiff, Nat.reduceBEq, Nat.reduceBNe, Nat.reduceAdd, Nat.reduceMul, Nat.reduceSub, Nat.reduceDiv, Nat.reduceMod, Int.reduceToNat, Int.reduceAdd, Int.reduceLT, Int.reduceLE, Int.reduceEq, Int.reduceSub, Int.reduceMul, Int.reduceNeg, ↓reduceIte, reduceCtorEq, eW, hcut, List.length_append])
                  · have hcut : cutM E c (4 * k + x) = E.getD (4 * k + x) 0 := by unfold cutM; rw [if_neg (by omega)]
                    refine ⟨_, _, _, ?_, ?_, ⟨x + 1, by omega, rfl, rfl, .inr rfl⟩⟩
                    · omega
                    · refine Wk.sub ?_ ?_ <;> (simp only [go_sem, Nat.reduceLT, Nat.reduceLeDiff, Nat.reduceEqDiff, Nat.reduceBEq, Nat.reduceBNe, Nat.reduceAdd, Nat.reduceMul, Nat.reduceSub, Nat.reduceDiv, Nat.reduceMod, Int.reduceToNat, Int.reduceAdd, Int.reduceLT, Int.reduceLE, Int.reduceEq, Int.reduceSub, Int.reduceMul, Int.reduceNeg, ↓reduceIte, reduceCtorEq, eW, hcut, List.length_append])
              · obtain rfl : x = 4 := by omega
                have bx : decide (((4 : Nat) : Int) < 4) = false := by decide
                rcases hin2 with ⟨h4, _⟩ | rfl
                · omega
                · repeat' (first | omega | ((first | refine awC_sound _ _ _ _ ?_ | skip); simp only [go_sem, Nat.reduceLT, Nat.reduceLeDiff, Nat.reduceEqDiff, Nat.reduceBEq, Nat.reduceBNe, Nat.reduceAdd, Nat.reduceMul, Nat.reduceSub, Nat.reduceDiv, Nat.reduceMod, Int.reduceToNat, Int.reduceAdd, Int.reduceLT, Int.reduceLE, Int.reduceEq, Int.reduceSub, Int.reduceMul, Int.reduceNeg, ↓reduceIte, reduceCtorEq, bx]) | (refine gspDI ?_ ?_ <;> (intro _hh; (try simp only [_hh]); revert _hh)) | refine gspLI ?_ ?_ | refine condLI ?_ ?_ | refine gspI ?_ ?_ | refine And.intro ?_ ?_ | with_reducible intro _hh | trivial | (simp only [cl1, cl2, cl3, List.length_cons, List.length_nil, List.length_append]; omega))
                  refine ⟨_, _, _, ?_, ?_, ⟨k + 1, by omega, rfl, rfl, .inr rfl⟩⟩
                  · omega
                  · refine Wk.sub ?_ ?_ <;> (simp only [go_sem, Nat.reduceLT, Nat.reduceLeDiff, Nat.reduceEqDiff, Nat.reduceBEq, Nat.reduceBNe, Nat.reduceAdd, Nat.reduceMul, Nat.reduceSub, Nat.reduceDiv, Nat.reduceMod, Int.reduceToNat, Int.reduceAdd, Int.reduceLT, Int.reduceLE, Int.reduceEq, Int.reduceSub, Int.reduceMul, Int.reduceNeg, ↓reduceIte, reduceCtorEq, ek.1, ek.2, List.length_append])
        · obtain rfl : k = s.length := by omega
          have bk : decide ((s.length : Int) < s.length) = false := by simp
          rcases hcase with ⟨hn1, hn2, rfl⟩ | rfl
          · repeat' (first | omega | ((first | refine awC_sound _ _ _ _ ?_ | skip); simp only [go_sem, Nat.reduceLT, Nat.reduceLeDiff, Nat.reduceEqDiff, Nat.reduceBEq, Nat.reduceBNe, Nat.reduceAdd, Nat.reduceMul, Nat.reduceSub, Nat.reduceDiv, Nat.reduceMod, Int.reduceToNat, Int.reduceAdd, Int.reduceLT, Int.reduceLE, Int.reduceEq, Int.reduceSub, Int.reduceMul, Int.reduceNeg, ↓reduceIte, reduceCtorEq, bk]) | (refine gspDI ?_ ?_ <;> (intro _hh; (try simp only [_hh]); revert _hh)) | refine gspLI ?_ ?_ | refine condLI ?_ ?_ | refine gspI ?_ ?_ | refine And.intro ?_ ?_ | with_reducible intro _hh | trivial | (simp only [cl1, cl2, cl3, List.length_cons, List.length_nil, List.length_append]; omega))
            rw [hn1, hn2]
            exact LeA.aggL (.cons (LeA.nils (by omega) rfl) (.cons (LeA.nils (by omega) rfl) (.cons (LeA.refl _) .nil)))
          · repeat' (first | omega | ((first | refine awC_sound _ _ _ _ ?_ | skip); simp only [go_sem, Nat.reduceLT, Nat.reduceLeDiff, Nat.reduceEqDiff, Nat.reduceBEq, Nat.reduceBNe, Nat.reduceAdd, Nat.reduceMul, Nat.reduceSub, Nat.reduceDiv, Nat.reduceMod, Int.reduceToNat, Int.reduceAdd, Int.reduceLT, Int.reduceLE, Int.reduceEq, Int.reduceSub, Int.reduceMul, Int.reduceNeg, ↓reduceIte, reduceCtorEq, bk]) | (refine gspDI ?_ ?_ <;> (intro _hh; (try simp only [_hh]); revert _hh)) | refine gspLI ?_ ?_ | refine condLI ?_ ?_ | refine gspI ?_ ?_ | refine And.intro ?_ ?_ | with_reducible intro _hh | trivial | (simp only [cl1, cl2, cl3, List.length_cons, List.length_nil, List.length_append]; omega))
            exact LeA.of (by rw [List.take_of_length_le (by omega), List.take_of_length_le (by omega)]))
end Go.Proofs.YtmplhbgolhlicaaDoor
