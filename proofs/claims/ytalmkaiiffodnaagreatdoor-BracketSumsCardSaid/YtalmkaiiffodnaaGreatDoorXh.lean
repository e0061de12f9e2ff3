/- Layer 15, the reference: joined, Circles. -/
import Derived.Test.YtalmkaiiffodnaaGreatDoorXl
import Derived.Test.YtalmkaiiffodnaaGreatDoorXg
import Derived.Test.YtalmkaiiffodnaaGreatDoorXb
set_option linter.unusedSimpArgs false
set_option linter.unusedVariables false
namespace Go.Proofs.YtalmkaiiffodnaaGreatDoor
open Go Go.RowKit
set_option maxHeartbeats 8000000
set_option maxRecDepth 100000
theorem fn_joined (h : Int) (b : Bool) (h0 : 0 ≤ h) (h1 : h ≤ 100000) : Fn Tryz.prog 89 [I h, .bool b] (I (jnB b h)) := by
  have t1 := fn_rTurn h 1 h0 h1
  have t2 := fn_rTurn h (-1) h0 h1
  have e : h.tmod 2 = h % 2 := Int.tmod_eq_emod_of_nonneg h0
  unfold jnB
  by_cases hp : h % 2 = 1
  · have b1 : (h % 2 == 1) = true := by simpa using hp
    have b0 : (h % 2 == 0) = false := by rw [beq_eq_false_iff_ne]; omega
    rw [decide_eq_true hp]
    cases b
    · rw [if_neg (by simp)]
      refine Fn.intro [.tmp 4] Tryz.func89 rfl rfl (by decide) (by simp [Tryz.ntmps89]) ?_; rw [Tryz.ntmps89]
      repeat' (first | omega | ((first | refine awC_sound _ _ _ _ ?_ | skip); simp only [go_sem, sevalprocAttr, ↓reduceIte, reduceCtorEq, e, b0, b1]) | (refine gspDI ?_ ?_ <;> (intro _hh; (try simp only [_hh]); revert _hh)) | refine gspLI ?_ ?_ | refine condLI ?_ ?_ | refine gspI ?_ ?_ | refine And.intro ?_ ?_ | with_reducible intro _hh | trivial | (simp only [cl1, cl2, cl3, List.length_cons, List.length_nil, List.length_append]; omega))
      refine ⟨CallB.fn rfl t2 ?_⟩
      repeat' (first | omega | ((first | refine awC_sound _ _ _ _ ?_ | skip); simp only [go_sem, sevalprocAttr, ↓reduceIte, reduceCtorEq]) | (refine gspDI ?_ ?_ <;> (intro _hh; (try simp only [_hh]); revert _hh)) | refine gspLI ?_ ?_ | refine condLI ?_ ?_ | refine gspI ?_ ?_ | refine And.intro ?_ ?_ | with_reducible intro _hh | trivial | (simp only [cl1, cl2, cl3, List.length_cons, List.length_nil, List.length_append]; omega))
    · rw [if_pos rfl]
      refine Fn.intro [.tmp 4] Tryz.func89 rfl rfl (by decide) (by simp [Tryz.ntmps89]) ?_; rw [Tryz.ntmps89]
      repeat' (first | omega | ((first | refine awC_sound _ _ _ _ ?_ | skip); simp only [go_sem, sevalprocAttr, ↓reduceIte, reduceCtorEq, e, b0, b1]) | (refine gspDI ?_ ?_ <;> (intro _hh; (try simp only [_hh]); revert _hh)) | refine gspLI ?_ ?_ | refine condLI ?_ ?_ | refine gspI ?_ ?_ | refine And.intro ?_ ?_ | with_reducible intro _hh | trivial | (simp only [cl1, cl2, cl3, List.length_cons, List.length_nil, List.length_append]; omega))
      refine ⟨CallB.fn rfl t1 ?_⟩
      repeat' (first | omega | ((first | refine awC_sound _ _ _ _ ?_ | skip); simp only [go_sem, sevalprocAttr, ↓reduceIte, reduceCtorEq]) | (refine gspDI ?_ ?_ <;> (intro _hh; (try simp only [_hh]); revert _hh)) | refine gspLI ?_ ?_ | refine condLI ?_ ?_ | refine gspI ?_ ?_ | refine And.intro ?_ ?_ | with_reducible intro _hh | trivial | (simp only [cl1, cl2, cl3, List.length_cons, List.length_nil, List.length_append]; omega))
  · have b1 : (h % 2 == 1) = false := by rw [beq_eq_false_iff_ne]; exact hp
    have b0 : (h % 2 == 0) = true := by rw [beq_iff_eq]; omega
    rw [decide_eq_false hp]
    cases b
    · rw [if_pos rfl]
      refine Fn.intro [.tmp 4] Tryz.func89 rfl rfl (by decide) (by simp [Tryz.ntmps89]) ?_; rw [Tryz.ntmps89]
      repeat' (first | omega | ((first | refine awC_sound _ _ _ _ ?_ | skip); simp only [go_sem, sevalprocAttr, ↓reduceIte, reduceCtorEq, e, b0, b1]) | (refine gspDI ?_ ?_ <;> (intro _hh; (try simp only [_hh]); revert _hh)) | refine gspLI ?_ ?_ | refine condLI ?_ ?_ | refine gspI ?_ ?_ | refine And.intro ?_ ?_ | with_reducible intro _hh | trivial | (simp only [cl1, cl2, cl3, List.length_cons, List.length_nil, List.length_append]; omega))
      refine ⟨CallB.fn rfl t1 ?_⟩
      repeat' (first | omega | ((first | refine awC_sound _ _ _ _ ?_ | skip); simp only [go_sem, sevalprocAttr, ↓reduceIte, reduceCtorEq]) | (refine gspDI ?_ ?_ <;> (intro _hh; (try simp only [_hh]); revert _hh)) | refine gspLI ?_ ?_ | refine condLI ?_ ?_ | refine gspI ?_ ?_ | refine And.intro ?_ ?_ | with_reducible intro _hh | trivial | (simp only [cl1, cl2, cl3, List.length_cons, List.length_nil, List.length_append]; omega))
    · rw [if_neg (by simp)]
      refine Fn.intro [.tmp 4] Tryz.func89 rfl rfl (by decide) (by simp [Tryz.ntmps89]) ?_; rw [Tryz.ntmps89]
      repeat' (first | omega | ((first | refine awC_sound _ _ _ _ ?_ | skip); simp only [go_sem, sevalprocAttr, ↓reduceIte, reduceCtorEq, e, b0, b1]) | (refine gspDI ?_ ?_ <;> (intro _hh; (try simp only [_hh]); revert _hh)) | refine gspLI ?_ ?_ | refine condLI ?_ ?_ | refine gspI ?_ ?_ | refine And.intro ?_ ?_ | with_reducible intro _hh | trivial | (simp only [cl1, cl2, cl3, List.length_cons, List.length_nil, List.length_append]; omega))
      refine ⟨CallB.fn rfl t2 ?_⟩
      repeat' (first | omega | ((first | refine awC_sound _ _ _ _ ?_ | skip); simp only [go_sem, sevalprocAttr, ↓reduceIte, reduceCtorEq]) | (refine gspDI ?_ ?_ <;> (intro _hh; (try simp only [_hh]); revert _hh)) | refine gspLI ?_ ?_ | refine condLI ?_ ?_ | refine gspI ?_ ?_ | refine And.intro ?_ ?_ | with_reducible intro _hh | trivial | (simp only [cl1, cl2, cl3, List.length_cons, List.length_nil, List.length_append]; omega))
abbrev mtF (m : List Int) (x : Int) : Int := m.getD x.toNat 0
abbrev jnF (st : List Bool) (x : Int) : Int := jnB (st.getD (x / 4).toNat false) x
def ngR (N k : Nat) : List Int := (List.range N).map fun x => if x < k then (-1 : Int) else 0
theorem ngR_len (N k : Nat) : (ngR N k).length = N := by simp [ngR]
theorem ngR_0 (N : Nat) : ngR N 0 = List.replicate N 0 := by
  apply List.ext_getElem?
  intro i
  by_cases h : i < N <;> simp [ngR, h]
theorem ngR_set (N k : Nat) (h : k < N) : (ngR N k).set k (-1) = ngR N (k + 1) := by
  apply List.ext_getElem?
  intro i
  rw [List.getElem?_set, ngR_len]
  by_cases e : k = i
  · subst e; simp [ngR, h]
  · rw [if_neg e]
    by_cases hi : i < N
    · simp only [ngR, List.getElem?_map, List.getElem?_range hi, Option.map_some]
      by_cases h2 : i < k
      · rw [if_pos h2, if_pos (by omega)]
      · rw [if_neg h2, if_neg (by omega)]
    · simp [ngR, hi]
theorem ngR_full (N : Nat) : ngR N N = List.replicate N (-1) := by
  apply List.ext_getElem?
  intro i
  by_cases h : i < N <;> simp [ngR, h]
theorem crW_len (mt jn : Int → Int) (h : Int) : ∀ f out g, (crW mt jn h f out g).length = out.length
  | 0, _, _ => rfl
  | f + 1, out, g => by
    simp only [crW]; split
    · rw [crW_len]; simp
    · rfl
theorem crN_len (mt jn : Int → Int) (N : Nat) : ∀ k, (crN mt jn N k).length = N
  | 0 => by simp [crN]
  | k + 1 => by
    simp only [crN]; split
    · exact crN_len mt jn N k
    · rw [crW_len]; exact crN_len mt jn N k
theorem negs_set_le (l : List Int) (i : Nat) (h : Int) (h0 : 0 ≤ h) : negs (l.set i h) ≤ negs l := by
  unfold negs
  induction l generalizing i with
  | nil => simp
  | cons x l ih =>
    cases i with
    | zero =>
      simp only [List.set_cons_zero, List.countP_cons, decide_eq_true_eq]
      rw [if_neg (show ¬ h < 0 by omega)]; omega
    | succ i =>
      simp only [List.set_cons_succ, List.countP_cons]
      have := ih i
      omega
theorem fn_Circles (s m : List Int) (L : Int) (st : List Bool) (hs : s.length ≤ 1000) (hm : mateOk m s.length) (hst : st.length = s.length) :
    Fn Tryz.prog 69 [dgA s m L, roB st] (roI (crN (mtF m) (jnF st) m.length m.length)) := by
  have hml := hm.1
  refine Fn.introL [.tmp 4] Tryz.func69 rfl rfl (by decide) (by simp [Tryz.ntmps69]) ?_; rw [Tryz.ntmps69]
  repeat' (first | omega | ((first | refine awC_sound _ _ _ _ ?_ | skip); simp only [go_sem, sevalprocAttr, ↓reduceIte, reduceCtorEq]) | (refine gspDI ?_ ?_ <;> (intro _hh; (try simp only [_hh]); revert _hh)) | refine gspLI ?_ ?_ | refine condLI ?_ ?_ | refine gspI ?_ ?_ | refine And.intro ?_ ?_ | with_reducible intro _hh | trivial | (simp only [cl1, cl2, cl3, List.length_cons, List.length_nil, List.length_append]; omega))
  refine LoopA.intro (fun n fr H => ∃ k : Nat, k ≤ m.length ∧ n = m.length - k ∧ fr = [(6, I k), (5, .sl 1 1 0 m.length), (2, .ptr 0 0), (1, roB st)] ∧ H = [(1, .cells 3 (.ints (ngR m.length k))), (0, .cells 24 (.lst [roI s, roI m, I L]))]) ?_ ?_
  · refine ⟨_, _, _, ?_, 0, by omega, rfl, rfl, rfl⟩
    rw [ngR_0]
    refine Wk.sub ?_ ?_ <;> simp only [go_sem, sevalprocAttr, ↓reduceIte, reduceCtorEq]
    all_goals simp_all
  rintro n fr H ⟨k, hk, rfl, rfl, rfl⟩
  have il := ngR_len m.length k
  by_cases hkl : k < m.length
  · repeat' (first | omega | ((first | refine awC_sound _ _ _ _ ?_ | skip); simp only [go_sem, sevalprocAttr, ↓reduceIte, reduceCtorEq]) | (refine gspDI ?_ ?_ <;> (intro _hh; (try simp only [_hh]); revert _hh)) | refine gspLI ?_ ?_ | refine condLI ?_ ?_ | refine gspI ?_ ?_ | refine And.intro ?_ ?_ | with_reducible intro _hh | trivial | (simp only [cl1, cl2, cl3, List.length_cons, List.length_nil, List.length_append]; omega))
    rw [ngR_set m.length k hkl]
    refine ⟨_, _, _, ?_, ?_, ⟨k + 1, by omega, rfl, rfl, rfl⟩⟩
    · omega
    · refine Wk.sub ?_ ?_ <;> simp only [go_sem, sevalprocAttr, ↓reduceIte, reduceCtorEq]
      all_goals simp_all
  obtain rfl : k = m.length := by omega
  repeat' (first | omega | ((first | refine awC_sound _ _ _ _ ?_ | skip); simp only [go_sem, sevalprocAttr, ↓reduceIte, reduceCtorEq]) | (refine gspDI ?_ ?_ <;> (intro _hh; (try simp only [_hh]); revert _hh)) | refine gspLI ?_ ?_ | refine condLI ?_ ?_ | refine gspI ?_ ?_ | refine And.intro ?_ ?_ | with_reducible intro _hh | trivial | (simp only [cl1, cl2, cl3, List.length_cons, List.length_nil, List.length_append]; omega))
  refine LoopA.intro (fun n fr H => ∃ k : Nat, k ≤ m.length ∧ n = m.length - k ∧ fr = [(7, I k), (5, .sl 1 1 0 m.length), (2, .ptr 0 0), (1, roB st)] ∧ H = [(1, .cells 3 (.ints (crN (mtF m) (jnF st) m.length k))), (0, .cells 24 (.lst [roI s, roI m, I L]))]) ?_ ?_
  · refine ⟨_, _, _, ?_, 0, by omega, rfl, rfl, rfl⟩
    rw [ngR_full]
    refine Wk.sub ?_ ?_ <;> simp only [go_sem, sevalprocAttr, ↓reduceIte, reduceCtorEq]
    all_goals simp_all [crN]
  clear hk il hkl
  rintro n fr H ⟨k, hk, rfl, rfl, rfl⟩
  have cl := crN_len (mtF m) (jnF st) m.length k
  by_cases hkl : k < m.length
  · by_cases hpos : 0 ≤ (crN (mtF m) (jnF st) m.length k).getD k 0
    · have b0 : decide (0 ≤ (crN (mtF m) (jnF st) m.length k).getD k 0) = true := by simpa using hpos
      have eC : crN (mtF m) (jnF st) m.length (k + 1) = crN (mtF m) (jnF st) m.length k := by simp only [crN, if_pos hpos]
      repeat' (first | omega | ((first | refine awC_sound _ _ _ _ ?_ | skip); simp only [go_sem, sevalprocAttr, ↓reduceIte, reduceCtorEq, b0]) | (refine gspDI ?_ ?_ <;> (intro _hh; (try simp only [_hh]); revert _hh)) | refine gspLI ?_ ?_ | refine condLI ?_ ?_ | refine gspI ?_ ?_ | refine And.intro ?_ ?_ | with_reducible intro _hh | trivial | (simp only [cl1, cl2, cl3, List.length_cons, List.length_nil, List.length_append]; omega))
      refine ⟨_, _, _, ?_, ?_, ⟨k + 1, by omega, rfl, rfl, rfl⟩⟩
      · omega
      · rw [eC]
        refine Wk.sub ?_ ?_ <;> simp only [go_sem, sevalprocAttr, ↓reduceIte, reduceCtorEq]
        all_goals simp_all
    · have b0 : decide (0 ≤ (crN (mtF m) (jnF st) m.length k).getD k 0) = false := by simpa using hpos
      have eC : crN (mtF m) (jnF st) m.length (k + 1) = crW (mtF m) (jnF st) k (m.length + 1) (crN (mtF m) (jnF st) m.length k) k := by simp only [crN, if_neg hpos]
      generalize crN (mtF m) (jnF st) m.length k = C at *
      have hng := negs_le C
      repeat' (first | omega | ((first | refine awC_sound _ _ _ _ ?_ | skip); simp only [go_sem, sevalprocAttr, ↓reduceIte, reduceCtorEq, b0]) | (refine gspDI ?_ ?_ <;> (intro _hh; (try simp only [_hh]); revert _hh)) | refine gspLI ?_ ?_ | refine condLI ?_ ?_ | refine gspI ?_ ?_ | refine And.intro ?_ ?_ | with_reducible intro _hh | trivial | (simp only [cl1, cl2, cl3, List.length_cons, List.length_nil, List.length_append]; omega))
      refine LoopA.intro (fun n fr H => ∃ (out : List Int) (g f : Nat), out.length = m.length ∧ g < m.length ∧ n = negs out ∧ negs out < f ∧ crW (mtF m) (jnF st) k f out g = crN (mtF m) (jnF st) m.length (k + 1) ∧ fr = [(8, I g), (7, I k), (5, .sl 1 1 0 m.length), (2, .ptr 0 0), (1, roB st)] ∧ H = [(1, .cells 3 (.ints out)), (0, .cells 24 (.lst [roI s, roI m, I L]))]) ?_ ?_
      · refine ⟨_, _, _, ?_, C, k, m.length + 1, cl, hkl, rfl, by omega, eC.symm, rfl, rfl⟩
        refine Wk.sub ?_ ?_ <;> simp only [go_sem, sevalprocAttr, ↓reduceIte, reduceCtorEq]
        all_goals simp_all
      rintro n fr H ⟨out, g, f, ol, hg, rfl, hf, hW, rfl, rfl⟩
      obtain ⟨f, rfl⟩ : ∃ f', f = f' + 1 := ⟨f - 1, by omega⟩
      by_cases hneg : out.getD g 0 < 0
      · have b1 : decide (out.getD g 0 < 0) = true := by simpa using hneg
        have hmr := hm.2 g (by omega)
        obtain ⟨y, hy⟩ : ∃ y : Nat, m.getD g 0 = y := ⟨(m.getD g 0).toNat, by omega⟩
        rw [hy] at hmr
        have hq : ((y : Int)).tdiv 4 = ((y / 4 : Nat) : Int) := by rw [tdiv_nn (by omega)]; omega
        have hJ := fn_joined y (st.getD (y / 4) false) (by omega) (by omega)
        have hjd := jnB_div (st.getD (y / 4) false) y
        obtain ⟨z, hzz⟩ : ∃ z : Nat, jnB (st.getD (y / 4) false) y = z := ⟨(jnB (st.getD (y / 4) false) y).toNat, by omega⟩
        rw [hzz] at hJ hjd
        have hW2 : crW (mtF m) (jnF st) k (f + 1) out g = crW (mtF m) (jnF st) k f ((out.set g k).set y k) z := by
          have e1 : mtF m g = y := by simp only [mtF, Int.toNat_natCast]; exact hy
          have e2 : jnF st (y : Int) = z := by simp only [jnF]; rw [show ((y : Int) / 4).toNat = y / 4 by omega]; exact hzz
          simp only [crW, Int.toNat_natCast]
          rw [if_pos hneg, e1, e2, Int.toNat_natCast]
        rw [hW2] at hW
        have hs1 := negs_set (l := out) (i := g) (p := (k : Int)) (by omega) hneg (by omega)
        have hs2 := negs_set_le (out.set g k) y k (by omega)
        repeat' (first | omega | ((first | refine awC_sound _ _ _ _ ?_ | skip); simp only [go_sem, sevalprocAttr, ↓reduceIte, reduceCtorEq, b1, hy, hq]) | (refine gspDI ?_ ?_ <;> (intro _hh; (try simp only [_hh]); revert _hh)) | refine gspLI ?_ ?_ | refine condLI ?_ ?_ | refine gspI ?_ ?_ | refine And.intro ?_ ?_ | with_reducible intro _hh | trivial | (simp only [cl1, cl2, cl3, List.length_cons, List.length_nil, List.length_append]; omega))
        refine ⟨CallB.fn rfl hJ ?_⟩
        repeat' (first | omega | ((first | refine awC_sound _ _ _ _ ?_ | skip); simp only [go_sem, sevalprocAttr, ↓reduceIte, reduceCtorEq]) | (refine gspDI ?_ ?_ <;> (intro _hh; (try simp only [_hh]); revert _hh)) | refine gspLI ?_ ?_ | refine condLI ?_ ?_ | refine gspI ?_ ?_ | refine And.intro ?_ ?_ | with_reducible intro _hh | trivial | (simp only [cl1, cl2, cl3, List.length_cons, List.length_nil, List.length_append]; omega))
        refine ⟨_, _, _, ?_, ?_, ⟨(out.set g k).set y k, z, f, by simp [ol], by omega, rfl, by omega, hW, rfl, rfl⟩⟩
        · omega
        · refine Wk.sub ?_ ?_ <;> simp only [go_sem, sevalprocAttr, ↓reduceIte, reduceCtorEq]
          all_goals simp_all
      · have b1 : decide (out.getD g 0 < 0) = false := by simpa using hneg
        have hW2 : crW (mtF m) (jnF st) k (f + 1) out g = out := by
          simp only [crW, Int.toNat_natCast]
          rw [if_neg hneg]
        rw [hW2] at hW
        repeat' (first | omega | ((first | refine awC_sound _ _ _ _ ?_ | skip); simp only [go_sem, sevalprocAttr, ↓reduceIte, reduceCtorEq, b1]) | (refine gspDI ?_ ?_ <;> (intro _hh; (try simp only [_hh]); revert _hh)) | refine gspLI ?_ ?_ | refine condLI ?_ ?_ | refine gspI ?_ ?_ | refine And.intro ?_ ?_ | with_reducible intro _hh | trivial | (simp only [cl1, cl2, cl3, List.length_cons, List.length_nil, List.length_append]; omega))
        refine ⟨_, _, _, ?_, ?_, ⟨k + 1, by omega, rfl, rfl, rfl⟩⟩
        · omega
        · rw [← hW]
          refine Wk.sub ?_ ?_ <;> simp only [go_sem, sevalprocAttr, ↓reduceIte, reduceCtorEq]
          all_goals simp_all
  · obtain rfl : k = m.length := by omega
    repeat' (first | omega | ((first | refine awC_sound _ _ _ _ ?_ | skip); simp only [go_sem, sevalprocAttr, ↓reduceIte, reduceCtorEq]) | (refine gspDI ?_ ?_ <;> (intro _hh; (try simp only [_hh]); revert _hh)) | refine gspLI ?_ ?_ | refine condLI ?_ ?_ | refine gspI ?_ ?_ | refine And.intro ?_ ?_ | with_reducible intro _hh | trivial | (simp only [cl1, cl2, cl3, List.length_cons, List.length_nil, List.length_append]; omega))
    all_goals exact LeA.of (by rw [cl, List.take_of_length_le (by omega)])
end Go.Proofs.YtalmkaiiffodnaaGreatDoor

/- Layer 15, the reference: Loops, Adequate. -/
set_option linter.unusedSimpArgs false
set_option linter.unusedVariables false
namespace Go.Proofs.YtalmkaiiffodnaaGreatDoor
open Go Go.RowKit
set_option maxHeartbeats 8000000
set_option maxRecDepth 100000
def rtN (R : List Int) : Nat → Nat
  | 0 => 0
  | k + 1 => rtN R k + if R.getD k 0 = (k : Int) then 1 else 0
theorem rtN_eq (R : List Int) : ∀ k, rtN R k = (List.range k).countP fun x => R.getD x 0 == (x : Int)
  | 0 => rfl
  | k + 1 => by
    rw [List.range_succ, List.countP_append, ← rtN_eq R k]
    simp only [rtN, List.countP_cons, List.countP_nil, beq_iff_eq]
    omega
theorem rtN_le (R : List Int) : ∀ k, rtN R k ≤ k
  | 0 => Nat.le_refl _
  | k + 1 => by have := rtN_le R k; simp only [rtN]; split <;> omega
theorem fn_rLoops (s m : List Int) (L : Int) (st : List Bool) (hs : s.length ≤ 1000) (hL : 0 ≤ L ∧ L ≤ 1000) (hm : mateOk m s.length) (hst : st.length = s.length) :
    Fn Tryz.prog 40 [dgA s m L, roB st] (I ((roots (crN (mtF m) (jnF st) m.length m.length) : Int) + L)) := by
  have hC := fn_Circles s m L st hs hm hst
  have cl := crN_len (mtF m) (jnF st) m.length m.length
  have hml := hm.1
  have hrt : roots (crN (mtF m) (jnF st) m.length m.length) = rtN (crN (mtF m) (jnF st) m.length m.length) m.length := by rw [rtN_eq, roots, cl]
  rw [hrt]
  generalize crN (mtF m) (jnF st) m.length m.length = R at *
  refine Fn.introL [.tmp 4] Tryz.func40 rfl rfl (by decide) (by simp [Tryz.ntmps40]) ?_; rw [Tryz.ntmps40]
  repeat' (first | omega | ((first | refine awC_sound _ _ _ _ ?_ | skip); simp only [go_sem, sevalprocAttr, ↓reduceIte, reduceCtorEq]) | (refine gspDI ?_ ?_ <;> (intro _hh; (try simp only [_hh]); revert _hh)) | refine gspLI ?_ ?_ | refine condLI ?_ ?_ | refine gspI ?_ ?_ | refine And.intro ?_ ?_ | with_reducible intro _hh | trivial | (simp only [cl1, cl2, cl3, List.length_cons, List.length_nil, List.length_append]; omega))
  refine ⟨CallB.fn rfl hC ?_⟩
  repeat' (first | omega | ((first | refine awC_sound _ _ _ _ ?_ | skip); simp only [go_sem, sevalprocAttr, ↓reduceIte, reduceCtorEq]) | (refine gspDI ?_ ?_ <;> (intro _hh; (try simp only [_hh]); revert _hh)) | refine gspLI ?_ ?_ | refine condLI ?_ ?_ | refine gspI ?_ ?_ | refine And.intro ?_ ?_ | with_reducible intro _hh | trivial | (simp only [cl1, cl2, cl3, List.length_cons, List.length_nil, List.length_append]; omega))
  refine LoopA.intro (fun n fr H => ∃ k : Nat, k ≤ R.length ∧ n = R.length - k ∧ fr = [(7, I k), (6, I ((rtN R k : Int) + L)), (5, roI R)] ∧ H = []) ?_ ?_
  · refine ⟨_, _, _, ?_, 0, by omega, rfl, rfl, rfl⟩
    refine Wk.sub ?_ ?_ <;> simp only [go_sem, sevalprocAttr, ↓reduceIte, reduceCtorEq]
    all_goals simp_all [rtN]
  rintro n fr H ⟨k, hk, rfl, rfl, rfl⟩
  have hle := rtN_le R k
  by_cases hkl : k < R.length
  · by_cases hq : R.getD k 0 = (k : Int)
    · have b0 : (R.getD k 0 == (k : Int)) = true := by simpa using hq
      have e1 : (rtN R k : Int) + L + 1 = (rtN R (k + 1) : Int) + L := by simp only [rtN, if_pos hq]; omega
      repeat' (first | omega | ((first | refine awC_sound _ _ _ _ ?_ | skip); simp only [go_sem, sevalprocAttr, ↓reduceIte, reduceCtorEq, b0, e1]) | (refine gspDI ?_ ?_ <;> (intro _hh; (try simp only [_hh]); revert _hh)) | refine gspLI ?_ ?_ | refine condLI ?_ ?_ | refine gspI ?_ ?_ | refine And.intro ?_ ?_ | with_reducible intro _hh | trivial | (simp only [cl1, cl2, cl3, List.length_cons, List.length_nil, List.length_append]; omega))
      refine ⟨_, _, _, ?_, ?_, ⟨k + 1, by omega, rfl, rfl, rfl⟩⟩
      · omega
      · refine Wk.sub ?_ ?_ <;> simp only [go_sem, sevalprocAttr, ↓reduceIte, reduceCtorEq]
        all_goals simp_all
    · have b0 : (R.getD k 0 == (k : Int)) = false := by rw [beq_eq_false_iff_ne]; exact hq
      have e1 : rtN R (k + 1) = rtN R k := by simp only [rtN, if_neg hq]; rfl
      repeat' (first | omega | ((first | refine awC_sound _ _ _ _ ?_ | skip); simp only [go_sem, sevalprocAttr, ↓reduceIte, reduceCtorEq, b0]) | (refine gspDI ?_ ?_ <;> (intro _hh; (try simp only [_hh]); revert _hh)) | refine gspLI ?_ ?_ | refine condLI ?_ ?_ | refine gspI ?_ ?_ | refine And.intro ?_ ?_ | with_reducible intro _hh | trivial | (simp only [cl1, cl2, cl3, List.length_cons, List.length_nil, List.length_append]; omega))
      refine ⟨_, _, _, ?_, ?_, ⟨k + 1, by omega, rfl, rfl, rfl⟩⟩
      · omega
      · rw [e1]
        refine Wk.sub ?_ ?_ <;> simp only [go_sem, sevalprocAttr, ↓reduceIte, reduceCtorEq]
        all_goals simp_all
  · obtain rfl : k = R.length := by omega
    repeat' (first | omega | ((first | refine awC_sound _ _ _ _ ?_ | skip); simp only [go_sem, sevalprocAttr, ↓reduceIte, reduceCtorEq]) | (refine gspDI ?_ ?_ <;> (intro _hh; (try simp only [_hh]); revert _hh)) | refine gspLI ?_ ?_ | refine condLI ?_ ?_ | refine gspI ?_ ?_ | refine And.intro ?_ ?_ | with_reducible intro _hh | trivial | (simp only [cl1, cl2, cl3, List.length_cons, List.length_nil, List.length_append]; omega))
    all_goals exact LeA.of (by rw [cl])
end Go.Proofs.YtalmkaiiffodnaaGreatDoor

/- The reference of layer 15: the state with a number. -/
set_option linter.unusedSimpArgs false
set_option linter.unusedVariables false
namespace Go.Proofs.YtalmkaiiffodnaaGreatDoor
open Go Go.RowKit
set_option maxHeartbeats 8000000
set_option maxRecDepth 100000
def stR (b N k : Nat) : List Bool := (List.range N).map fun x => if x < k then chB b x else false
theorem stR_len (b N k : Nat) : (stR b N k).length = N := by simp [stR]
theorem stR_0 (b N : Nat) : stR b N 0 = List.replicate N false := by
  apply List.ext_getElem?
  intro i
  by_cases h : i < N <;> simp [stR, h]
theorem stR_set (b N k : Nat) (h : k < N) : (stR b N k).set k (chB b k) = stR b N (k + 1) := by
  apply List.ext_getElem?
  intro i
  rw [List.getElem?_set, stR_len]
  by_cases e : k = i
  · subst e; simp [stR, h]
  · rw [if_neg e]
    by_cases hi : i < N
    · simp only [stR, List.getElem?_map, List.getElem?_range hi, Option.map_some]
      by_cases h2 : i < k
      · rw [if_pos h2, if_pos (by omega)]
      · rw [if_neg h2, if_neg (by omega)]
    · simp [stR, hi]
theorem stR_get {b N c : Nat} (h : c < N) : (stR b N N).getD c false = chB b c := by
  simp [stR, List.getD_eq_getElem?_getD, h]
theorem fn_State (n b : Nat) (hn : n ≤ 60) (hb : b ≤ 100000) : Fn Tryz.prog 39 [I n, I b] (roB (stR b n n)) := by
  refine Fn.introL [.tmp 4] Tryz.func39 rfl rfl (by decide) (by simp [Tryz.ntmps39]) ?_; rw [Tryz.ntmps39]
  repeat' (first | omega | ((first | refine awC_sound _ _ _ _ ?_ | skip); simp only [go_sem, sevalprocAttr, ↓reduceIte, reduceCtorEq]) | (refine gspDI ?_ ?_ <;> (intro _hh; (try simp only [_hh]); revert _hh)) | refine gspLI ?_ ?_ | refine condLI ?_ ?_ | refine gspI ?_ ?_ | refine And.intro ?_ ?_ | with_reducible intro _hh | trivial | (simp only [cl1, cl2, cl3, List.length_cons, List.length_nil, List.length_append]; omega))
  refine LoopA.intro (fun t fr H => ∃ k : Nat, k ≤ n ∧ t = n - k ∧ fr = [(6, I k), (5, .sl 1 0 0 n), (1, I b), (0, I n)] ∧ H = [(0, .cells 4 (.bools (stR b n k)))]) ?_ ?_
  · refine ⟨_, _, _, ?_, 0, by omega, rfl, rfl, rfl⟩
    rw [stR_0]
    refine Wk.sub ?_ ?_ <;> simp only [go_sem, sevalprocAttr, ↓reduceIte, reduceCtorEq]
    all_goals simp_all
  rintro t fr H ⟨k, hk, rfl, rfl, rfl⟩
  have il := stR_len b n k
  by_cases hkl : k < n
  · have e0 : (b : Int) / 2 ^ k = ((b / 2 ^ k : Nat) : Int) := by simp
    have hlt : b / 2 ^ k ≤ b := Nat.div_le_self _ _
    have e3 : ((b / 2 ^ k : Nat) : Int).tmod 2 = ((b / 2 ^ k % 2 : Nat) : Int) := by
      generalize b / 2 ^ k = y
      rw [tmod_nn (by omega)]; omega
    have e2 : (((b / 2 ^ k % 2 : Nat) : Int) == 1) = chB b k := by
      unfold chB
      by_cases h : b / 2 ^ k % 2 = 1
      · simp [h]
      · have : ((b / 2 ^ k % 2 : Nat) : Int) ≠ 1 := by omega
        rw [beq_eq_false_iff_ne.2 this, beq_eq_false_iff_ne.2 h]
    have bk : decide ((k : Int) < n) = true := by simp; omega
    repeat' (first | omega | ((first | refine awC_sound _ _ _ _ ?_ | skip); simp only [go_sem, sevalprocAttr, ↓reduceIte, reduceCtorEq, bk, e0, e2, e3, Int.toNat_natCast, il]) | (refine gspDI ?_ ?_ <;> (intro _hh; (try simp only [_hh]); revert _hh)) | refine gspLI ?_ ?_ | refine condLI ?_ ?_ | refine gspI ?_ ?_ | refine And.intro ?_ ?_ | with_reducible intro _hh | trivial | (simp only [cl1, cl2, cl3, List.length_cons, List.length_nil, List.length_append]; omega))
    rw [stR_set b n k hkl]
    refine ⟨_, _, _, ?_, ?_, ⟨k + 1, by omega, rfl, rfl, rfl⟩⟩
    · omega
    · refine Wk.sub ?_ ?_ <;> simp only [go_sem, sevalprocAttr, ↓reduceIte, reduceCtorEq]
      all_goals simp_all
  · obtain rfl : k = n := by omega
    have bk : decide ((k : Int) < k) = false := by simp
    repeat' (first | omega | ((first | refine awC_sound _ _ _ _ ?_ | skip); simp only [go_sem, sevalprocAttr, ↓reduceIte, reduceCtorEq, bk, il]) | (refine gspDI ?_ ?_ <;> (intro _hh; (try simp only [_hh]); revert _hh)) | refine gspLI ?_ ?_ | refine condLI ?_ ?_ | refine gspI ?_ ?_ | refine And.intro ?_ ?_ | with_reducible intro _hh | trivial | (simp only [cl1, cl2, cl3, List.length_cons, List.length_nil, List.length_append]; omega))
    all_goals (rw [List.take_of_length_le (by omega)]; exact LeA.of (by simp [il]))
end Go.Proofs.YtalmkaiiffodnaaGreatDoor
