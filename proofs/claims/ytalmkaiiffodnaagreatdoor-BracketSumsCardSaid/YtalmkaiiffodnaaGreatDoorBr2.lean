/- Layer 15: merge: the circles of a state. -/
import Derived.Test.YtalmkaiiffodnaaGreatDoorBr1
set_option linter.unusedSimpArgs false
set_option linter.unusedVariables false
namespace Go.Proofs.YtalmkaiiffodnaaGreatDoor
open Go Go.RowKit
set_option maxRecDepth 100000
set_option maxHeartbeats 8000000
def inR (N k : Nat) : List Int := (List.range N).map fun x => if x < k then (x : Int) else 0
theorem inR_len (N k : Nat) : (inR N k).length = N := by simp [inR]
theorem inR_0 (N : Nat) : inR N 0 = List.replicate N 0 := by
  apply List.ext_getElem?
  intro i
  by_cases h : i < N <;> simp [inR, h]
theorem inR_set (N k : Nat) (h : k < N) : (inR N k).set k (k : Int) = inR N (k + 1) := by
  apply List.ext_getElem?
  intro i
  rw [List.getElem?_set, inR_len]
  by_cases e : k = i
  · subst e; simp [inR, h]
  · rw [if_neg e]
    by_cases hi : i < N
    · simp only [inR, List.getElem?_map, List.getElem?_range hi, Option.map_some]
      by_cases h2 : i < k
      · rw [if_pos h2, if_pos (by omega)]
      · rw [if_neg h2, if_neg (by omega)]
    · simp [inR, hi]
theorem inR_full (N : Nat) : inR N N = (List.range N).map (Nat.cast : Nat → Int) := by
  apply List.ext_getElem?
  intro i
  by_cases h : i < N <;> simp [inR, h]
abbrev jcl : AV := .fn 57 [.ptr 4 0, .ptr 2 0, .ptr 3 0]
theorem fn_merge (s m : List Int) (L : Int) (g : Nat) (cc : List AV) (ch : Nat → Bool) (hs : s.length ≤ 1000) (hm : mateOk m s.length) (hp1 : cc.all p1 = true) (hf : ∀ c : Nat, c < s.length → Fn Tryz.prog g (I c :: cc) (.bool (ch c))) :
    Fn Tryz.prog 24 [dgA s m L, .fn g cc] (.tup [roI (mgB m ch s.length), I (roots (mgB m ch s.length))]) := by
  have hml := hm.1
  refine Fn.introL [.tmp 4, .tmp 5] Tryz.func24 rfl rfl (by decide) (by simp [Tryz.ntmps24]) ?_; rw [Tryz.ntmps24]
  repeat' (first | omega | ((first | refine awC_sound _ _ _ _ ?_ | skip); simp only [go_sem, sevalprocAttr, ↓reduceIte, reduceCtorEq]) | (refine gspDI ?_ ?_ <;> (intro _hh; (try simp only [_hh]); revert _hh)) | refine gspLI ?_ ?_ | refine condLI ?_ ?_ | refine gspI ?_ ?_ | refine And.intro ?_ ?_ | with_reducible intro _hh | trivial | (simp only [cl1, cl2, cl3, List.length_cons, List.length_nil, List.length_append]; omega))
  refine LoopA.intro (fun n fr H => ∃ k : Nat, k ≤ m.length ∧ n = m.length - k ∧ fr = [(21, I k), (20, I m.length), (6, .ptr 2 0), (2, .ptr 0 0), (1, .fn g cc)] ∧ H = [(2, .cells 22 (.lst [.sl 1 1 0 m.length])), (1, .cells 3 (.ints (inR m.length k))), (0, .cells 24 (.lst [roI s, roI m, I L]))]) ?_ ?_
  · refine ⟨_, _, _, ?_, 0, by omega, rfl, rfl, rfl⟩
    rw [inR_0]
    refine Wk.sub ?_ ?_ <;> (simp only [go_sem, sevalprocAttr, ↓reduceIte, reduceCtorEq, pc_s1 hp1, pc_s2 hp1])
    all_goals trace_state
  rintro n fr H ⟨k, hk, rfl, rfl, rfl⟩
  have il := inR_len m.length k
  by_cases hkl : k < m.length
  · repeat' (first | omega | ((first | refine awC_sound _ _ _ _ ?_ | skip); simp only [go_sem, sevalprocAttr, ↓reduceIte, reduceCtorEq]) | (refine gspDI ?_ ?_ <;> (intro _hh; (try simp only [_hh]); revert _hh)) | refine gspLI ?_ ?_ | refine condLI ?_ ?_ | refine gspI ?_ ?_ | refine And.intro ?_ ?_ | with_reducible intro _hh | trivial | (simp only [cl1, cl2, cl3, List.length_cons, List.length_nil, List.length_append]; omega))
    rw [inR_set m.length k hkl]
    refine ⟨_, _, _, ?_, ?_, ⟨k + 1, by omega, rfl, rfl, rfl⟩⟩
    · omega
    · refine Wk.sub ?_ ?_ <;> (simp only [go_sem, sevalprocAttr, ↓reduceIte, reduceCtorEq, pc_s1 hp1, pc_s2 hp1])
      all_goals simp_all
  obtain rfl : k = m.length := by omega
  repeat' (first | omega | ((first | refine awC_sound _ _ _ _ ?_ | skip); simp only [go_sem, sevalprocAttr, ↓reduceIte, reduceCtorEq]) | (refine gspDI ?_ ?_ <;> (intro _hh; (try simp only [_hh]); revert _hh)) | refine gspLI ?_ ?_ | refine condLI ?_ ?_ | refine gspI ?_ ?_ | refine And.intro ?_ ?_ | with_reducible intro _hh | trivial | (simp only [cl1, cl2, cl3, List.length_cons, List.length_nil, List.length_append]; omega))
  refine LoopA.intro (fun n fr H => ∃ (k : Nat) (l : List Int), k ≤ m.length ∧ n = m.length - k ∧ UF l (mgA m k) m.length ∧ fr = [(36, I k), (35, I m.length), (34, roI m), (10, jcl), (9, .ptr 4 0), (8, .ptr 3 0), (6, .ptr 2 0), (2, .ptr 0 0), (1, .fn g cc)] ∧ H = mgH s m L l (roots (mgA m k))) ?_ ?_
  · refine ⟨_, _, _, ?_, 0, inR m.length m.length, by omega, rfl, by rw [inR_full]; exact UF.init _, rfl, rfl⟩
    have h0 : (roots (mgA m 0) : Int) = m.length := by rw [mgA, roots_init]
    refine Wk.sub ?_ ?_ <;> (simp only [go_sem, sevalprocAttr, ↓reduceIte, reduceCtorEq, pc_s1 hp1, pc_s2 hp1, h0])
  rintro n fr H ⟨k, l, hk, rfl, hu, rfl, rfl⟩
  have hul := hu.len
  by_cases hkl : k < m.length
  · have hmr := hm.2 k (by omega)
    by_cases hlt : (k : Int) < m.getD k 0
    · have b0 : decide ((k : Int) < m.getD k 0) = true := by simpa using hlt
      obtain ⟨y, hy⟩ : ∃ y : Nat, m.getD k 0 = y := ⟨(m.getD k 0).toNat, by omega⟩
      have eA : mgA m (k + 1) = joinR (mgA m k) k y := by simp only [mgA, if_pos hlt]; rw [hy, Int.toNat_natCast]
      rw [hy] at b0 hmr
      repeat' (first | omega | ((first | refine awC_sound _ _ _ _ ?_ | skip); simp only [go_sem, sevalprocAttr, ↓reduceIte, reduceCtorEq, b0, hy]) | (refine gspDI ?_ ?_ <;> (intro _hh; (try simp only [_hh]); revert _hh)) | refine gspLI ?_ ?_ | refine condLI ?_ ?_ | refine gspI ?_ ?_ | refine And.intro ?_ ?_ | with_reducible intro _hh | trivial | (simp only [cl1, cl2, cl3, List.length_cons, List.length_nil, List.length_append]; omega))
      refine ⟨CallB.inline (call_join s m L l (mgA m k) _ hu rfl k y hkl (by omega) (by omega) ?_)⟩
      intro l' r hu'
      rw [← eA] at hu' ⊢
      repeat' (first | omega | ((first | refine awC_sound _ _ _ _ ?_ | skip); simp only [go_sem, sevalprocAttr, ↓reduceIte, reduceCtorEq]) | (refine gspDI ?_ ?_ <;> (intro _hh; (try simp only [_hh]); revert _hh)) | refine gspLI ?_ ?_ | refine condLI ?_ ?_ | refine gspI ?_ ?_ | refine And.intro ?_ ?_ | with_reducible intro _hh | trivial | (simp only [cl1, cl2, cl3, List.length_cons, List.length_nil, List.length_append]; omega))
      refine ⟨_, _, _, ?_, ?_, ⟨k + 1, l', by omega, rfl, hu', rfl, rfl⟩⟩
      · omega
      · refine Wk.sub ?_ ?_ <;> (simp only [go_sem, sevalprocAttr, ↓reduceIte, reduceCtorEq, pc_s1 hp1, pc_s2 hp1])
        all_goals simp_all
    · have b0 : decide ((k : Int) < m.getD k 0) = false := by simpa using hlt
      have eA : mgA m (k + 1) = mgA m k := by simp only [mgA, if_neg hlt]
      repeat' (first | omega | ((first | refine awC_sound _ _ _ _ ?_ | skip); simp only [go_sem, sevalprocAttr, ↓reduceIte, reduceCtorEq, b0]) | (refine gspDI ?_ ?_ <;> (intro _hh; (try simp only [_hh]); revert _hh)) | refine gspLI ?_ ?_ | refine condLI ?_ ?_ | refine gspI ?_ ?_ | refine And.intro ?_ ?_ | with_reducible intro _hh | trivial | (simp only [cl1, cl2, cl3, List.length_cons, List.length_nil, List.length_append]; omega))
      refine ⟨_, _, _, ?_, ?_, ⟨k + 1, l, by omega, rfl, by rw [eA]; exact hu, rfl, rfl⟩⟩
      · omega
      · refine Wk.sub ?_ ?_ <;> (simp only [go_sem, sevalprocAttr, ↓reduceIte, reduceCtorEq, pc_s1 hp1, pc_s2 hp1, eA])
        all_goals simp_all
  obtain rfl : k = m.length := by omega
  repeat' (first | omega | ((first | refine awC_sound _ _ _ _ ?_ | skip); simp only [go_sem, sevalprocAttr, ↓reduceIte, reduceCtorEq]) | (refine gspDI ?_ ?_ <;> (intro _hh; (try simp only [_hh]); revert _hh)) | refine gspLI ?_ ?_ | refine condLI ?_ ?_ | refine gspI ?_ ?_ | refine And.intro ?_ ?_ | with_reducible intro _hh | trivial | (simp only [cl1, cl2, cl3, List.length_cons, List.length_nil, List.length_append]; omega))
  refine LoopA.intro (fun n fr H => ∃ (k : Nat) (l : List Int), k ≤ s.length ∧ n = s.length - k ∧ UF l (mgB m ch k) m.length ∧ fr = [(52, I k), (51, I s.length), (10, jcl), (9, .ptr 4 0), (8, .ptr 3 0), (6, .ptr 2 0), (2, .ptr 0 0), (1, .fn g cc)] ∧ H = mgH s m L l (roots (mgB m ch k))) ?_ ?_
  · refine ⟨_, _, _, ?_, 0, l, by omega, rfl, hu, rfl, rfl⟩
    refine Wk.sub ?_ ?_ <;> (simp only [go_sem, sevalprocAttr, ↓reduceIte, reduceCtorEq, pc_s1 hp1, pc_s2 hp1])
    all_goals simp_all [mgB]
  clear hu hul hkl hk l
  rintro n fr H ⟨k, l, hk, rfl, hu, rfl, rfl⟩
  have hul := hu.len
  by_cases hkl : k < s.length
  · have hfk := hf k hkl
    have c1 : (4 * (k : Int) + 1) = ((4 * k + 1 : Nat) : Int) := by omega
    have c2 : (4 * (k : Int) + 2) = ((4 * k + 2 : Nat) : Int) := by omega
    have c3 : (4 * (k : Int) + 3) = ((4 * k + 3 : Nat) : Int) := by omega
    have c0 : (4 * (k : Int)) = ((4 * k : Nat) : Int) := by omega
    cases hch : ch k with
    | true =>
      have eB : mgB m ch (k + 1) = joinR (joinR (mgB m ch k) (4 * k + 1) (4 * k + 2)) (4 * k + 3) (4 * k) := by simp only [mgB, hch, if_true]
      rw [hch] at hfk
      repeat' (first | omega | ((first | refine awC_sound _ _ _ _ ?_ | skip); simp only [go_sem, sevalprocAttr, ↓reduceIte, reduceCtorEq]) | (refine gspDI ?_ ?_ <;> (intro _hh; (try simp only [_hh]); revert _hh)) | refine gspLI ?_ ?_ | refine condLI ?_ ?_ | refine gspI ?_ ?_ | refine And.intro ?_ ?_ | with_reducible intro _hh | trivial | (simp only [cl1, cl2, cl3, List.length_cons, List.length_nil, List.length_append]; omega))
      refine ⟨CallB.fn (by simp only [List.all_cons, pc_p3 hp1]; rfl) hfk ?_⟩
      repeat' (first | omega | ((first | refine awC_sound _ _ _ _ ?_ | skip); simp only [go_sem, sevalprocAttr, ↓reduceIte, reduceCtorEq]) | (refine gspDI ?_ ?_ <;> (intro _hh; (try simp only [_hh]); revert _hh)) | refine gspLI ?_ ?_ | refine condLI ?_ ?_ | refine gspI ?_ ?_ | refine And.intro ?_ ?_ | with_reducible intro _hh | trivial | (simp only [cl1, cl2, cl3, List.length_cons, List.length_nil, List.length_append]; omega))
      rw [c1, c2]
      refine ⟨CallB.inline (call_join s m L l (mgB m ch k) _ hu rfl (4 * k + 1) (4 * k + 2) (by omega) (by omega) (by omega) ?_)⟩
      intro l1 r1 hu1
      repeat' (first | omega | ((first | refine awC_sound _ _ _ _ ?_ | skip); simp only [go_sem, sevalprocAttr, ↓reduceIte, reduceCtorEq]) | (refine gspDI ?_ ?_ <;> (intro _hh; (try simp only [_hh]); revert _hh)) | refine gspLI ?_ ?_ | refine condLI ?_ ?_ | refine gspI ?_ ?_ | refine And.intro ?_ ?_ | with_reducible intro _hh | trivial | (simp only [cl1, cl2, cl3, List.length_cons, List.length_nil, List.length_append]; omega))
      rw [c3, c0]
      refine ⟨CallB.inline (call_join s m L l1 _ _ hu1 rfl (4 * k + 3) (4 * k) (by omega) (by omega) (by omega) ?_)⟩
      intro l2 r2 hu2
      rw [← eB] at hu2 ⊢
      repeat' (first | omega | ((first | refine awC_sound _ _ _ _ ?_ | skip); simp only [go_sem, sevalprocAttr, ↓reduceIte, reduceCtorEq]) | (refine gspDI ?_ ?_ <;> (intro _hh; (try simp only [_hh]); revert _hh)) | refine gspLI ?_ ?_ | refine condLI ?_ ?_ | refine gspI ?_ ?_ | refine And.intro ?_ ?_ | with_reducible intro _hh | trivial | (simp only [cl1, cl2, cl3, List.length_cons, List.length_nil, List.length_append]; omega))
      refine ⟨_, _, _, ?_, ?_, ⟨k + 1, l2, by omega, rfl, hu2, rfl, rfl⟩⟩
      · omega
      · refine Wk.sub ?_ ?_ <;> (simp only [go_sem, sevalprocAttr, ↓reduceIte, reduceCtorEq, pc_s1 hp1, pc_s2 hp1])
        all_goals simp_all
    | false =>
      have eB : mgB m ch (k + 1) = joinR (joinR (mgB m ch k) (4 * k) (4 * k + 1)) (4 * k + 2) (4 * k + 3) := by simp only [mgB, hch]; rfl
      rw [hch] at hfk
      repeat' (first | omega | ((first | refine awC_sound _ _ _ _ ?_ | skip); simp only [go_sem, sevalprocAttr, ↓reduceIte, reduceCtorEq]) | (refine gspDI ?_ ?_ <;> (intro _hh; (try simp only [_hh]); revert _hh)) | refine gspLI ?_ ?_ | refine condLI ?_ ?_ | refine gspI ?_ ?_ | refine And.intro ?_ ?_ | with_reducible intro _hh | trivial | (simp only [cl1, cl2, cl3, List.length_cons, List.length_nil, List.length_append]; omega))
      refine ⟨CallB.fn (by simp only [List.all_cons, pc_p3 hp1]; rfl) hfk ?_⟩
      repeat' (first | omega | ((first | refine awC_sound _ _ _ _ ?_ | skip); simp only [go_sem, sevalprocAttr, ↓reduceIte, reduceCtorEq]) | (refine gspDI ?_ ?_ <;> (intro _hh; (try simp only [_hh]); revert _hh)) | refine gspLI ?_ ?_ | refine condLI ?_ ?_ | refine gspI ?_ ?_ | refine And.intro ?_ ?_ | with_reducible intro _hh | trivial | (simp only [cl1, cl2, cl3, List.length_cons, List.length_nil, List.length_append]; omega))
      rw [c1, c0]
      refine ⟨CallB.inline (call_join s m L l (mgB m ch k) _ hu rfl (4 * k) (4 * k + 1) (by omega) (by omega) (by omega) ?_)⟩
      intro l1 r1 hu1
      repeat' (first | omega | ((first | refine awC_sound _ _ _ _ ?_ | skip); simp only [go_sem, sevalprocAttr, ↓reduceIte, reduceCtorEq]) | (refine gspDI ?_ ?_ <;> (intro _hh; (try simp only [_hh]); revert _hh)) | refine gspLI ?_ ?_ | refine condLI ?_ ?_ | refine gspI ?_ ?_ | refine And.intro ?_ ?_ | with_reducible intro _hh | trivial | (simp only [cl1, cl2, cl3, List.length_cons, List.length_nil, List.length_append]; omega))
      rw [c2, c3]
      refine ⟨CallB.inline (call_join s m L l1 _ _ hu1 rfl (4 * k + 2) (4 * k + 3) (by omega) (by omega) (by omega) ?_)⟩
      intro l2 r2 hu2
      rw [← eB] at hu2 ⊢
      repeat' (first | omega | ((first | refine awC_sound _ _ _ _ ?_ | skip); simp only [go_sem, sevalprocAttr, ↓reduceIte, reduceCtorEq]) | (refine gspDI ?_ ?_ <;> (intro _hh; (try simp only [_hh]); revert _hh)) | refine gspLI ?_ ?_ | refine condLI ?_ ?_ | refine gspI ?_ ?_ | refine And.intro ?_ ?_ | with_reducible intro _hh | trivial | (simp only [cl1, cl2, cl3, List.length_cons, List.length_nil, List.length_append]; omega))
      refine ⟨_, _, _, ?_, ?_, ⟨k + 1, l2, by omega, rfl, hu2, rfl, rfl⟩⟩
      · omega
      · refine Wk.sub ?_ ?_ <;> (simp only [go_sem, sevalprocAttr, ↓reduceIte, reduceCtorEq, pc_s1 hp1, pc_s2 hp1])
        all_goals simp_all
  obtain rfl : k = s.length := by omega
  repeat' (first | omega | ((first | refine awC_sound _ _ _ _ ?_ | skip); simp only [go_sem, sevalprocAttr, ↓reduceIte, reduceCtorEq]) | (refine gspDI ?_ ?_ <;> (intro _hh; (try simp only [_hh]); revert _hh)) | refine gspLI ?_ ?_ | refine condLI ?_ ?_ | refine gspI ?_ ?_ | refine And.intro ?_ ?_ | with_reducible intro _hh | trivial | (simp only [cl1, cl2, cl3, List.length_cons, List.length_nil, List.length_append]; omega))
  obtain ⟨R, hR⟩ : ∃ R, R = mgB m ch s.length := ⟨_, rfl⟩
  rw [← hR] at hu ⊢
  refine LoopA.intro (fun n fr H => ∃ (k : Nat) (l : List Int), k ≤ m.length ∧ n = m.length - k ∧ UF l R m.length ∧ (∀ x, x < k → l.getD x 0 = R.getD x 0) ∧ fr = [(91, I k), (90, I m.length), (9, .ptr 4 0), (8, .ptr 3 0), (6, .ptr 2 0)] ∧ H = mgH s m L l (roots R)) ?_ ?_
  · refine ⟨_, _, _, ?_, 0, l, by omega, rfl, hu, (fun x hx => absurd hx (by omega)), rfl, rfl⟩
    refine Wk.sub ?_ ?_ <;> (simp only [go_sem, sevalprocAttr, ↓reduceIte, reduceCtorEq, pc_s1 hp1, pc_s2 hp1])
    all_goals simp_all
  clear hu hul hkl hk l
  rintro n fr H ⟨k, l, hk, rfl, hu, hd, rfl, rfl⟩
  have hul := hu.len
  by_cases hkl : k < m.length
  · repeat' (first | omega | ((first | refine awC_sound _ _ _ _ ?_ | (refine DrawA.introT (id := 28) (.node [(0, .node [(1, .node [(2, .node [(3, .node [(4, .node [(5, .node [(6, .done)])])])]), (3, .node [(2, .node [(4, .node [(5, .node [(6, .done)])])])])]), (2, .node [(1, .node [(3, .node [(4, .node [(5, .node [(6, .done)])])])]), (3, .node [(1, .node [(4, .node [(5, .node [(6, .done)])])]), (4, .node [(1, .node [(5, .node [(6, .done)])])])])]), (3, .node [(1, .node [(2, .node [(4, .node [(5, .node [(6, .done)])])])]), (2, .node [(1, .node [(4, .node [(5, .node [(6, .done)])])]), (4, .node [(1, .node [(5, .node [(6, .done)])])])])])]), (1, .node [(0, .node [(2, .node [(3, .node [(4, .node [(5, .node [(6, .done)])])])]), (3, .node [(2, .node [(4, .node [(5, .node [(6, .done)])])])])]), (2, .node [(0, .node [(3, .node [(4, .node [(5, .node [(6, .done)])])])]), (3, .node [(0, .node [(4, .node [(5, .node [(6, .done)])])]), (4, .node [(0, .node [(5, .node [(6, .done)])])])])]), (3, .node [(0, .node [(2, .node [(4, .node [(5, .node [(6, .done)])])])]), (2, .node [(0, .node [(4, .node [(5, .node [(6, .done)])])]), (4, .node [(0, .node [(5, .node [(6, .done)])])])])])]), (2, .node [(0, .node [(1, .node [(3, .node [(4, .node [(5, .node [(6, .done)])])])]), (3, .node [(1, .node [(4, .node [(5, .node [(6, .done)])])]), (4, .node [(1, .node [(5, .node [(6, .done)])])])])]), (1, .node [(0, .node [(3, .node [(4, .node [(5, .node [(6, .done)])])])]), (3, .node [(0, .node [(4, .node [(5, .node [(6, .done)])])]), (4, .node [(0, .node [(5, .node [(6, .done)])])])])]), (3, .node [(0, .node [(1, .node [(4, .node [(5, .node [(6, .done)])])]), (4, .node [(1, .node [(5, .node [(6, .done)])])])]), (1, .node [(0, .node [(4, .node [(5, .node [(6, .done)])])]), (4, .node [(0, .node [(5, .node [(6, .done)])])])]), (4, .node [(0, .node [(1, .node [(5, .node [(6, .done)])])]), (1, .node [(0, .node [(5, .node [(6, .done)])])])])])]), (3, .node [(0, .node [(1, .node [(2, .node [(4, .node [(5, .node [(6, .done)])])])]), (2, .node [(1, .node [(4, .node [(5, .node [(6, .done)])])]), (4, .node [(1, .node [(5, .node [(6, .done)])])])])]), (1, .node [(0, .node [(2, .node [(4, .node [(5, .node [(6, .done)])])])]), (2, .node [(0, .node [(4, .node [(5, .node [(6, .done)])])]), (4, .node [(0, .node [(5, .node [(6, .done)])])])])]), (2, .node [(0, .node [(1, .node [(4, .node [(5, .node [(6, .done)])])]), (4, .node [(1, .node [(5, .node [(6, .done)])])])]), (1, .node [(0, .node [(4, .node [(5, .node [(6, .done)])])]), (4, .node [(0, .node [(5, .node [(6, .done)])])])]), (4, .node [(0, .node [(1, .node [(5, .node [(6, .done)])])]), (1, .node [(0, .node [(5, .node [(6, .done)])])])])])])]) (by decide +kernel) mixed ?_) | (refine DrawA.intro (id := 28) [[95,96,97,98],[94,96,97,98],[94,95,97],[94,95,96],[94,95],[],[]] [[],[0],[0,1],[0,1,2],[0,1],[],[]] (by decide +kernel) mixed ?_) | (refine DrawA.introT (id := 30) (.node [(0, .node [(1, .node [(2, .node [(3, .done)])]), (2, .node [(1, .node [(3, .done)])])]), (1, .node [(0, .node [(2, .node [(3, .done)])])])]) (by decide +kernel) mixed ?_) | (refine DrawA.intro (id := 30) [[102],[101,4],[102],[]] [[],[0],[1],[]] (by decide +kernel) mixed ?_) | skip); simp only [go_sem, sevalprocAttr, ↓reduceIte, reduceCtorEq, hul]) | (refine gspDI ?_ ?_ <;> (intro _hh; (try simp only [_hh]); revert _hh)) | refine gspLI ?_ ?_ | refine condLI ?_ ?_ | refine gspI ?_ ?_ | refine And.intro ?_ ?_ | with_reducible intro _hh | trivial | (simp only [cl1, cl2, cl3, List.length_cons, List.length_nil, List.length_append]; omega))
    all_goals refine ⟨CallB.inline (call_find s m L l R _ hu k hkl (by omega) ?_)⟩
    all_goals (
      intro l1 hu1 hd1
      have hul1 := hu1.len
      repeat' (first | omega | ((first | refine awC_sound _ _ _ _ ?_ | (refine DrawA.introT (id := 28) (.node [(0, .node [(1, .node [(2, .node [(3, .node [(4, .node [(5, .node [(6, .done)])])])]), (3, .node [(2, .node [(4, .node [(5, .node [(6, .done)])])])])]), (2, .node [(1, .node [(3, .node [(4, .node [(5, .node [(6, .done)])])])]), (3, .node [(1, .node [(4, .node [(5, .node [(6, .done)])])]), (4, .node [(1, .node [(5, .node [(6, .done)])])])])]), (3, .node [(1, .node [(2, .node [(4, .node [(5, .node [(6, .done)])])])]), (2, .node [(1, .node [(4, .node [(5, .node [(6, .done)])])]), (4, .node [(1, .node [(5, .node [(6, .done)])])])])])]), (1, .node [(0, .node [(2, .node [(3, .node [(4, .node [(5, .node [(6, .done)])])])]), (3, .node [(2, .node [(4, .node [(5, .node [(6, .done)])])])])]), (2, .node [(0, .node [(3, .node [(4, .node [(5, .node [(6, .done)])])])]), (3, .node [(0, .node [(4, .node [(5, .node [(6, .done)])])]), (4, .node [(0, .node [(5, .node [(6, .done)])])])])]), (3, .node [(0, .node [(2, .node [(4, .node [(5, .node [(6, .done)])])])]), (2, .node [(0, .node [(4, .node [(5, .node [(6, .done)])])]), (4, .node [(0, .node [(5, .node [(6, .done)])])])])])]), (2, .node [(0, .node [(1, .node [(3, .node [(4, .node [(5, .node [(6, .done)])])])]), (3, .node [(1, .node [(4, .node [(5, .node [(6, .done)])])]), (4, .node [(1, .node [(5, .node [(6, .done)])])])])]), (1, .node [(0, .node [(3, .node [(4, .node [(5, .node [(6, .done)])])])]), (3, .node [(0, .node [(4, .node [(5, .node [(6, .done)])])]), (4, .node [(0, .node [(5, .node [(6, .done)])])])])]), (3, .node [(0, .node [(1, .node [(4, .node [(5, .node [(6, .done)])])]), (4, .node [(1, .node [(5, .node [(6, .done)])])])]), (1, .node [(0, .node [(4, .node [(5, .node [(6, .done)])])]), (4, .node [(0, .node [(5, .node [(6, .done)])])])]), (4, .node [(0, .node [(1, .node [(5, .node [(6, .done)])])]), (1, .node [(0, .node [(5, .node [(6, .done)])])])])])]), (3, .node [(0, .node [(1, .node [(2, .node [(4, .node [(5, .node [(6, .done)])])])]), (2, .node [(1, .node [(4, .node [(5, .node [(6, .done)])])]), (4, .node [(1, .node [(5, .node [(6, .done)])])])])]), (1, .node [(0, .node [(2, .node [(4, .node [(5, .node [(6, .done)])])])]), (2, .node [(0, .node [(4, .node [(5, .node [(6, .done)])])]), (4, .node [(0, .node [(5, .node [(6, .done)])])])])]), (2, .node [(0, .node [(1, .node [(4, .node [(5, .node [(6, .done)])])]), (4, .node [(1, .node [(5, .node [(6, .done)])])])]), (1, .node [(0, .node [(4, .node [(5, .node [(6, .done)])])]), (4, .node [(0, .node [(5, .node [(6, .done)])])])]), (4, .node [(0, .node [(1, .node [(5, .node [(6, .done)])])]), (1, .node [(0, .node [(5, .node [(6, .done)])])])])])])]) (by decide +kernel) mixed ?_) | (refine DrawA.intro (id := 28) [[95,96,97,98],[94,96,97,98],[94,95,97],[94,95,96],[94,95],[],[]] [[],[0],[0,1],[0,1,2],[0,1],[],[]] (by decide +kernel) mixed ?_) | (refine DrawA.introT (id := 30) (.node [(0, .node [(1, .node [(2, .node [(3, .done)])]), (2, .node [(1, .node [(3, .done)])])]), (1, .node [(0, .node [(2, .node [(3, .done)])])])]) (by decide +kernel) mixed ?_) | (refine DrawA.intro (id := 30) [[102],[101,4],[102],[]] [[],[0],[1],[]] (by decide +kernel) mixed ?_) | skip); simp only [go_sem, sevalprocAttr, ↓reduceIte, reduceCtorEq, hul1]) | (refine gspDI ?_ ?_ <;> (intro _hh; (try simp only [_hh]); revert _hh)) | refine gspLI ?_ ?_ | refine condLI ?_ ?_ | refine gspI ?_ ?_ | refine And.intro ?_ ?_ | with_reducible intro _hh | trivial | (simp only [cl1, cl2, cl3, List.length_cons, List.length_nil, List.length_append]; omega)))
    all_goals (
      refine ⟨_, _, _, ?_, ?_, ⟨k + 1, l1.set k (R.getD k 0), by omega, rfl, hu1.put hkl, ?_, rfl, rfl⟩⟩
      · omega
      · refine Wk.sub ?_ ?_ <;> (simp only [go_sem, sevalprocAttr, ↓reduceIte, reduceCtorEq])
        all_goals simp_all
      · intro x hx
        by_cases e : k = x
        · subst e; exact gset_eq (by omega)
        · rw [gset_ne e]; exact hd1 x (by omega) (hd x (by omega)))
  obtain rfl : k = m.length := by omega
  have hfin : l = R := by
    have := hu.rep.len
    apply List.ext_getElem?
    intro i
    by_cases hi : i < m.length
    · have := hd i hi
      simpa [List.getD_eq_getElem?_getD, List.getElem?_eq_getElem (show i < l.length by omega), List.getElem?_eq_getElem (show i < R.length by omega)] using this
    · rw [List.getElem?_eq_none (by omega), List.getElem?_eq_none (by omega)]
  subst hfin
  repeat' (first | omega | ((first | refine awC_sound _ _ _ _ ?_ | (refine DrawA.intro (id := 28) [[95,96,97,98],[94,96,97,98],[94,95,97],[94,95,96],[94,95],[],[]] [[],[0],[0,1],[0,1,2],[0,1],[],[]] (by decide +kernel) mixed ?_) | (refine DrawA.introT (id := 28) (.node [(0, .node [(1, .node [(2, .node [(3, .node [(4, .node [(5, .node [(6, .done)])])])]), (3, .node [(2, .node [(4, .node [(5, .node [(6, .done)])])])])]), (2, .node [(1, .node [(3, .node [(4, .node [(5, .node [(6, .done)])])])]), (3, .node [(1, .node [(4, .node [(5, .node [(6, .done)])])]), (4, .node [(1, .node [(5, .node [(6, .done)])])])])]), (3, .node [(1, .node [(2, .node [(4, .node [(5, .node [(6, .done)])])])]), (2, .node [(1, .node [(4, .node [(5, .node [(6, .done)])])]), (4, .node [(1, .node [(5, .node [(6, .done)])])])])])]), (1, .node [(0, .node [(2, .node [(3, .node [(4, .node [(5, .node [(6, .done)])])])]), (3, .node [(2, .node [(4, .node [(5, .node [(6, .done)])])])])]), (2, .node [(0, .node [(3, .node [(4, .node [(5, .node [(6, .done)])])])]), (3, .node [(0, .node [(4, .node [(5, .node [(6, .done)])])]), (4, .node [(0, .node [(5, .node [(6, .done)])])])])]), (3, .node [(0, .node [(2, .node [(4, .node [(5, .node [(6, .done)])])])]), (2, .node [(0, .node [(4, .node [(5, .node [(6, .done)])])]), (4, .node [(0, .node [(5, .node [(6, .done)])])])])])]), (2, .node [(0, .node [(1, .node [(3, .node [(4, .node [(5, .node [(6, .done)])])])]), (3, .node [(1, .node [(4, .node [(5, .node [(6, .done)])])]), (4, .node [(1, .node [(5, .node [(6, .done)])])])])]), (1, .node [(0, .node [(3, .node [(4, .node [(5, .node [(6, .done)])])])]), (3, .node [(0, .node [(4, .node [(5, .node [(6, .done)])])]), (4, .node [(0, .node [(5, .node [(6, .done)])])])])]), (3, .node [(0, .node [(1, .node [(4, .node [(5, .node [(6, .done)])])]), (4, .node [(1, .node [(5, .node [(6, .done)])])])]), (1, .node [(0, .node [(4, .node [(5, .node [(6, .done)])])]), (4, .node [(0, .node [(5, .node [(6, .done)])])])]), (4, .node [(0, .node [(1, .node [(5, .node [(6, .done)])])]), (1, .node [(0, .node [(5, .node [(6, .done)])])])])])]), (3, .node [(0, .node [(1, .node [(2, .node [(4, .node [(5, .node [(6, .done)])])])]), (2, .node [(1, .node [(4, .node [(5, .node [(6, .done)])])]), (4, .node [(1, .node [(5, .node [(6, .done)])])])])]), (1, .node [(0, .node [(2, .node [(4, .node [(5, .node [(6, .done)])])])]), (2, .node [(0, .node [(4, .node [(5, .node [(6, .done)])])]), (4, .node [(0, .node [(5, .node [(6, .done)])])])])]), (2, .node [(0, .node [(1, .node [(4, .node [(5, .node [(6, .done)])])]), (4, .node [(1, .node [(5, .node [(6, .done)])])])]), (1, .node [(0, .node [(4, .node [(5, .node [(6, .done)])])]), (4, .node [(0, .node [(5, .node [(6, .done)])])])]), (4, .node [(0, .node [(1, .node [(5, .node [(6, .done)])])]), (1, .node [(0, .node [(5, .node [(6, .done)])])])])])])]) (by decide +kernel) mixed ?_) | (refine DrawA.intro (id := 30) [[102],[101,4],[102],[]] [[],[0],[1],[]] (by decide +kernel) mixed ?_) | (refine DrawA.introT (id := 30) (.node [(0, .node [(1, .node [(2, .node [(3, .done)])]), (2, .node [(1, .node [(3, .done)])])]), (1, .node [(0, .node [(2, .node [(3, .done)])])])]) (by decide +kernel) mixed ?_) | skip); simp only [go_sem, sevalprocAttr, ↓reduceIte, reduceCtorEq, hul]) | (refine gspDI ?_ ?_ <;> (intro _hh; (try simp only [_hh]); revert _hh)) | refine gspLI ?_ ?_ | refine condLI ?_ ?_ | refine gspI ?_ ?_ | refine And.intro ?_ ?_ | with_reducible intro _hh | trivial | (simp only [cl1, cl2, cl3, List.length_cons, List.length_nil, List.length_append]; omega))
  all_goals exact LeA.of (by rw [List.take_of_length_le (by omega)])
end Go.Proofs.YtalmkaiiffodnaaGreatDoor
