/- The reference of layer 12: sums by their exponents. -/
import Derived.Test.YtalmkaiiffodnaaGreatDoorXi
import Derived.Test.YtalmkaiiffodnaaGreatDoorXb
import Derived.Test.YtalmkaiiffodnaaGreatDoorOe1
set_option linter.unusedSimpArgs false
set_option linter.unusedVariables false
namespace Go.Proofs.YtalmkaiiffodnaaGreatDoor
open Go Go.RowKit
set_option maxRecDepth 100000
set_option maxHeartbeats 8000000
def qwC (S : List (Int × Int)) : List AV := S.flatMap fun t => [I (t.2 / 1125899906842624), I (t.2 % 1125899906842624)]
theorem qwC_len (S : List (Int × Int)) : (qwC S).length = 2 * S.length := by
  induction S with
  | nil => rfl
  | cons t S ih => rw [show qwC (t :: S) = I (t.2 / 1125899906842624) :: I (t.2 % 1125899906842624) :: qwC S from rfl]; simp [ih]; omega
theorem qwC_get0 : ∀ (S : List (Int × Int)) (i : Nat), i < S.length → (qwC S).getD (i * 2) .any = I ((S.getD i (0, 0)).2 / 1125899906842624)
  | t :: S, 0, _ => rfl
  | t :: S, i + 1, h => by
    have := qwC_get0 S i (by simpa using h)
    rw [show qwC (t :: S) = I (t.2 / 1125899906842624) :: I (t.2 % 1125899906842624) :: qwC S from rfl, show (i + 1) * 2 = i * 2 + 1 + 1 by omega]
    simpa using this
theorem qwC_get1 : ∀ (S : List (Int × Int)) (i : Nat), i < S.length → (qwC S).getD (i * 2 + 1) .any = I ((S.getD i (0, 0)).2 % 1125899906842624)
  | t :: S, 0, _ => rfl
  | t :: S, i + 1, h => by
    have := qwC_get1 S i (by simpa using h)
    rw [show qwC (t :: S) = I (t.2 / 1125899906842624) :: I (t.2 % 1125899906842624) :: qwC S from rfl, show (i + 1) * 2 + 1 = i * 2 + 1 + 1 + 1 by omega]
    simpa using this
theorem qwC_mem {S : List (Int × Int)} {x : AV} (h : x ∈ qwC S) : ∃ n, x = I n := by
  unfold qwC at h
  obtain ⟨t, _, h⟩ := List.mem_flatMap.1 h
  simp only [List.mem_cons, List.not_mem_nil, or_false] at h
  rcases h with h | h <;> exact ⟨_, h⟩
theorem qwC_s3 (H : Hp) (S : List (Int × Int)) : (qwC S).all (s3 H) = true := List.all_eq_true.2 fun x hx => by obtain ⟨n, rfl⟩ := qwC_mem hx; rfl
theorem qwC_p1 (S : List (Int × Int)) : (qwC S).all p1 = true := List.all_eq_true.2 fun x hx => by obtain ⟨n, rfl⟩ := qwC_mem hx; rfl
theorem qwC_cut (i : Nat) (S : List (Int × Int)) : (qwC S).map (cutV i) = qwC S := by
  conv => rhs; rw [← List.map_id (qwC S)]
  exact List.map_congr_left fun x hx => by obtain ⟨n, rfl⟩ := qwC_mem hx; rfl
theorem qwC_snap (H : Hp) (n : Nat) (S : List (Int × Int)) : (qwC S).map (snap H (n + 1)) = qwC S := pc_snap (qwC_p1 S) H n
theorem qwC_snapP (H : Hp) (n : Nat) (S : List (Int × Int)) : (∀ x ∈ qwC S, snapP H (n + 1) x) = True := pc_snapP (qwC_p1 S) H n
theorem qwC_app (S T : List (Int × Int)) : qwC (S ++ T) = qwC S ++ qwC T := by simp [qwC]
theorem qwC_take : ∀ (S : List (Int × Int)) (i : Nat), (qwC S).take (i * 2) = qwC (S.take i)
  | [], i => by simp [qwC]
  | t :: S, 0 => by simp [qwC]
  | t :: S, i + 1 => by
    rw [show qwC (t :: S) = I (t.2 / 1125899906842624) :: I (t.2 % 1125899906842624) :: qwC S from rfl, show (i + 1) * 2 = i * 2 + 1 + 1 by omega, List.take_succ_cons, List.take_succ_cons, qwC_take S i]; rfl
theorem qwC_drop : ∀ (S : List (Int × Int)) (i : Nat), (qwC S).drop (i * 2) = qwC (S.drop i)
  | [], i => by simp [qwC]
  | t :: S, 0 => by simp [qwC]
  | t :: S, i + 1 => by
    rw [show qwC (t :: S) = I (t.2 / 1125899906842624) :: I (t.2 % 1125899906842624) :: qwC S from rfl, show (i + 1) * 2 = i * 2 + 1 + 1 by omega, List.drop_succ_cons, List.drop_succ_cons, qwC_drop S i]; rfl
theorem qwC_set : ∀ (S : List (Int × Int)) (i : Nat) (e z : Int), ((qwC S).set (i * 2) (.int .i64 (z / 1125899906842624))).set (i * 2 + 1) (.int .i64 (z % 1125899906842624)) = qwC (S.set i (e, z))
  | [], i, e, z => by simp [qwC]
  | t :: S, 0, e, z => by simp [qwC]
  | t :: S, i + 1, e, z => by
    have := qwC_set S i e z
    rw [show qwC (t :: S) = I (t.2 / 1125899906842624) :: I (t.2 % 1125899906842624) :: qwC S from rfl, show (i + 1) * 2 + 1 = (i * 2 + 1) + 1 + 1 by omega, show (i + 1) * 2 = i * 2 + 1 + 1 by omega, List.set_cons_succ, List.set_cons_succ, List.set_cons_succ, List.set_cons_succ, this]; rfl
theorem qwC_all (S : List (Int × Int)) (f : AV → Bool) (h : ∀ n, f (.int .i64 n) = true) : (qwC S).all f = true := List.all_eq_true.2 fun x hx => by obtain ⟨n, rfl⟩ := qwC_mem hx; exact h n
theorem qwC_dt (S : List (Int × Int)) (i : Nat) : (qwC (S.drop i)).take ((S.length - i) * 2) = qwC (S.drop i) := List.take_of_length_le (by rw [qwC_len, List.length_drop]; omega)
theorem qwC_tl {S : List (Int × Int)} {i : Nat} (h : i ≤ S.length) : (qwC (S.take i)).length = i * 2 := by rw [qwC_len, List.length_take]; omega
theorem tk_len {S : List (Int × Int)} {i : Nat} (h : i ≤ S.length) : (S.take i).length = i := by rw [List.length_take]; omega
structure Ins (S : List (Int × Int)) (i : Nat) (e z : Int) (R : List (Int × Int)) : Prop where
  len : R.length = i + 1 + (S.length - i)
  q1 : qwC (S.take i) ++ [.int .i64 (z / 1125899906842624), .int .i64 (z % 1125899906842624)] = qwC (S.take i ++ [(e, z)])
  q2 : qwC (S.take i ++ [(e, z)]) ++ qwC (S.drop i) = qwC R
  q3 : (S.drop i).take (S.length - i) = S.drop i
  q4 : ((S.map fun x => x.1).drop i).take (S.length - i) = (S.map fun x => x.1).drop i
  q5 : (S.map fun x => x.1).take i ++ [e] ++ (S.map fun x => x.1).drop i = R.map fun x => x.1
  q6 : (qwC R).take ((i + 1 + (S.length - i)) * 2) = qwC R
  q7 : (R.map fun x => x.1).take (i + 1 + (S.length - i)) = R.map fun x => x.1
  q8 : (qwC R).length = (i + 1 + (S.length - i)) * 2
  q9 : (qwC (S.drop i)).length = (S.length - i) * 2
  qa : (qwC (S.take i ++ [(e, z)])).length = (i + 1) * 2
theorem ins_ok {S : List (Int × Int)} {i : Nat} (h : i ≤ S.length) (e z : Int) : Ins S i e z (S.take i ++ [(e, z)] ++ S.drop i) := by
  have hl : (S.take i ++ [(e, z)] ++ S.drop i).length = i + 1 + (S.length - i) := by simp; omega
  have h8 : (qwC (S.take i ++ [(e, z)] ++ S.drop i)).length = (i + 1 + (S.length - i)) * 2 := by rw [qwC_len, hl]; omega
  refine ⟨hl, ?_, ?_, List.take_of_length_le (by simp), List.take_of_length_le (by simp), by simp, List.take_of_length_le (by omega), List.take_of_length_le (by rw [List.length_map]; omega), h8, by rw [qwC_len, List.length_drop]; omega, by rw [qwC_len, List.length_append, List.length_take]; simp only [List.length_cons, List.length_nil]; omega⟩
  · rw [qwC_app]; rfl
  · rw [← qwC_app]
abbrev qeA (S : List (Int × Int)) : AV := .ro 1 S.length (.ints (S.map (·.1)))
abbrev qsA (S : List (Int × Int)) : AV := .ro 2 S.length (.lst (qwC S))
attribute [go_sem] qeA qsA
def ltI (e : Int) : List (Int × Int) → Nat
  | [] => 0
  | t :: S => if t.1 < e then ltI e S + 1 else 0
theorem ltI_le (e : Int) : ∀ S : List (Int × Int), ltI e S ≤ S.length
  | [] => Nat.le_refl _
  | t :: S => by have := ltI_le e S; simp only [ltI, List.length_cons]; split <;> omega
theorem ltI_lt (e : Int) : ∀ (S : List (Int × Int)) (i : Nat), i < ltI e S → (S.getD i (0, 0)).1 < e
  | [], i, h => by simp [ltI] at h
  | t :: S, i, h => by
    simp only [ltI] at h
    split at h
    · cases i with
      | zero => simpa using ‹t.1 < e›
      | succ i => simpa using ltI_lt e S i (by omega)
    · omega
theorem ltI_ge (e : Int) : ∀ (S : List (Int × Int)), ltI e S < S.length → e ≤ (S.getD (ltI e S) (0, 0)).1
  | [], h => by simp at h
  | t :: S, h => by
    simp only [ltI] at h ⊢
    split
    · rename_i ht
      rw [if_pos ht] at h
      simpa using ltI_ge e S (by simpa using h)
    · rename_i ht; simp; omega
def putS (e z : Int) (S : List (Int × Int)) : List (Int × Int) :=
  if ltI e S < S.length ∧ (S.getD (ltI e S) (0, 0)).1 = e then S.set (ltI e S) (e, (S.getD (ltI e S) (0, 0)).2 + z) else S.take (ltI e S) ++ [(e, z)] ++ S.drop (ltI e S)
theorem map_get (S : List (Int × Int)) (i : Nat) (h : i < S.length) : (S.map (·.1)).getD i 0 = (S.getD i (0, 0)).1 := by
  simp [List.getD_eq_getElem?_getD, h]
theorem fn_put (S : List (Int × Int)) (e z : Int) (hl : S.length ≤ 100000) (hz : -2596148429267413814265248164610048 ≤ z ∧ z ≤ 2596148429267413814265248164610048) (hS : ∀ t ∈ S, -2596148429267413814265248164610048 ≤ t.2 ∧ t.2 ≤ 2596148429267413814265248164610048) :
    Fn Tryz.prog 70 [qeA S, qsA S, I e, qwA z] (.tup [qeA (putS e z S), qsA (putS e z S)]) := by
  have hle := ltI_le e S
  refine Fn.introL [.tmp 8, .tmp 9] Tryz.func70 rfl rfl (by decide) (by simp [Tryz.ntmps70]) ?_; rw [Tryz.ntmps70]
  repeat' (first | omega | ((first | refine awC_sound _ _ _ _ ?_ | skip); simp only [go_sem, sevalprocAttr, ↓reduceIte, reduceCtorEq]) | (refine gspDI ?_ ?_ <;> (intro _hh; (try simp only [_hh]); revert _hh)) | refine gspLI ?_ ?_ | refine condLI ?_ ?_ | refine gspI ?_ ?_ | refine And.intro ?_ ?_ | with_reducible intro _hh | trivial | (simp only [cl1, cl2, cl3, List.length_cons, List.length_nil, List.length_append]; omega))
  refine LoopA.intro (fun n fr H => ∃ i : Nat, i ≤ ltI e S ∧ n = ltI e S - i ∧ fr = [(10, I i), (7, .ptr 0 0), (2, I e), (1, qsA S), (0, qeA S)] ∧ H = [(0, qwO (z / 1125899906842624) (z % 1125899906842624))]) ?_ ?_
  · refine ⟨_, _, _, ?_, 0, by omega, rfl, rfl, rfl⟩
    refine Wk.sub ?_ ?_ <;> (simp only [go_sem, sevalprocAttr, ↓reduceIte, reduceCtorEq, qwC_s3])
  rintro n fr H ⟨i, hi, rfl, rfl, rfl⟩
  by_cases hil : i < ltI e S
  · have c0 : decide ((i : Int) < S.length) = true := by simp; omega
    have c1 : decide ((S.getD i (0, 0)).1 < e) = true := by simpa using ltI_lt e S i hil
    have mg := map_get S i (by omega)
    repeat' (first | omega | ((first | refine awC_sound _ _ _ _ ?_ | skip); simp only [go_sem, sevalprocAttr, ↓reduceIte, reduceCtorEq, c0, c1, mg, List.length_map]) | (refine gspDI ?_ ?_ <;> (intro _hh; (try simp only [_hh]); revert _hh)) | refine gspLI ?_ ?_ | refine condLI ?_ ?_ | refine gspI ?_ ?_ | refine And.intro ?_ ?_ | with_reducible intro _hh | trivial | (simp only [cl1, cl2, cl3, List.length_cons, List.length_nil, List.length_append]; omega))
    refine ⟨_, _, _, ?_, ?_, ⟨i + 1, by omega, rfl, rfl, rfl⟩⟩
    · omega
    · refine Wk.sub ?_ ?_ <;> (simp only [go_sem, sevalprocAttr, ↓reduceIte, reduceCtorEq, qwC_s3])
  obtain rfl : i = ltI e S := by omega
  generalize hI : ltI e S = i at *
  by_cases hin : i < S.length
  · have c0 : decide ((i : Int) < S.length) = true := by simp; omega
    have hge := ltI_ge e S (by omega)
    rw [hI] at hge
    have c1 : decide ((S.getD i (0, 0)).1 < e) = false := by rw [decide_eq_false_iff_not]; omega
    have mg := map_get S i (by omega)
    have hlen := qwC_len S
    have hti := hS _ (getD_in hin)
    by_cases he : (S.getD i (0, 0)).1 = e
    · have c2 : ((S.getD i (0, 0)).1 == e) = true := by simpa using he
      have ep : putS e z S = S.set i (e, (S.getD i (0, 0)).2 + z) := by unfold putS; rw [hI, if_pos ⟨hin, he⟩]
      have em : (S.set i (e, (S.getD i (0, 0)).2 + z)).map (·.1) = S.map (·.1) := by
        rw [List.map_set]
        refine List.ext_getElem (by simp) fun j h1 h2 => ?_
        rw [List.getElem_set]
        split
        · rename_i hij; subst hij
          have : (S[i]'hin).1 = e := by simpa [List.getD_eq_getElem?_getD, hin] using he
          simpa using this.symm
        · rfl
      have g0 := qwC_get0 S i hin
      have g1 := qwC_get1 S i hin
      have hP := fn_qplus _ _ hti hz
      rw [ep]
      have el : (S.set i (e, (S.getD i (0, 0)).2 + z)).length = S.length := by simp
      rw [el, em]
      have eset := qwC_set S i e ((S.getD i (0, 0)).2 + z)
      repeat' (first | omega | ((first | refine awC_sound _ _ _ _ ?_ | (refine DrawA.intro (id := 6) [[44,45,46,47,48,49,50],[43,45,46,47,48,49,50],[43,44,46,49],[43,44,45,49],[43,44,49],[43,44,49],[43,44,45,46,47,48],[43,44],[],[]] [[],[0],[0,1],[0,1,2],[0,1],[0,1],[0,1,2,3,4,5],[0,1],[],[]] (by decide +kernel) mixed ?_) | (refine DrawA.intro (id := 8) [[55,56,57,59,60,62,63,64],[54,56,59,60,62,63,64],[54,55,59,60,62,63,64],[54,59,60,62,63,64],[59,60,62,63,64],[54,55,56,57,58,62,63,64],[54,55,56,57,58,62,63,64],[62,63,64],[54,55,56,57,58,59,60,61,63],[54,55,56,57,58,59,60,61,62],[54,55,56,57,58,59,60,61],[],[]] [[],[0],[0,1],[0],[],[0,1,2,3,4],[0,1,2,3,4],[],[0,1,2,3,4,5,6,7],[0,1,2,3,4,5,6,7,8],[0,1,2,3,4,5,6,7],[],[]] (by decide +kernel) mixed ?_) | (refine DrawA.intro (id := 9) [[67,68,69,71,72,74,75,76],[66,68,71,72,74,75,76],[66,67,71,72,74,75,76],[66,71,72,74,75,76],[71,72,74,75,76],[66,67,68,69,70,74,75,76],[66,67,68,69,70,74,75,76],[74,75,76],[66,67,68,69,70,71,72,73,75],[66,67,68,69,70,71,72,73,74],[66,67,68,69,70,71,72,73],[],[]] [[],[0],[0,1],[0],[],[0,1,2,3,4],[0,1,2,3,4],[],[0,1,2,3,4,5,6,7],[0,1,2,3,4,5,6,7,8],[0,1,2,3,4,5,6,7],[],[]] (by decide +kernel) mixed ?_) | skip); simp only [go_sem, sevalprocAttr, ↓reduceIte, reduceCtorEq, c0, c1, c2, mg, List.length_map, qwC_all, Nat.sub_zero, qwC_take, qwC_drop, qwC_dt, qwC_cut, g0, g1, hlen]) | (refine gspDI ?_ ?_ <;> (intro _hh; (try simp only [_hh]); revert _hh)) | refine gspLI ?_ ?_ | refine condLI ?_ ?_ | refine gspI ?_ ?_ | refine And.intro ?_ ?_ | with_reducible intro _hh | trivial | (simp only [cl1, cl2, cl3, List.length_cons, List.length_nil, List.length_append]; omega))
      all_goals first | exact qwC_s3 _ _ | skip
      refine ⟨CallA.fn rfl hP ?_⟩
      simp only [go_sem, sevalprocAttr, ↓reduceIte, reduceCtorEq, c0, c1, c2, mg, List.length_map, qwC_all, qwC_s3, Nat.sub_zero, qwC_take, qwC_drop, qwC_dt, qwC_cut, g0, g1, hlen]
      have hlen2 := qwC_len (S.set i (e, (S.getD i (0, 0)).2 + z))
      rw [el] at hlen2
      have htk : (qwC (S.set i (e, (S.getD i (0, 0)).2 + z))).take (S.length * 2) = qwC (S.set i (e, (S.getD i (0, 0)).2 + z)) := List.take_of_length_le (by omega)
      repeat' (first | omega | ((first | refine awC_sound _ _ _ _ ?_ | skip); simp only [go_sem, sevalprocAttr, ↓reduceIte, reduceCtorEq, eset, el, qwC_all, qwC_s3, qwC_cut, qwC_snap, qwC_snapP, hlen, hlen2, htk]) | (refine gspDI ?_ ?_ <;> (intro _hh; (try simp only [_hh]); revert _hh)) | refine gspLI ?_ ?_ | refine condLI ?_ ?_ | refine gspI ?_ ?_ | refine And.intro ?_ ?_ | with_reducible intro _hh | trivial | (simp only [cl1, cl2, cl3, List.length_cons, List.length_nil, List.length_append]; omega))
      all_goals exact LeA.refl _
    · have c2 : ((S.getD i (0, 0)).1 == e) = false := by rw [beq_eq_false_iff_ne]; exact he
      have ep : putS e z S = S.take i ++ [(e, z)] ++ S.drop i := by unfold putS; rw [hI, if_neg fun h => he h.2]
      rw [ep]
      have hR := ins_ok hle e z
      generalize S.take i ++ [(e, z)] ++ S.drop i = R at hR ⊢
      obtain ⟨r0, r1, r2, r3, r4, r5, r6, r7, r8, r9, ra⟩ := hR
      rw [r0]
      have tl := qwC_tl hle
      have tk := tk_len hle
      repeat' (first | omega | ((first | refine awC_sound _ _ _ _ ?_ | (refine DrawA.introE (id := 6) (.node [(0, .node [(1, .node [(2, .node [(3, .node [(4, .node [(5, .node [(6, .node [(7, .node [(8, .node [(9, .done)])])])]), (6, .node [(5, .node [(7, .node [(8, .node [(9, .done)])])])])]), (6, .node [(4, .node [(5, .node [(7, .node [(8, .node [(9, .done)])])])])])])])])])]) (by decide +kernel) mixed ?_) | (refine DrawA.intro (id := 6) [[44,45,46,47,48,49,50],[43,45,46,47,48,49,50],[43,44,46,49],[43,44,45,49],[43,44,49],[43,44,49],[43,44,45,46,47,48],[43,44],[],[]] [[],[0],[0,1],[0,1,2],[0,1],[0,1],[0,1,2,3,4,5],[0,1],[],[]] (by decide +kernel) mixed ?_) | (refine DrawA.introE (id := 8) (.node [(1, .node [(2, .node [(3, .node [(5, .node [(8, .node [(9, .node [(10, .node [(0, .node [(4, .node [(6, .node [(7, .node [(11, .node [(12, .done)])])])]), (6, .node [(4, .node [(7, .node [(11, .node [(12, .done)])])])])]), (6, .node [(0, .node [(4, .node [(7, .node [(11, .node [(12, .done)])])])])])])])])])])])])]) (by decide +kernel) mixed ?_) | (refine DrawA.intro (id := 8) [[55,56,57,59,60,62,63,64],[54,56,59,60,62,63,64],[54,55,59,60,62,63,64],[54,59,60,62,63,64],[59,60,62,63,64],[54,55,56,57,58,62,63,64],[54,55,56,57,58,62,63,64],[62,63,64],[54,55,56,57,58,59,60,61,63],[54,55,56,57,58,59,60,61,62],[54,55,56,57,58,59,60,61],[],[]] [[],[0],[0,1],[0],[],[0,1,2,3,4],[0,1,2,3,4],[],[0,1,2,3,4,5,6,7],[0,1,2,3,4,5,6,7,8],[0,1,2,3,4,5,6,7],[],[]] (by decide +kernel) mixed ?_) | (refine DrawA.introE (id := 9) (.node [(1, .node [(2, .node [(3, .node [(8, .node [(9, .node [(10, .node [(0, .node [(4, .node [(5, .node [(6, .node [(7, .node [(11, .node [(12, .done)])])])])]), (5, .node [(4, .node [(6, .node [(7, .node [(11, .node [(12, .done)])])])]), (6, .node [(4, .node [(7, .node [(11, .node [(12, .done)])])])])])]), (5, .node [(0, .node [(4, .node [(6, .node [(7, .node [(11, .node [(12, .done)])])])]), (6, .node [(4, .node [(7, .node [(11, .node [(12, .done)])])])])]), (6, .node [(0, .node [(4, .node [(7, .node [(11, .node [(12, .done)])])])])])])])])])])])])]) (by decide +kernel) mixed ?_) | (refine DrawA.intro (id := 9) [[67,68,69,71,72,74,75,76],[66,68,71,72,74,75,76],[66,67,71,72,74,75,76],[66,71,72,74,75,76],[71,72,74,75,76],[66,67,68,69,70,74,75,76],[66,67,68,69,70,74,75,76],[74,75,76],[66,67,68,69,70,71,72,73,75],[66,67,68,69,70,71,72,73,74],[66,67,68,69,70,71,72,73],[],[]] [[],[0],[0,1],[0],[],[0,1,2,3,4],[0,1,2,3,4],[],[0,1,2,3,4,5,6,7],[0,1,2,3,4,5,6,7,8],[0,1,2,3,4,5,6,7],[],[]] (by decide +kernel) mixed ?_) | skip); simp only [go_sem, sevalprocAttr, ↓reduceIte, reduceCtorEq, tl, tk, r1, r2, r3, r4, r5, r6, r7, r8, r9, ra, qwC_snap, qwC_snapP, qwC_s3, c0, c1, c2, mg, List.length_map, qwC_all, Nat.sub_zero, qwC_take, qwC_drop, qwC_dt, qwC_cut, hlen]) | (refine gspDI ?_ ?_ <;> (intro _hh; (try simp only [_hh]); revert _hh)) | refine gspLI ?_ ?_ | refine condLI ?_ ?_ | refine gspI ?_ ?_ | refine And.intro ?_ ?_ | with_reducible intro _hh | trivial | (simp only [cl1, cl2, cl3, List.length_cons, List.length_nil, List.length_append]; omega))
      all_goals exact LeA.refl _
  · have c0 : decide ((i : Int) < S.length) = false := by simp; omega
    have hlen := qwC_len S
    have ep : putS e z S = S.take i ++ [(e, z)] ++ S.drop i := by unfold putS; rw [hI, if_neg fun h => hin h.1]
    rw [ep]
    have hR := ins_ok hle e z
    generalize S.take i ++ [(e, z)] ++ S.drop i = R at hR ⊢
    obtain ⟨r0, r1, r2, r3, r4, r5, r6, r7, r8, r9, ra⟩ := hR
    rw [r0]
    have tl := qwC_tl hle
    have tk := tk_len hle
    repeat' (first | omega | ((first | refine awC_sound _ _ _ _ ?_ | (refine DrawA.introE (id := 6) (.node [(0, .node [(1, .node [(2, .node [(3, .node [(4, .node [(5, .node [(6, .node [(7, .node [(8, .node [(9, .done)])])])]), (6, .node [(5, .node [(7, .node [(8, .node [(9, .done)])])])])]), (6, .node [(4, .node [(5, .node [(7, .node [(8, .node [(9, .done)])])])])])])])])])]) (by decide +kernel) mixed ?_) | (refine DrawA.intro (id := 6) [[44,45,46,47,48,49,50],[43,45,46,47,48,49,50],[43,44,46,49],[43,44,45,49],[43,44,49],[43,44,49],[43,44,45,46,47,48],[43,44],[],[]] [[],[0],[0,1],[0,1,2],[0,1],[0,1],[0,1,2,3,4,5],[0,1],[],[]] (by decide +kernel) mixed ?_) | (refine DrawA.introE (id := 8) (.node [(1, .node [(2, .node [(3, .node [(5, .node [(8, .node [(9, .node [(10, .node [(0, .node [(4, .node [(6, .node [(7, .node [(11, .node [(12, .done)])])])]), (6, .node [(4, .node [(7, .node [(11, .node [(12, .done)])])])])]), (6, .node [(0, .node [(4, .node [(7, .node [(11, .node [(12, .done)])])])])])])])])])])])])]) (by decide +kernel) mixed ?_) | (refine DrawA.intro (id := 8) [[55,56,57,59,60,62,63,64],[54,56,59,60,62,63,64],[54,55,59,60,62,63,64],[54,59,60,62,63,64],[59,60,62,63,64],[54,55,56,57,58,62,63,64],[54,55,56,57,58,62,63,64],[62,63,64],[54,55,56,57,58,59,60,61,63],[54,55,56,57,58,59,60,61,62],[54,55,56,57,58,59,60,61],[],[]] [[],[0],[0,1],[0],[],[0,1,2,3,4],[0,1,2,3,4],[],[0,1,2,3,4,5,6,7],[0,1,2,3,4,5,6,7,8],[0,1,2,3,4,5,6,7],[],[]] (by decide +kernel) mixed ?_) | (refine DrawA.introE (id := 9) (.node [(1, .node [(2, .node [(3, .node [(8, .node [(9, .node [(10, .node [(0, .node [(4, .node [(5, .node [(6, .node [(7, .node [(11, .node [(12, .done)])])])])]), (5, .node [(4, .node [(6, .node [(7, .node [(11, .node [(12, .done)])])])]), (6, .node [(4, .node [(7, .node [(11, .node [(12, .done)])])])])])]), (5, .node [(0, .node [(4, .node [(6, .node [(7, .node [(11, .node [(12, .done)])])])]), (6, .node [(4, .node [(7, .node [(11, .node [(12, .done)])])])])]), (6, .node [(0, .node [(4, .node [(7, .node [(11, .node [(12, .done)])])])])])])])])])])])])]) (by decide +kernel) mixed ?_) | (refine DrawA.intro (id := 9) [[67,68,69,71,72,74,75,76],[66,68,71,72,74,75,76],[66,67,71,72,74,75,76],[66,71,72,74,75,76],[71,72,74,75,76],[66,67,68,69,70,74,75,76],[66,67,68,69,70,74,75,76],[74,75,76],[66,67,68,69,70,71,72,73,75],[66,67,68,69,70,71,72,73,74],[66,67,68,69,70,71,72,73],[],[]] [[],[0],[0,1],[0],[],[0,1,2,3,4],[0,1,2,3,4],[],[0,1,2,3,4,5,6,7],[0,1,2,3,4,5,6,7,8],[0,1,2,3,4,5,6,7],[],[]] (by decide +kernel) mixed ?_) | skip); simp only [go_sem, sevalprocAttr, ↓reduceIte, reduceCtorEq, tl, tk, r1, r2, r3, r4, r5, r6, r7, r8, r9, ra, qwC_snap, qwC_snapP, qwC_s3, c0, List.length_map, qwC_all, Nat.sub_zero, qwC_take, qwC_drop, qwC_dt, qwC_cut, hlen]) | (refine gspDI ?_ ?_ <;> (intro _hh; (try simp only [_hh]); revert _hh)) | refine gspLI ?_ ?_ | refine condLI ?_ ?_ | refine gspI ?_ ?_ | refine And.intro ?_ ?_ | with_reducible intro _hh | trivial | (simp only [cl1, cl2, cl3, List.length_cons, List.length_nil, List.length_append]; omega))
    all_goals exact LeA.refl _
end Go.Proofs.YtalmkaiiffodnaaGreatDoor
