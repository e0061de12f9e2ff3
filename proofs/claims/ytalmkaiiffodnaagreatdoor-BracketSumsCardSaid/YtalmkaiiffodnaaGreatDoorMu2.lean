/- Layer 12: products of polynomials. -/
import Derived.Test.YtalmkaiiffodnaaGreatDoorMu1
import Derived.Test.YtalmkaiiffodnaaGreatDoorBr1
set_option linter.unusedSimpArgs false
set_option linter.unusedVariables false
namespace Go.Proofs.YtalmkaiiffodnaaGreatDoor
open Go Go.RowKit
set_option maxHeartbeats 8000000
set_option maxRecDepth 100000
abbrev prH (p q : List (Int × Int)) (low : Int) (N : Nat) (zs : List Int) (e1 c1 e2 c2 : Int) : Hp := (19, .cells 65 (.lst [I e2, I c2])) :: (18, .cells 65 (.lst [I e1, I c1])) :: (17, .cells 29 (.lst [.bool false, tmA q])) :: (16, .cells 29 (.lst [.bool false, tmA p])) :: mulH p q low N zs
theorem call_mul1 (p q : List (Int × Int)) (low : Int) (zs : List Int) (e1 c1 e2 c2 e w : Int) (N : Nat) (hN : zs.length = N) (hl : -2000000 ≤ low ∧ low ≤ 2000000) (he : low ≤ e ∧ e < low + N) (hN2 : N ≤ 4000000) {fr : Fr} {K : AV → Fr → Hp → Prop}
    (hK : K (.tup []) fr ((20, .cells 95 (.lst [.int .u64 (w / 18446744073709551616 % 18446744073709551616), .int .u64 (w % 18446744073709551616)])) :: prH p q low N (zs.set (e - low).toNat (zs.getD (e - low).toNat 0 + w)) e1 c1 e2 c2)) :
    CallI Tryz.prog 61 [I e, wdA w, .ptr 15 0, .ptr 13 0] fr (prH p q low N zs e1 c1 e2 c2) K := by
  have hi : (e - low).toNat < zs.length := by omega
  have g0 := wdC_get0 zs (e - low).toNat hi
  have g1 := wdC_get1 zs (e - low).toNat hi
  have gl := wdC_len zs
  have hA := fn_wadd (zs.getD (e - low).toNat 0) w
  have hS := wdC_set zs (e - low).toNat (zs.getD (e - low).toNat 0 + w)
  generalize hk : (e - low).toNat = k at *
  refine CallI.intro [] Tryz.func61 rfl rfl (by decide) (by simp [Tryz.ntmps61]) ?_; rw [Tryz.ntmps61]
  repeat' (first | omega | ((first | refine awC_sound _ _ _ _ ?_ | (refine DrawA.intro (id := 1) [[7,8,9,10,11,12,13,14,15,16,17],[6,8,10,11,12,13,14,15,16,17],[6,7,10,11,12,13,14,15,16,17],[6,10,11,12,13,14,15,16,17],[6,7,8,9,11,12,13,16],[6,7,8,9,10,12,16],[6,7,8,9,10,11,16],[6,7,8,9,10,16],[6,7,8,9,16],[6,7,8,9,16],[6,7,8,9,10,11,12,13,14,15],[6,7,8,9],[],[]] [[],[0],[0,1],[0],[0,1,2,3],[0,1,2,3,4],[0,1,2,3,4,5],[0,1,2,3,4],[0,1,2,3],[0,1,2,3],[0,1,2,3,4,5,6,7,8,9],[0,1,2,3],[],[]] (by decide +kernel) mixed ?_) | skip); simp only [go_sem, sevalprocAttr, ↓reduceIte, reduceCtorEq, g0, g1, hk]) | (refine gspDI ?_ ?_ <;> (intro _hh; (try simp only [_hh]); revert _hh)) | refine gspLI ?_ ?_ | refine condLI ?_ ?_ | refine gspI ?_ ?_ | refine And.intro ?_ ?_ | with_reducible intro _hh | trivial | (simp only [cl1, cl2, cl3, List.length_cons, List.length_nil, List.length_append]; omega))
  refine ⟨CallA.fn rfl hA ?_⟩
  simp only [go_sem, sevalprocAttr, ↓reduceIte, reduceCtorEq, g0, g1, hk, hS]
  repeat' (first | omega | ((first | refine awC_sound _ _ _ _ ?_ | (refine DrawA.intro (id := 1) [[7,8,9,10,11,12,13,14,15,16,17],[6,8,10,11,12,13,14,15,16,17],[6,7,10,11,12,13,14,15,16,17],[6,10,11,12,13,14,15,16,17],[6,7,8,9,11,12,13,16],[6,7,8,9,10,12,16],[6,7,8,9,10,11,16],[6,7,8,9,10,16],[6,7,8,9,16],[6,7,8,9,16],[6,7,8,9,10,11,12,13,14,15],[6,7,8,9],[],[]] [[],[0],[0,1],[0],[0,1,2,3],[0,1,2,3,4],[0,1,2,3,4,5],[0,1,2,3,4],[0,1,2,3],[0,1,2,3],[0,1,2,3,4,5,6,7,8,9],[0,1,2,3],[],[]] (by decide +kernel) mixed ?_) | skip); simp only [go_sem, sevalprocAttr, ↓reduceIte, reduceCtorEq, g0, g1, hk, hS]) | (refine gspDI ?_ ?_ <;> (intro _hh; (try simp only [_hh]); revert _hh)) | refine gspLI ?_ ?_ | refine condLI ?_ ?_ | refine gspI ?_ ?_ | refine And.intro ?_ ?_ | with_reducible intro _hh | trivial | (simp only [cl1, cl2, cl3, List.length_cons, List.length_nil, List.length_append]; omega))
  all_goals exact hK
theorem fr_ok {H : Hp} : ∀ {fr : Fr}, fr.all (fun q => s3 H q.2) = true → ∀ t, fget fr t = .any ∨ s3 H (fget fr t) = true
  | [], _, t => .inl rfl
  | (s, x) :: r, h, t => by
    simp only [List.all_cons, Bool.and_eq_true] at h
    simp only [fget]
    split
    · exact .inr h.1
    · exact fr_ok h.2 t
theorem call_products (p q : List (Int × Int)) (low : Int) (zs : List Int) (N : Nat) (hN : zs.length = N) (hl : -2000000 ≤ low ∧ low ≤ 2000000) (hN2 : N ≤ 4000000) (hp : cfits p) (hq : cfits q) (hpl : p.length ≤ 500000) (hql : q.length ≤ 500000)
    (hx : ∀ i j, i < p.length → j < q.length → low ≤ (p.getD i (0, 0)).1 + (q.getD j (0, 0)).1 ∧ (p.getD i (0, 0)).1 + (q.getD j (0, 0)).1 < low + N) (hpe : ∀ i, i < p.length → -2000000 ≤ (p.getD i (0, 0)).1 ∧ (p.getD i (0, 0)).1 ≤ 2000000) (hqe : ∀ i, i < q.length → -2000000 ≤ (q.getD i (0, 0)).1 ∧ (q.getD i (0, 0)).1 ≤ 2000000)
    {fr : Fr} {K : AV → Fr → Hp → Prop} (hfr : ∀ H' : Hp, (hget H' 0).isSome = true → (hget H' 1).isSome = true → (hget H' 2).isSome = true → (hget H' 13).isSome = true → (hget H' 14).isSome = true → (hget H' 15).isSome = true → ∀ t, fget fr t = .any ∨ s3 H' (fget fr t) = true)
    (hK : K (.tup []) fr ((17, .cells 29 (.lst [.bool false, tmA q])) :: (16, .cells 29 (.lst [.bool false, tmA p])) :: mulH p q low N (pz1 p q low p.length zs))) :
    CallI Tryz.prog 60 [plA false p, plA false q, .fn 61 [.ptr 15 0, .ptr 13 0]] fr (mulH p q low N zs) K := by
  have hcp := tmC_len p
  have hcq := tmC_len q
  refine CallI.intro [] Tryz.func60 rfl rfl (by decide) (by simp [Tryz.ntmps60]) ?_; rw [Tryz.ntmps60]
  repeat' (first | omega | ((first | refine awC_sound _ _ _ _ ?_ | skip); simp only [go_sem, sevalprocAttr, ↓reduceIte, reduceCtorEq]) | (refine gspDI ?_ ?_ <;> (intro _hh; (try simp only [_hh]); revert _hh)) | refine gspLI ?_ ?_ | refine condLI ?_ ?_ | refine gspI ?_ ?_ | refine And.intro ?_ ?_ | with_reducible intro _hh | trivial | (simp only [cl1, cl2, cl3, List.length_cons, List.length_nil, List.length_append]; omega))
  refine LoopA.intro (fun n fr' H => ∃ i : Nat, i ≤ p.length ∧ n = p.length - i ∧ fr' = [(13, I i), (12, I p.length), (11, tmA p), (4, .ptr 17 0), (3, .ptr 16 0), (2, .fn 61 [.ptr 15 0, .ptr 13 0])] ++ lft fr ∧ H = (17, .cells 29 (.lst [.bool false, tmA q])) :: (16, .cells 29 (.lst [.bool false, tmA p])) :: mulH p q low N (pz1 p q low i zs)) ?_ ?_
  · refine ⟨_, _, _, ?_, 0, by omega, rfl, rfl, rfl⟩
    refine Wk.app ?_ ?_ (hfr _ rfl rfl rfl rfl rfl rfl) (fun t ht => ?_) rfl <;> (simp only [go_sem, sevalprocAttr, ↓reduceIte, reduceCtorEq, tmC_s3, pz1])
    all_goals repeat rw [if_neg (by omega)]
  rintro n fr' H ⟨i, hi, rfl, rfl, rfl⟩
  by_cases hil : i < p.length
  · have t0 := tmC_get0 p i hil
    have t1 := tmC_get1 p i hil
    have hpi := hpe i hil
    have hci := cfits_get hp hil
    have hxi := fun j => hx i j hil
    have eP : pz1 p q low (i + 1) zs = pz2 q low (p.getD i (0, 0)).1 (p.getD i (0, 0)).2 q.length (pz1 p q low i zs) := rfl
    obtain ⟨e1, he1⟩ : ∃ e1, e1 = (p.getD i (0, 0)).1 := ⟨_, rfl⟩
    obtain ⟨c1, hc1⟩ : ∃ c1, c1 = (p.getD i (0, 0)).2 := ⟨_, rfl⟩
    rw [← he1] at t0 hpi hxi eP
    rw [← hc1] at t1 hci eP
    clear he1 hc1
    have hzl := pz1_len p q low i zs
    rw [hN] at hzl
    generalize pz1 p q low i zs = zs1 at *
    repeat' (first | omega | ((first | refine awC_sound _ _ _ _ ?_ | skip); simp only [go_sem, sevalprocAttr, ↓reduceIte, reduceCtorEq, t0, t1, hcp]) | (refine gspDI ?_ ?_ <;> (intro _hh; (try simp only [_hh]); revert _hh)) | refine gspLI ?_ ?_ | refine condLI ?_ ?_ | refine gspI ?_ ?_ | refine And.intro ?_ ?_ | with_reducible intro _hh | trivial | (simp only [cl1, cl2, cl3, List.length_cons, List.length_nil, List.length_append]; omega))
    refine LoopA.intro (fun n fr' H => ∃ j : Nat, j ≤ q.length ∧ n = q.length - j ∧ fr' = [(20, I j), (19, I q.length), (18, tmA q), (7, .ptr 18 0), (13, I i), (12, I p.length), (11, tmA p), (4, .ptr 17 0), (3, .ptr 16 0), (2, .fn 61 [.ptr 15 0, .ptr 13 0])] ++ lft fr ∧ H = (18, .cells 65 (.lst [I e1, I c1])) :: (17, .cells 29 (.lst [.bool false, tmA q])) :: (16, .cells 29 (.lst [.bool false, tmA p])) :: mulH p q low N (pz2 q low e1 c1 j zs1)) ?_ ?_
    · refine ⟨_, _, _, ?_, 0, by omega, rfl, rfl, rfl⟩
      refine Wk.app ?_ ?_ (hfr _ rfl rfl rfl rfl rfl rfl) (fun t ht => ?_) rfl <;> (simp only [go_sem, sevalprocAttr, ↓reduceIte, reduceCtorEq, tmC_s3, pz2])
      all_goals repeat rw [if_neg (by omega)]
    rintro n fr' H ⟨j, hj, rfl, rfl, rfl⟩
    by_cases hjl : j < q.length
    · have s0 := tmC_get0 q j hjl
      have s1 := tmC_get1 q j hjl
      have hqj := hqe j hjl
      have hcj := cfits_get hq hjl
      have hxj := hxi j hjl
      have eQ : pz2 q low e1 c1 (j + 1) zs1 = (pz2 q low e1 c1 j zs1).set (e1 + (q.getD j (0, 0)).1 - low).toNat ((pz2 q low e1 c1 j zs1).getD (e1 + (q.getD j (0, 0)).1 - low).toNat 0 + c1 * (q.getD j (0, 0)).2) := rfl
      obtain ⟨e2, he2⟩ : ∃ e2, e2 = (q.getD j (0, 0)).1 := ⟨_, rfl⟩
      obtain ⟨c2, hc2⟩ : ∃ c2, c2 = (q.getD j (0, 0)).2 := ⟨_, rfl⟩
      rw [← he2] at s0 hqj hxj eQ
      rw [← hc2] at s1 hcj eQ
      clear he2 hc2
      have hz2 := pz2_len q low e1 c1 j zs1
      rw [hzl] at hz2
      have hP := fn_product c1 c2 (by omega) (by omega) (by omega) (by omega)
      repeat' (first | omega | ((first | refine awC_sound _ _ _ _ ?_ | (refine DrawA.introL (id := 7) [[25,26,27,28,29,30,31,32,33,34],[24,27,28,30,31,32,33,34],[24,27,28,30,31,32,33,34],[24,25,26,30,31,32,33,34],[24,25,26,30,31,32,33,34],[24,30,31,32,33,34],[24,25,26,27,28,29,32,33],[24,25,26,27,28,29,32,33],[24,25,26,27,28,29,30,31],[24,25,26,27,28,29,30,31],[24,25,26,27,28,29],[]] [[],[0],[0],[0,1,2],[0,1,2],[0],[0,1,2,3,4,5],[0,1,2,3,4,5],[0,1,2,3,4,5,6,7],[0,1,2,3,4,5,6,7],[0,1,2,3,4,5],[]] (by decide +kernel) mixed ?_) | (refine DrawA.intro (id := 7) [[25,26,27,28,29,30,31,32,33,34],[24,27,28,30,31,32,33,34],[24,27,28,30,31,32,33,34],[24,25,26,30,31,32,33,34],[24,25,26,30,31,32,33,34],[24,30,31,32,33,34],[24,25,26,27,28,29,32,33],[24,25,26,27,28,29,32,33],[24,25,26,27,28,29,30,31],[24,25,26,27,28,29,30,31],[24,25,26,27,28,29],[]] [[],[0],[0],[0,1,2],[0,1,2],[0],[0,1,2,3,4,5],[0,1,2,3,4,5],[0,1,2,3,4,5,6,7],[0,1,2,3,4,5,6,7],[0,1,2,3,4,5],[]] (by decide +kernel) mixed ?_) | skip); simp only [go_sem, sevalprocAttr, ↓reduceIte, reduceCtorEq, s0, s1, hcq]) | (refine gspDI ?_ ?_ <;> (intro _hh; (try simp only [_hh]); revert _hh)) | refine gspLI ?_ ?_ | refine condLI ?_ ?_ | refine gspI ?_ ?_ | refine And.intro ?_ ?_ | with_reducible intro _hh | trivial | (simp only [cl1, cl2, cl3, List.length_cons, List.length_nil, List.length_append]; omega))
      refine ⟨CallA.fn rfl hP ?_⟩
      simp only [go_sem, sevalprocAttr, ↓reduceIte, reduceCtorEq, s0, s1, hcq]
      repeat' (first | omega | ((first | refine awC_sound _ _ _ _ ?_ | (refine DrawA.introL (id := 7) [[25,26,27,28,29,30,31,32,33,34],[24,27,28,30,31,32,33,34],[24,27,28,30,31,32,33,34],[24,25,26,30,31,32,33,34],[24,25,26,30,31,32,33,34],[24,30,31,32,33,34],[24,25,26,27,28,29,32,33],[24,25,26,27,28,29,32,33],[24,25,26,27,28,29,30,31],[24,25,26,27,28,29,30,31],[24,25,26,27,28,29],[]] [[],[0],[0],[0,1,2],[0,1,2],[0],[0,1,2,3,4,5],[0,1,2,3,4,5],[0,1,2,3,4,5,6,7],[0,1,2,3,4,5,6,7],[0,1,2,3,4,5],[]] (by decide +kernel) mixed ?_) | (refine DrawA.intro (id := 7) [[25,26,27,28,29,30,31,32,33,34],[24,27,28,30,31,32,33,34],[24,27,28,30,31,32,33,34],[24,25,26,30,31,32,33,34],[24,25,26,30,31,32,33,34],[24,30,31,32,33,34],[24,25,26,27,28,29,32,33],[24,25,26,27,28,29,32,33],[24,25,26,27,28,29,30,31],[24,25,26,27,28,29,30,31],[24,25,26,27,28,29],[]] [[],[0],[0],[0,1,2],[0,1,2],[0],[0,1,2,3,4,5],[0,1,2,3,4,5],[0,1,2,3,4,5,6,7],[0,1,2,3,4,5,6,7],[0,1,2,3,4,5],[]] (by decide +kernel) mixed ?_) | skip); simp only [go_sem, sevalprocAttr, ↓reduceIte, reduceCtorEq, s0, s1, hcq]) | (refine gspDI ?_ ?_ <;> (intro _hh; (try simp only [_hh]); revert _hh)) | refine gspLI ?_ ?_ | refine condLI ?_ ?_ | refine gspI ?_ ?_ | refine And.intro ?_ ?_ | with_reducible intro _hh | trivial | (simp only [cl1, cl2, cl3, List.length_cons, List.length_nil, List.length_append]; omega))
      refine ⟨CallB.inline (call_mul1 p q low (pz2 q low e1 c1 j zs1) e1 c1 e2 c2 (e1 + e2) (c1 * c2) N hz2 hl hxj hN2 ?_)⟩
      rw [← eQ]
      repeat' (first | omega | ((first | refine awC_sound _ _ _ _ ?_ | skip); simp only [go_sem, sevalprocAttr, ↓reduceIte, reduceCtorEq]) | (refine gspDI ?_ ?_ <;> (intro _hh; (try simp only [_hh]); revert _hh)) | refine gspLI ?_ ?_ | refine condLI ?_ ?_ | refine gspI ?_ ?_ | refine And.intro ?_ ?_ | with_reducible intro _hh | trivial | (simp only [cl1, cl2, cl3, List.length_cons, List.length_nil, List.length_append]; omega))
      refine ⟨_, _, _, ?_, ?_, ⟨j + 1, by omega, rfl, rfl, rfl⟩⟩
      · omega
      · refine Wk.app (A := [(20, I ((j + 1 : Nat) : Int)), (19, I q.length), (18, tmA q), (7, .ptr 18 0), (13, I i), (12, I p.length), (11, tmA p), (4, .ptr 17 0), (3, .ptr 16 0), (2, .fn 61 [.ptr 15 0, .ptr 13 0])]) ?_ ?_ (hfr _ rfl rfl rfl rfl rfl rfl) (fun t ht => ?_) rfl <;> (simp only [go_sem, sevalprocAttr, ↓reduceIte, reduceCtorEq, tmC_s3])
        all_goals first | omega | repeat rw [if_neg (by omega)]
    · obtain rfl : j = q.length := by omega
      repeat' (first | omega | ((first | refine awC_sound _ _ _ _ ?_ | skip); simp only [go_sem, sevalprocAttr, ↓reduceIte, reduceCtorEq]) | (refine gspDI ?_ ?_ <;> (intro _hh; (try simp only [_hh]); revert _hh)) | refine gspLI ?_ ?_ | refine condLI ?_ ?_ | refine gspI ?_ ?_ | refine And.intro ?_ ?_ | with_reducible intro _hh | trivial | (simp only [cl1, cl2, cl3, List.length_cons, List.length_nil, List.length_append]; omega))
      refine ⟨_, _, _, ?_, ?_, ⟨i + 1, by omega, rfl, rfl, rfl⟩⟩
      · omega
      · rw [eP]
        refine Wk.app (A := [(13, I ((i + 1 : Nat) : Int)), (12, I p.length), (11, tmA p), (4, .ptr 17 0), (3, .ptr 16 0), (2, .fn 61 [.ptr 15 0, .ptr 13 0])]) ?_ ?_ (hfr _ rfl rfl rfl rfl rfl rfl) (fun t ht => ?_) rfl <;> (simp only [go_sem, sevalprocAttr, ↓reduceIte, reduceCtorEq, tmC_s3])
        all_goals first | omega | repeat rw [if_neg (by omega)]
  · obtain rfl : i = p.length := by omega
    repeat' (first | omega | ((first | refine awC_sound _ _ _ _ ?_ | skip); simp only [go_sem, sevalprocAttr, ↓reduceIte, reduceCtorEq]) | (refine gspDI ?_ ?_ <;> (intro _hh; (try simp only [_hh]); revert _hh)) | refine gspLI ?_ ?_ | refine condLI ?_ ?_ | refine gspI ?_ ?_ | refine And.intro ?_ ?_ | with_reducible intro _hh | trivial | (simp only [cl1, cl2, cl3, List.length_cons, List.length_nil, List.length_append]; omega))
    all_goals exact hK
end Go.Proofs.YtalmkaiiffodnaaGreatDoor
