/- Layer 12: products of polynomials: the sums of the products. -/
import Derived.Test.YtalmkaiiffodnaaGreatDoorWd2
import Derived.Test.YtalmkaiiffodnaaGreatDoorLa3
set_option linter.unusedSimpArgs false
set_option linter.unusedVariables false
namespace Go.Proofs.YtalmkaiiffodnaaGreatDoor
open Go Go.RowKit
set_option maxHeartbeats 8000000
set_option maxRecDepth 100000
theorem Wk.app {F A fr : Fr} {H H' : Hp} (hA : subF F H' A) (hH : subH H H' H') (hfr : ∀ t, fget fr t = .any ∨ s3 H' (fget fr t) = true) (h2 : ∀ t, 1000000 ≤ t → fget F t = fget (lft fr) t) (hl : A.all (fun q => decide (q.1 < 1000000)) = true) : Wk F H (A ++ lft fr) H' := by
  have hf : ∀ t, fget (A ++ lft fr) t = .any ∨ (fget (A ++ lft fr) t = fget F t ∧ s3 H' (fget (A ++ lft fr) t) = true) := by
    intro t
    have key : ∀ (A : Fr), subF F H' A → A.all (fun q => decide (q.1 < 1000000)) = true → fget (A ++ lft fr) t = .any ∨ (fget (A ++ lft fr) t = fget F t ∧ s3 H' (fget (A ++ lft fr) t) = true) := by
      intro A
      induction A with
      | nil =>
        intro _ _
        rw [List.nil_append]
        rcases Nat.lt_or_ge t 1000000 with h | h
        · left; rw [fget_lft, if_neg (by omega)]
        · have e := h2 t h
          rw [← e]
          rw [fget_lft, if_pos h] at e
          rcases hfr (t - 1000000) with g | g
          · left; rw [e]; exact g
          · right; exact ⟨rfl, by rw [e]; exact g⟩
      | cons q A ih =>
        intro h1 h3
        obtain ⟨t', x⟩ := q
        obtain ⟨g1, g2, g3⟩ := h1
        simp only [List.all_cons, Bool.and_eq_true] at h3
        rw [List.cons_append]
        simp only [fget]
        split
        · rename_i e; subst e; right; exact ⟨g1.symm, g2⟩
        · exact ih g3 h3.2
    exact key A hA hl
  intro B w0 Mx N w ρ a hs
  refine ⟨ρ, (hs.weaken (fun id o ho => (subH_get hH id o ho).1) (fun t => (hf t).imp id (·.1)) (fun id o ho M hr => ?_) (fun t M v hv => ?_))⟩
  · have hso := (subH_get hH id o ho).2
    cases o with
    | gone => trivial
    | cells t c =>
      obtain ⟨k1, arr, k2, k3, k4⟩ := hr
      refine ⟨k1, arr, k2, k3, fun j hj => ?_⟩
      obtain ⟨u, hu, hv⟩ := k4 j hj
      refine ⟨u, hu, ?_⟩
      cases c with
      | ints l => exact hv.pure1 rfl
      | bools l => exact hv.pure1 rfl
      | lst l =>
        simp only [Cs.len] at hj
        simp only [Cs.get, List.getD_eq_getElem?_getD, List.getElem?_eq_getElem hj, Option.getD_some] at hv ⊢
        exact hv.sc3 (List.all_eq_true.1 hso _ (List.getElem_mem hj))
    | imap t l =>
      obtain ⟨k0, es, ck, k1, k2, k3⟩ := hr
      exact ⟨k0, es, ck, k1, k2, fun j e k x he hl => let ⟨g1, g2, g3⟩ := k3 j e k x he hl; ⟨g1, g2.sc3 (List.all_eq_true.1 hso (k, x) (List.mem_of_getElem? hl)), g3⟩⟩
    | fmap t c => exact hr
  · rcases hf t with e | ⟨_, e⟩
    · rw [e]; exact .any _
    · exact hv.sc3 e
def wdC (zs : List Int) : List AV := zs.flatMap fun z => [.int .u64 (z / 18446744073709551616 % 18446744073709551616), .int .u64 (z % 18446744073709551616)]
theorem wdC_len (p : List Int) : (wdC p).length = 2 * p.length := by
  unfold wdC; induction p with
  | nil => rfl
  | cons x p ih => simp [ih]; omega
theorem wdC_get0 (p : List Int) (i : Nat) (h : i < p.length) : (wdC p).getD (i * 2) .any = .int .u64 (p.getD i 0 / 18446744073709551616 % 18446744073709551616) := by
  unfold wdC; induction p generalizing i with
  | nil => simp at h
  | cons x p ih =>
    cases i with
    | zero => simp
    | succ i =>
      have := ih i (by simpa using h)
      simp only [List.flatMap_cons, List.getD_cons_succ]
      rw [show (i + 1) * 2 = i * 2 + 1 + 1 by omega]
      simpa using this
theorem wdC_get1 (p : List Int) (i : Nat) (h : i < p.length) : (wdC p).getD (i * 2 + 1) .any = .int .u64 (p.getD i 0 % 18446744073709551616) := by
  unfold wdC; induction p generalizing i with
  | nil => simp at h
  | cons x p ih =>
    cases i with
    | zero => simp
    | succ i =>
      have := ih i (by simpa using h)
      simp only [List.flatMap_cons, List.getD_cons_succ]
      rw [show (i + 1) * 2 + 1 = i * 2 + 1 + 1 + 1 by omega]
      simpa using this
theorem wdC_set (p : List Int) (i : Nat) (z : Int) : ((wdC p).set (i * 2) (.int .u64 (z / 18446744073709551616 % 18446744073709551616))).set (i * 2 + 1) (.int .u64 (z % 18446744073709551616)) = wdC (p.set i z) := by
  unfold wdC; induction p generalizing i with
  | nil => simp
  | cons x p ih =>
    cases i with
    | zero => simp
    | succ i =>
      have := ih i
      simp only [List.flatMap_cons, List.set_cons_succ, List.cons_append, List.nil_append]
      rw [show (i + 1) * 2 + 1 = i * 2 + 1 + 1 + 1 by omega, show (i + 1) * 2 = i * 2 + 1 + 1 by omega]
      simp only [List.set_cons_succ]
      rw [this]
theorem wdC_zero (n : Nat) : (List.replicate n [AV.int .u64 0, AV.int .u64 0]).flatten = wdC (List.replicate n 0) := by
  unfold wdC; induction n with
  | zero => rfl
  | succ n ih => simp [List.replicate_succ, ih]
theorem wdC_mem {p : List Int} {x : AV} (h : x ∈ wdC p) : ∃ n, x = .int .u64 n := by
  simp only [wdC, List.mem_flatMap] at h
  obtain ⟨z, _, h⟩ := h
  simp at h
  rcases h with rfl | rfl <;> exact ⟨_, rfl⟩
theorem wdC_s3 (H : Hp) (p : List Int) : (wdC p).all (s3 H) = true := List.all_eq_true.2 fun x hx => by obtain ⟨n, rfl⟩ := wdC_mem hx; rfl
attribute [go_sem] wdC_s3
theorem fn_Low (p : List (Int × Int)) (h : 0 < p.length) : Fn Tryz.prog 15 [plA false p] (I (p.getD 0 (0, 0)).1) := by
  have hc := tmC_len p
  have e := tmC_get0 p 0 h
  rw [Nat.zero_mul] at e
  have b0 : ((p.length : Int) == 0) = false := by rw [beq_eq_false_iff_ne]; omega
  refine Fn.intro [.tmp 2] Tryz.func15 rfl rfl (by decide) (by simp [Tryz.ntmps15]) ?_; rw [Tryz.ntmps15]
  repeat' (first | omega | ((first | refine awC_sound _ _ _ _ ?_ | skip); simp only [go_sem, sevalprocAttr, ↓reduceIte, reduceCtorEq, b0, e, hc]) | (refine gspDI ?_ ?_ <;> (intro _hh; (try simp only [_hh]); revert _hh)) | refine gspLI ?_ ?_ | refine condLI ?_ ?_ | refine gspI ?_ ?_ | refine And.intro ?_ ?_ | with_reducible intro _hh | trivial | (simp only [cl1, cl2, cl3, List.length_cons, List.length_nil, List.length_append]; omega))
theorem fn_High (p : List (Int × Int)) (h : 0 < p.length) (hp : p.length ≤ 1000000) : Fn Tryz.prog 14 [plA false p] (I (p.getD (p.length - 1) (0, 0)).1) := by
  have hc := tmC_len p
  have e := tmC_get0 p (p.length - 1) (by omega)
  have b0 : ((p.length : Int) == 0) = false := by rw [beq_eq_false_iff_ne]; omega
  have e1 : ((p.length : Int) - 1).toNat = p.length - 1 := by omega
  refine Fn.intro [.tmp 2] Tryz.func14 rfl rfl (by decide) (by simp [Tryz.ntmps14]) ?_; rw [Tryz.ntmps14]
  repeat' (first | omega | ((first | refine awC_sound _ _ _ _ ?_ | skip); simp only [go_sem, sevalprocAttr, ↓reduceIte, reduceCtorEq, b0, e, e1, hc]) | (refine gspDI ?_ ?_ <;> (intro _hh; (try simp only [_hh]); revert _hh)) | refine gspLI ?_ ?_ | refine condLI ?_ ?_ | refine gspI ?_ ?_ | refine And.intro ?_ ?_ | with_reducible intro _hh | trivial | (simp only [cl1, cl2, cl3, List.length_cons, List.length_nil, List.length_append]; omega))
abbrev mulH (p q : List (Int × Int)) (low : Int) (N : Nat) (zs : List Int) : Hp := [(15, .cells 91 (.lst [.sl 2 14 0 N])), (14, .cells 95 (.lst (wdC zs))), (13, .cells 3 (.lst [I low])), (2, .cells 29 (.lst [.bool false, .nils])), (1, .cells 29 (.lst [.bool false, tmA q])), (0, .cells 29 (.lst [.bool false, tmA p]))]
end Go.Proofs.YtalmkaiiffodnaaGreatDoor
