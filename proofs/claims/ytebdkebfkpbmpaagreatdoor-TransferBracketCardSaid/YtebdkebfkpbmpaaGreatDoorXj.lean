/- Layer 12: products of polynomials: the sums of the products. -/
import Derived.Test.YtebdkebfkpbmpaaGreatDoorXi
import Derived.Test.YtebdkebfkpbmpaaGreatDoorLa0
set_option linter.unusedSimpArgs false
set_option linter.unusedVariables false
namespace Go.Proofs.YtebdkebfkpbmpaaGreatDoor
open Go Go.RowKit
set_option maxHeartbeats 8000000
set_option maxRecDepth 100000
theorem Wk.app {F A fr : Fr} {H H' : Hp} (hA : subF F H' A) (hH : subH H H' H') (hfr : ∀ t, fget fr t = .any \/ s3 H' (fget fr t) = true) (h2 : ∀ t, 1000000 <= t -> fget F t = fget (lft fr) t) (hl : A.all (fun q => decide (q.1 < 1000000)) = true) : Wk F H (A ++ lft fr) H' := by
 have hf : ∀ t, fget (A ++ lft fr) t = .any \/ (fget (A ++ lft fr) t = fget F t /\ s3 H' (fget (A ++ lft fr) t) = true) := by
  intro t
  have key : ∀ (A : Fr), subF F H' A -> A.all (fun q => decide (q.1 < 1000000)) = true -> fget (A ++ lft fr) t = .any \/ (fget (A ++ lft fr) t = fget F t /\ s3 H' (fget (A ++ lft fr) t) = true) := by
   intro A
   induction A with
   | nil =>
     intro _ _
     rw [List.nil_append]
     rcases Nat.lt_or_ge t 1000000 with h | h
     ·left; rw [ycc, if_neg (by omega)]
     ·have e := h2 t h
      rw [← e]
      rw [ycc, if_pos h] at e
      rcases hfr (t - 1000000) with g | g
      ·left; rw [e]; exact g
      ·right; exact ⟨rfl, by rw [e]; exact g⟩
   | cons q A ih =>
     intro h1 h3
     obtain ⟨t', x⟩ := q
     obtain ⟨g1, g2, g3⟩ := h1
     simp only [List.all_cons, Bool.and_eq_true] at h3
     rw [List.cons_append]
     simp only [fget]
     split
     ·rename_i e; subst e; right; exact ⟨g1.symm, g2⟩
     ·exact ih g3 h3.2
  exact key A hA hl
 intro B w0 Mx N w ρ a hs
 refine ⟨ρ, (hs.weaken (fun id o ho => (yeb hH id o ho).1) (fun t => (hf t).imp id (·.1)) (fun id o ho M hr => ?_) (fun t M v hv => ?_))⟩
 ·have hso := (yeb hH id o ho).2
  cases o with
  | gone => trivial
  | cells t c =>
    obtain ⟨k1, arr, k2, k3, k4⟩ := hr
    refine ⟨k1, arr, k2, k3, fun j hj => ?_⟩
    obtain ⟨u, hu, hv⟩ := k4 j hj
    refine ⟨u, hu, ?_⟩
    cases c with
    | ints l => exact hv.pure1 rfl
    | bools l => exact hv.pure1 rfl
    | lst l =>
      simp only [Cs.len] at hj
      simp only [Cs.get, List.getD_eq_getElem?_getD, List.getElem?_eq_getElem hj, Option.getD_some] at hv ⊢
      exact hv.sc3 (List.all_eq_true.1 hso _ (List.getElem_mem hj))
  | gmap t ck l =>
    obtain ⟨es, k1, k2, k3⟩ := hr
    exact ⟨es, k1, k2, fun j e q he hl => let ⟨g1, g2, g3⟩ := k3 j e q he hl; ⟨g1, g2, g3.sc3 (List.all_eq_true.1 hso q (List.mem_of_getElem? hl))⟩⟩
  | iter mid s sn la =>
    obtain ⟨_, k2, k3⟩ := hr
    exact ⟨Option.isSome_iff_exists.1 hso, k2, k3⟩
  | imap t l =>
    obtain ⟨k0, es, ck, k1, k2, k3⟩ := hr
    exact ⟨k0, es, ck, k1, k2, fun j e k x he hl => let ⟨g1, g2, g3⟩ := k3 j e k x he hl; ⟨g1, g2.sc3 (List.all_eq_true.1 hso (k, x) (List.mem_of_getElem? hl)), g3⟩⟩
  | fmap t c => exact hr
 ·rcases hf t with e | ⟨_, e⟩
  ·rw [e]; exact .any _
  ·exact hv.sc3 e
def wdC (zs : List Int) : List AV := zs.flatMap fun z => [.int .u64 (z / 18446744073709551616 % 18446744073709551616), .int .u64 (z % 18446744073709551616)]
theorem yue (p : List Int) : (wdC p).length = 2 * p.length := by
 unfold wdC; induction p with
 | nil => rfl
 | cons x p ih => simp [ih]; omega
theorem yrx (p : List Int) (i : Nat) (h : i < p.length) : (wdC p).getD (i * 2) .any = .int .u64 (p.getD i 0 / 18446744073709551616 % 18446744073709551616) := by
 unfold wdC; induction p generalizing i with
 | nil => simp at h
 | cons x p ih =>
   cases i with
   | zero => simp
   | succ i =>
     have := ih i (by simpa using h)
     simp only [List.flatMap_cons, List.getD_cons_succ]
     rw [show (i + 1) * 2 = i * 2 + 1 + 1 by omega]
     simpa using this
theorem yry (p : List Int) (i : Nat) (h : i < p.length) : (wdC p).getD (i * 2 + 1) .any = .int .u64 (p.getD i 0 % 18446744073709551616) := by
 unfold wdC; induction p generalizing i with
 | nil => simp at h
 | cons x p ih =>
   cases i with
   | zero => simp
   | succ i =>
     have := ih i (by simpa using h)
     simp only [List.flatMap_cons, List.getD_cons_succ]
     rw [show (i + 1) * 2 + 1 = i * 2 + 1 + 1 + 1 by omega]
     simpa using this
theorem y60 (p : List Int) (i : Nat) (z : Int) : ((wdC p).set (i * 2) (.int .u64 (z / 18446744073709551616 % 18446744073709551616))).set (i * 2 + 1) (.int .u64 (z % 18446744073709551616)) = wdC (p.set i z) := by
 unfold wdC; induction p generalizing i with
 | nil => simp
 | cons x p ih =>
   cases i with
   | zero => simp
   | succ i =>
     have := ih i
     simp only [List.flatMap_cons, List.set_cons_succ, List.cons_append, List.nil_append]
     rw [show (i + 1) * 2 + 1 = i * 2 + 1 + 1 + 1 by omega, show (i + 1) * 2 = i * 2 + 1 + 1 by omega]
     simp only [List.set_cons_succ]
     rw [this]
theorem y2s (n : Nat) : (List.replicate n [AV.int .u64 0, AV.int .u64 0]).flatten = wdC (List.replicate n 0) := by
 unfold wdC; induction n with
 | zero => rfl
 | succ n ih => simp [List.replicate_succ, ih]
theorem yuf {p : List Int} {x : AV} (h : x ∈ wdC p) : ∃ n, x = .int .u64 n := by
 simp only [wdC, List.mem_flatMap] at h
 obtain ⟨z, _, h⟩ := h
 simp at h
 rcases h with rfl | rfl <;> exact ⟨_, rfl⟩
theorem y8z (H : Hp) (p : List Int) : (wdC p).all (s3 H) = true := List.all_eq_true.2 fun x hx => by obtain ⟨n, rfl⟩ := yuf hx; rfl
attribute [go_sem] y8z
theorem yza (p : List (Int × Int)) (h : 0 < p.length) : Fn Tryz.prog 37 [plA false p] (I (p.getD 0 (0, 0)).1) := by
 have hc := ybh p
 have e := ycf p 0 h
 rw [Nat.zero_mul] at e
 have b0 : ((p.length : Int) == 0) = false := by rw [beq_eq_false_iff_ne]; omega
 refine Fn.intro [.tmp 2] Tryz.func37 rfl rfl (by decide) (by simp [Tryz.ntmps37]) ?_; rw [Tryz.ntmps37]
 repeat' (first | omega | ((try apply yaa); simp only [go_sem, sevalprocAttr, b0, e, hc]) | (apply yad <;> (intro h_; (try simp only [h_]); revert h_)) | apply yac | apply yab | apply gspI | apply And.intro | with_reducible intro h_ | trivial | (simp only [go_sem, la2]; omega))
theorem yug (p : List (Int × Int)) (h : 0 < p.length) (hp : p.length <= 1000000) : Fn Tryz.prog 38 [plA false p] (I (p.getD (p.length - 1) (0, 0)).1) := by
 have hc := ybh p
 have e := ycf p (p.length - 1) (by omega)
 have b0 : ((p.length : Int) == 0) = false := by rw [beq_eq_false_iff_ne]; omega
 have e1 : ((p.length : Int) - 1).toNat = p.length - 1 := by omega
 refine Fn.intro [.tmp 2] Tryz.func38 rfl rfl (by decide) (by simp [Tryz.ntmps38]) ?_; rw [Tryz.ntmps38]
 repeat' (first | omega | ((try apply yaa); simp only [go_sem, sevalprocAttr, b0, e, e1, hc]) | (apply yad <;> (intro h_; (try simp only [h_]); revert h_)) | apply yac | apply yab | apply gspI | apply And.intro | with_reducible intro h_ | trivial | (simp only [go_sem, la2]; omega))
abbrev mulH (p q : List (Int × Int)) (low : Int) (N : Nat) (zs : List Int) : Hp := [(15, .cells 120 (.lst [.sl 2 14 0 N])), (14, .cells 102 (.lst (wdC zs))), (13, .cells 3 (.lst [I low])), (2, .cells 28 (.lst [.bool false, .nils])), (1, .cells 28 (.lst [.bool false, tmA q])), (0, .cells 28 (.lst [.bool false, tmA p]))]
end Go.Proofs.YtebdkebfkpbmpaaGreatDoor
set_option linter.unusedSimpArgs false
set_option linter.unusedVariables false
namespace Go.Proofs.YtebdkebfkpbmpaaGreatDoor
open Go Go.RowKit
set_option maxHeartbeats 8000000
set_option maxRecDepth 100000
def ym5 : List (List Nat) := [[7,8,9,10,11,12,13,14,15,16,17],[6,8,10,11,12,13,14,15,16,17],[6,7,10,11,12,13,14,15,16,17],[6,10,11,12,13,14,15,16,17],[6,7,8,9,11,12,13,16],[6,7,8,9,10,12,16],[6,7,8,9,10,11,16],[6,7,8,9,10,16],[6,7,8,9,16],[6,7,8,9,16],[6,7,8,9,10,11,12,13,14,15],[6,7,8,9],[],[]]
def ym6 : List (List Nat) := [[],[0],[0,1],[0],[0,1,2,3],[0,1,2,3,4],[0,1,2,3,4,5],[0,1,2,3,4],[0,1,2,3],[0,1,2,3],[0,1,2,3,4,5,6,7,8,9],[0,1,2,3],[],[]]
def yha : List (List Nat) := [[25,26,27,28,29,30,31,32,33,34],[24,27,28,30,31,32,33,34],[24,27,28,30,31,32,33,34],[24,25,26,30,31,32,33,34],[24,25,26,30,31,32,33,34],[24,30,31,32,33,34],[24,25,26,27,28,29,32,33],[24,25,26,27,28,29,32,33],[24,25,26,27,28,29,30,31],[24,25,26,27,28,29,30,31],[24,25,26,27,28,29],[]]
def yhb : List (List Nat) := [[],[0],[0],[0,1,2],[0,1,2],[0],[0,1,2,3,4,5],[0,1,2,3,4,5],[0,1,2,3,4,5,6,7],[0,1,2,3,4,5,6,7],[0,1,2,3,4,5],[]]
abbrev prH (p q : List (Int × Int)) (low : Int) (N : Nat) (zs : List Int) (e1 c1 e2 c2 : Int) : Hp := (19, .cells 73 (.lst [I e2, I c2])) :: (18, .cells 73 (.lst [I e1, I c1])) :: (17, .cells 28 (.lst [.bool false, tmA q])) :: (16, .cells 28 (.lst [.bool false, tmA p])) :: mulH p q low N zs
theorem yzb (p q : List (Int × Int)) (low : Int) (zs : List Int) (e1 c1 e2 c2 e w : Int) (N : Nat) (hN : zs.length = N) (hl : -2000000 <= low /\ low <= 2000000) (he : low <= e /\ e < low + N) (hN2 : N <= 4000000) {fr : Fr} {K : AV -> Fr -> Hp -> Prop}
  (hK : K (.tup []) fr ((20, .cells 102 (.lst [.int .u64 (w / 18446744073709551616 % 18446744073709551616), .int .u64 (w % 18446744073709551616)])) :: prH p q low N (zs.set (e - low).toNat (zs.getD (e - low).toNat 0 + w)) e1 c1 e2 c2)) :
  ybk Tryz.prog 103 [I e, wdA w, .ptr 15 0, .ptr 13 0] fr (prH p q low N zs e1 c1 e2 c2) K := by
 have hi : (e - low).toNat < zs.length := by omega
 have g0 := yrx zs (e - low).toNat hi
 have g1 := yry zs (e - low).toNat hi
 have gl := yue zs
 have hA := y6x (zs.getD (e - low).toNat 0) w
 have hS := y60 zs (e - low).toNat (zs.getD (e - low).toNat 0 + w)
 generalize hk : (e - low).toNat = k at *
 refine ybk.intro [] Tryz.func103 rfl rfl (by decide) (by simp [Tryz.ntmps103]) ?_; rw [Tryz.ntmps103]
 repeat' (first | omega | ((first | apply yaa | (refine yae.intro (id := 1) ym5 ym6 (by decide +kernel) mixed ?_) | skip); simp only [go_sem, sevalprocAttr, g0, g1, hk, ↓reduceIte, reduceCtorEq, ym5, ym6]) | (apply yad <;> (intro h_; (try simp only [h_]); revert h_)) | apply yac | apply yab | apply gspI | apply And.intro | with_reducible intro h_ | trivial | (simp only [go_sem, la2]; omega))
 refine ⟨yau.fn rfl hA ?_⟩
 simp only [go_sem, sevalprocAttr, g0, g1, hk, hS]
 repeat' (first | omega | ((first | apply yaa | (refine yae.intro (id := 1) ym5 ym6 (by decide +kernel) mixed ?_) | skip); simp only [go_sem, sevalprocAttr, g0, g1, hk, hS, ↓reduceIte, reduceCtorEq, ym5, ym6]) | (apply yad <;> (intro h_; (try simp only [h_]); revert h_)) | apply yac | apply yab | apply gspI | apply And.intro | with_reducible intro h_ | trivial | (simp only [go_sem, la2]; omega))
 all_goals exact hK
theorem y35 {H : Hp} : ∀ {fr : Fr}, fr.all (fun q => s3 H q.2) = true -> ∀ t, fget fr t = .any \/ s3 H (fget fr t) = true
 | [], _, t => .inl rfl
 | (s, x) :: r, h, t => by
   simp only [List.all_cons, Bool.and_eq_true] at h
   simp only [fget]
   split
   ·exact .inr h.1
   ·exact y35 h.2 t
theorem yph (p q : List (Int × Int)) (low : Int) (zs : List Int) (N : Nat) (hN : zs.length = N) (hl : -2000000 <= low /\ low <= 2000000) (hN2 : N <= 4000000) (hp : yms p) (hq : yms q) (hpl : p.length <= 500000) (hql : q.length <= 500000)
  (hx : ∀ i j, i < p.length -> j < q.length -> low <= (p.getD i (0, 0)).1 + (q.getD j (0, 0)).1 /\ (p.getD i (0, 0)).1 + (q.getD j (0, 0)).1 < low + N) (hpe : ∀ i, i < p.length -> -2000000 <= (p.getD i (0, 0)).1 /\ (p.getD i (0, 0)).1 <= 2000000) (hqe : ∀ i, i < q.length -> -2000000 <= (q.getD i (0, 0)).1 /\ (q.getD i (0, 0)).1 <= 2000000)
  {fr : Fr} {K : AV -> Fr -> Hp -> Prop} (hfr : ∀ H' : Hp, (hget H' 0).isSome = true -> (hget H' 1).isSome = true -> (hget H' 2).isSome = true -> (hget H' 13).isSome = true -> (hget H' 14).isSome = true -> (hget H' 15).isSome = true -> ∀ t, fget fr t = .any \/ s3 H' (fget fr t) = true)
  (hK : K (.tup []) fr ((17, .cells 28 (.lst [.bool false, tmA q])) :: (16, .cells 28 (.lst [.bool false, tmA p])) :: mulH p q low N (pz1 p q low p.length zs))) :
  ybk Tryz.prog 102 [plA false p, plA false q, .fn 103 [.ptr 15 0, .ptr 13 0]] fr (mulH p q low N zs) K := by
 have hcp := ybh p
 have hcq := ybh q
 refine ybk.intro [] Tryz.func102 rfl rfl (by decide) (by simp [Tryz.ntmps102]) ?_; rw [Tryz.ntmps102]
 repeat' (first | omega | ((try apply yaa); simp only [go_sem, sevalprocAttr]) | (apply yad <;> (intro h_; (try simp only [h_]); revert h_)) | apply yac | apply yab | apply gspI | apply And.intro | with_reducible intro h_ | trivial | (simp only [go_sem, la2]; omega))
 refine yah.intro (fun n fr' H => ∃ i : Nat, i <= p.length /\ n = p.length - i /\ fr' = [(13, I i), (12, I p.length), (11, tmA p), (4, .ptr 17 0), (3, .ptr 16 0), (2, .fn 103 [.ptr 15 0, .ptr 13 0])] ++ lft fr /\ H = (17, .cells 28 (.lst [.bool false, tmA q])) :: (16, .cells 28 (.lst [.bool false, tmA p])) :: mulH p q low N (pz1 p q low i zs)) ?_ ?_
 ·refine ⟨_, _, _, ?_, 0, by omega, rfl, rfl, rfl⟩
  refine Wk.app ?_ ?_ (hfr _ rfl rfl rfl rfl rfl rfl) (fun t ht => ?_) rfl <;> (simp only [go_sem, sevalprocAttr, yaj, pz1])
  all_goals repeat rw [if_neg (by omega)]
 rintro n fr' H ⟨i, hi, rfl, rfl, rfl⟩
 by_cases hil : i < p.length
 ·have t0 := ycf p i hil
  have t1 := ydc p i hil
  have hpi := hpe i hil
  have hci := yo4 hp hil
  have hxi := fun j => hx i j hil
  have eP : pz1 p q low (i + 1) zs = pz2 q low (p.getD i (0, 0)).1 (p.getD i (0, 0)).2 q.length (pz1 p q low i zs) := rfl
  obtain ⟨e1, he1⟩ : ∃ e1, e1 = (p.getD i (0, 0)).1 := ⟨_, rfl⟩
  obtain ⟨c1, hc1⟩ : ∃ c1, c1 = (p.getD i (0, 0)).2 := ⟨_, rfl⟩
  rw [← he1] at t0 hpi hxi eP
  rw [← hc1] at t1 hci eP
  clear he1 hc1
  have hzl := yg0 p q low i zs
  rw [hN] at hzl
  generalize pz1 p q low i zs = zs1 at *
  repeat' (first | omega | ((try apply yaa); simp only [go_sem, sevalprocAttr, t0, t1, hcp]) | (apply yad <;> (intro h_; (try simp only [h_]); revert h_)) | apply yac | apply yab | apply gspI | apply And.intro | with_reducible intro h_ | trivial | (simp only [go_sem, la2]; omega))
  refine yah.intro (fun n fr' H => ∃ j : Nat, j <= q.length /\ n = q.length - j /\ fr' = [(20, I j), (19, I q.length), (18, tmA q), (7, .ptr 18 0), (13, I i), (12, I p.length), (11, tmA p), (4, .ptr 17 0), (3, .ptr 16 0), (2, .fn 103 [.ptr 15 0, .ptr 13 0])] ++ lft fr /\ H = (18, .cells 73 (.lst [I e1, I c1])) :: (17, .cells 28 (.lst [.bool false, tmA q])) :: (16, .cells 28 (.lst [.bool false, tmA p])) :: mulH p q low N (pz2 q low e1 c1 j zs1)) ?_ ?_
  ·refine ⟨_, _, _, ?_, 0, by omega, rfl, rfl, rfl⟩
   refine Wk.app ?_ ?_ (hfr _ rfl rfl rfl rfl rfl rfl) (fun t ht => ?_) rfl <;> (simp only [go_sem, sevalprocAttr, yaj, pz2])
   all_goals repeat rw [if_neg (by omega)]
  rintro n fr' H ⟨j, hj, rfl, rfl, rfl⟩
  by_cases hjl : j < q.length
  ·have s0 := ycf q j hjl
   have s1 := ydc q j hjl
   have hqj := hqe j hjl
   have hcj := yo4 hq hjl
   have hxj := hxi j hjl
   have eQ : pz2 q low e1 c1 (j + 1) zs1 = (pz2 q low e1 c1 j zs1).set (e1 + (q.getD j (0, 0)).1 - low).toNat ((pz2 q low e1 c1 j zs1).getD (e1 + (q.getD j (0, 0)).1 - low).toNat 0 + c1 * (q.getD j (0, 0)).2) := rfl
   obtain ⟨e2, he2⟩ : ∃ e2, e2 = (q.getD j (0, 0)).1 := ⟨_, rfl⟩
   obtain ⟨c2, hc2⟩ : ∃ c2, c2 = (q.getD j (0, 0)).2 := ⟨_, rfl⟩
   rw [← he2] at s0 hqj hxj eQ
   rw [← hc2] at s1 hcj eQ
   clear he2 hc2
   have hz2 := yjn q low e1 c1 j zs1
   rw [hzl] at hz2
   have hP := yv7 c1 c2 (by omega) (by omega) (by omega) (by omega)
   repeat' (first | omega | ((first | apply yaa | (refine yae.introL (id := 7) yha yhb (by decide +kernel) mixed ?_) | (refine yae.intro (id := 7) yha yhb (by decide +kernel) mixed ?_) | skip); simp only [go_sem, sevalprocAttr, s0, s1, hcq, ↓reduceIte, reduceCtorEq, yha, yhb]) | (apply yad <;> (intro h_; (try simp only [h_]); revert h_)) | apply yac | apply yab | apply gspI | apply And.intro | with_reducible intro h_ | trivial | (simp only [go_sem, la2]; omega))
   refine ⟨yau.fn rfl hP ?_⟩
   simp only [go_sem, sevalprocAttr, s0, s1, hcq]
   repeat' (first | omega | ((first | apply yaa | (refine yae.introL (id := 7) yha yhb (by decide +kernel) mixed ?_) | (refine yae.intro (id := 7) yha yhb (by decide +kernel) mixed ?_) | skip); simp only [go_sem, sevalprocAttr, s0, s1, hcq, ↓reduceIte, reduceCtorEq, yha, yhb]) | (apply yad <;> (intro h_; (try simp only [h_]); revert h_)) | apply yac | apply yab | apply gspI | apply And.intro | with_reducible intro h_ | trivial | (simp only [go_sem, la2]; omega))
   refine ⟨yaf.inline (yzb p q low (pz2 q low e1 c1 j zs1) e1 c1 e2 c2 (e1 + e2) (c1 * c2) N hz2 hl hxj hN2 ?_)⟩
   rw [← eQ]
   repeat' (first | omega | ((try apply yaa); simp only [go_sem, sevalprocAttr]) | (apply yad <;> (intro h_; (try simp only [h_]); revert h_)) | apply yac | apply yab | apply gspI | apply And.intro | with_reducible intro h_ | trivial | (simp only [go_sem, la2]; omega))
   refine ⟨_, _, _, ?_, ?_, ⟨j + 1, by omega, rfl, rfl, rfl⟩⟩
   ·omega
   ·refine Wk.app (A := [(20, I ((j + 1 : Nat) : Int)), (19, I q.length), (18, tmA q), (7, .ptr 18 0), (13, I i), (12, I p.length), (11, tmA p), (4, .ptr 17 0), (3, .ptr 16 0), (2, .fn 103 [.ptr 15 0, .ptr 13 0])]) ?_ ?_ (hfr _ rfl rfl rfl rfl rfl rfl) (fun t ht => ?_) rfl <;> (simp only [go_sem, sevalprocAttr, yaj])
    all_goals first | omega | repeat rw [if_neg (by omega)]
  ·obtain rfl : j = q.length := by omega
   repeat' (first | omega | ((try apply yaa); simp only [go_sem, sevalprocAttr]) | (apply yad <;> (intro h_; (try simp only [h_]); revert h_)) | apply yac | apply yab | apply gspI | apply And.intro | with_reducible intro h_ | trivial | (simp only [go_sem, la2]; omega))
   refine ⟨_, _, _, ?_, ?_, ⟨i + 1, by omega, rfl, rfl, rfl⟩⟩
   ·omega
   ·rw [eP]
    refine Wk.app (A := [(13, I ((i + 1 : Nat) : Int)), (12, I p.length), (11, tmA p), (4, .ptr 17 0), (3, .ptr 16 0), (2, .fn 103 [.ptr 15 0, .ptr 13 0])]) ?_ ?_ (hfr _ rfl rfl rfl rfl rfl rfl) (fun t ht => ?_) rfl <;> (simp only [go_sem, sevalprocAttr, yaj])
    all_goals first | omega | repeat rw [if_neg (by omega)]
 ·obtain rfl : i = p.length := by omega
  repeat' (first | omega | ((try apply yaa); simp only [go_sem, sevalprocAttr]) | (apply yad <;> (intro h_; (try simp only [h_]); revert h_)) | apply yac | apply yab | apply gspI | apply And.intro | with_reducible intro h_ | trivial | (simp only [go_sem, la2]; omega))
  all_goals exact hK
end Go.Proofs.YtebdkebfkpbmpaaGreatDoor
set_option linter.unusedSimpArgs false
set_option linter.unusedVariables false
namespace Go.Proofs.YtebdkebfkpbmpaaGreatDoor
open Go Go.RowKit
set_option maxHeartbeats 8000000
set_option maxRecDepth 100000
def yhc : List (List Nat) := [[33,36,38,5],[33,36,38,5],[31,32,36,38,5],[36,38,5],[36,37,38,39,40,5],[31,32,33,34,35,38,5],[35,38,5],[31,32,33,34,35,36,37,5],[35,5],[35,5],[31,32,33,34,35,36,37,38,39,40],[40],[]]
def yhd : List (List Nat) := [[],[],[0,1],[],[],[0,1,2,3,4],[4],[0,1,2,3,4,5,6],[4],[4],[0,1,2,3,4,5,6,7,8,9],[9],[]]
structure yrz (p : List (Int × Int)) : Prop where
 fits : yms p
 len : p.length <= 100000
 asc : ∀ i j, i <= j -> j < p.length -> (p.getD i (0, 0)).1 <= (p.getD j (0, 0)).1
 exp : ∀ i, i < p.length -> -1000000 <= (p.getD i (0, 0)).1 /\ (p.getD i (0, 0)).1 <= 1000000
theorem yo5 {l : List Int} {k : Nat} (h : k < l.length) : l.take (k + 1) = l.take k ++ [l.getD k 0] := by
 rw [List.take_succ_eq_append_getElem h]; simp [h]
theorem y61 (i : Nat) (p : List Int) : (wdC p).map (cutV i) = wdC p := by
 conv => rhs; rw [← List.map_id (wdC p)]
 exact List.map_congr_left fun x hx => by obtain ⟨n, rfl⟩ := yuf hx; rfl
theorem y80 (p q : List (Int × Int)) (hp : yrz p) (hq : yrz q) (hp0 : 0 < p.length) (hq0 : 0 < q.length) (hlo : -1048576 <= lowE p + lowE q) (hhi : ybf p + ybf q <= 1048576)
  (hsp : ybf p + ybf q - (lowE p + lowE q) < 1048576) (hde : ybf p + ybf q - (lowE p + lowE q) <= 64 + 4 * p.length * q.length) (hz : ∀ z ∈ mulZ p q, -1125899906842624 <= z /\ z <= 1125899906842624) :
  Fn Tryz.prog 46 [plA false p, plA false q] (plA false (tmI (lowE p + lowE q) (mulZ p q))) := by
 have L1 := yza p hp0
 have L2 := yza q hq0
 have H1 := yug p hp0 (by have := hp.len; omega)
 have H2 := yug q hq0 (by have := hq.len; omega)
 have a1 := hp.asc 0 (p.length - 1) (by omega) (by omega)
 have a2 := hq.asc 0 (q.length - 1) (by omega) (by omega)
 have x1 := hp.exp 0 hp0
 have x2 := hq.exp 0 hq0
 have x3 := hp.exp (p.length - 1) (by omega)
 have x4 := hq.exp (q.length - 1) (by omega)
 have pl := hp.len
 have ql := hq.len
 have hx : ∀ i j, i < p.length -> j < q.length -> lowE p + lowE q <= (p.getD i (0, 0)).1 + (q.getD j (0, 0)).1 /\ (p.getD i (0, 0)).1 + (q.getD j (0, 0)).1 <= ybf p + ybf q := fun i j hi hj => by
  have b1 := hp.asc 0 i (by omega) hi
  have b2 := hq.asc 0 j (by omega) hj
  have b3 := hp.asc i (p.length - 1) (by omega) (by omega)
  have b4 := hq.asc j (q.length - 1) (by omega) (by omega)
  unfold lowE ybf
  omega
 have hpe : ∀ i, i < p.length -> -2000000 <= (p.getD i (0, 0)).1 /\ (p.getD i (0, 0)).1 <= 2000000 := fun i hi => by have := hp.exp i hi; omega
 have hqe : ∀ i, i < q.length -> -2000000 <= (q.getD i (0, 0)).1 /\ (q.getD i (0, 0)).1 <= 2000000 := fun i hi => by have := hq.exp i hi; omega
 have hpr : p.length * q.length <= 100000 * 100000 := Nat.mul_le_mul pl ql
 have hpc : (4 : Int) * p.length * q.length = 4 * ((p.length * q.length : Nat) : Int) := by rw [Int.natCast_mul, Int.mul_assoc]
 unfold mulZ at hz ⊢
 unfold lowE ybf at *
 generalize (p.getD 0 (0, 0)).1 = lp at *
 generalize (q.getD 0 (0, 0)).1 = lq at *
 generalize (p.getD (p.length - 1) (0, 0)).1 = hp' at *
 generalize (q.getD (q.length - 1) (0, 0)).1 = hq' at *
 have b0 : ((p.length : Int) == 0) = false := by rw [beq_eq_false_iff_ne]; omega
 have b1 : ((q.length : Int) == 0) = false := by rw [beq_eq_false_iff_ne]; omega
 have b2 : decide (lp + lq < -1048576) = false := by simp; omega
 have b3 : decide (1048576 < hp' + hq') = false := by simp; omega
 have b4 : decide (64 + 4 * (p.length : Int) * q.length < hp' + hq' - (lp + lq)) = false := by simp; omega
 refine Fn.introL [.cell 4 28] Tryz.func46 rfl rfl (by decide) (by simp [Tryz.ntmps46]) ?_; rw [Tryz.ntmps46]
 repeat' (first | omega | ((first | apply yaa | (refine yae.intro (id := 5) yhc yhd (by decide +kernel) mixed ?_) | skip); simp only [go_sem, sevalprocAttr, b0, b1, ↓reduceIte, reduceCtorEq, yhc, yhd]) | (apply yad <;> (intro h_; (try simp only [h_]); revert h_)) | apply yac | apply yab | apply gspI | apply And.intro | with_reducible intro h_ | trivial | (simp only [go_sem, la2]; omega))
 refine ⟨yau.fn rfl L1 ?_⟩
 simp only [go_sem, sevalprocAttr]
 refine ⟨yau.fn rfl L2 ?_⟩
 simp only [go_sem, sevalprocAttr]
 repeat' (first | omega | ((first | apply yaa | (refine yae.intro (id := 5) yhc yhd (by decide +kernel) mixed ?_) | skip); simp only [go_sem, sevalprocAttr, b0, b1, ↓reduceIte, reduceCtorEq, yhc, yhd]) | (apply yad <;> (intro h_; (try simp only [h_]); revert h_)) | apply yac | apply yab | apply gspI | apply And.intro | with_reducible intro h_ | trivial | (simp only [go_sem, la2]; omega))
 refine ⟨yau.fn rfl H1 ?_⟩
 simp only [go_sem, sevalprocAttr]
 refine ⟨yau.fn rfl H2 ?_⟩
 simp only [go_sem, sevalprocAttr]
 repeat' (first | omega | ((first | apply yaa | (refine yae.intro (id := 5) yhc yhd (by decide +kernel) mixed ?_) | skip); simp only [go_sem, sevalprocAttr, b2, b3, b4, y2s, ↓reduceIte, reduceCtorEq, yhc, yhd]) | (apply yad <;> (intro h_; (try simp only [h_]); revert h_)) | apply yac | apply yab | apply gspI | apply And.intro | with_reducible intro h_ | trivial | (simp only [go_sem, la2]; omega))
 obtain ⟨N, hN⟩ : ∃ N : Nat, (hp' + hq' - (lp + lq) + 1).toNat = N := ⟨_, rfl⟩
 rw [hN] at hz ⊢
 refine ⟨yaf.inline (yph p q (lp + lq) (List.replicate N 0) N (by simp) (by omega) (by omega) hp.fits hq.fits (by omega) (by omega) (fun i j hi hj => by have := hx i j hi hj; omega) hpe hqe
  (fun H' g0 g1 g2 g13 g14 g15 => y35 (by simp only [go_sem, sevalprocAttr, g0, g1, g2, g13, g14, g15])) ?_)⟩
 have hzl := yg0 p q (lp + lq) p.length (List.replicate N 0)
 rw [List.length_replicate] at hzl
 generalize pz1 p q (lp + lq) p.length (List.replicate N 0) = zs at *
 have hwl := yue zs
 repeat' (first | omega | ((try apply yaa); simp only [go_sem, sevalprocAttr]) | (apply yad <;> (intro h_; (try simp only [h_]); revert h_)) | apply yac | apply yab | apply gspI | apply And.intro | with_reducible intro h_ | trivial | (simp only [go_sem, la2]; omega))
 refine yah.intro (fun n fr H => ∃ k : Nat, k <= N /\ n = N - k /\ fr = [(75, I k), (74, I N), (73, .sl 2 14 0 N), (8, .ptr 18 0), (5, .ptr 13 0), (4, .ptr 2 0)] /\
  ((tmI (lp + lq) (zs.take k) = [] /\ H = [(18, .cells 28 (.lst [.bool false, .nils])), (14, .cells 102 (.lst (wdC zs))), (13, .cells 3 (.lst [I (lp + lq)])), (2, .cells 28 (.lst [.bool false, .nils]))]) \/
   H = [(21, .cells 73 (.lst (tmC (tmI (lp + lq) (zs.take k))))), (18, .cells 28 (.lst [.bool false, .sl 2 21 0 (tmI (lp + lq) (zs.take k)).length])), (14, .cells 102 (.lst (wdC zs))), (13, .cells 3 (.lst [I (lp + lq)])), (2, .cells 28 (.lst [.bool false, .nils]))])) ?_ ?_
 ·refine ⟨_, _, _, ?_, 0, by omega, rfl, rfl, .inl ⟨by simp [tmI], rfl⟩⟩
  refine Wk.sub ?_ ?_ <;> (simp only [go_sem, sevalprocAttr, yaj])
  all_goals simp_all
 rintro n fr H ⟨k, hk, rfl, rfl, hc⟩
 have htl := ynu (lp + lq) (zs.take k)
 rw [List.length_take] at htl
 by_cases hkl : k < N
 ·have g0 := yrx zs k (by omega)
  have g1 := yry zs k (by omega)
  have hzk := hz (zs.getD k 0) (by simp [List.getD_eq_getElem?_getD, List.getElem?_eq_getElem (show k < zs.length by omega)])
  have hS := y2p (zs.getD k 0) hzk.1 hzk.2
  have eT := yk7 (lp + lq) (zs.take k) (zs.getD k 0)
  rw [← yo5 (by omega), List.length_take, show min k zs.length = k by omega] at eT
  generalize zs.getD k 0 = z at *
  have hlen := ybh (tmI (lp + lq) (zs.take k))
  by_cases hz0 : z = 0
  ·subst hz0
   rw [if_pos rfl, List.append_nil] at eT
   rcases hc with ⟨hn, rfl⟩ | rfl
   ·repeat' (first | omega | ((try apply yaa); simp only [go_sem, sevalprocAttr, g0, g1, hwl]) | (apply yad <;> (intro h_; (try simp only [h_]); revert h_)) | apply yac | apply yab | apply gspI | apply And.intro | with_reducible intro h_ | trivial | (simp only [go_sem, la2]; omega))
    refine ⟨yaf.fn rfl hS ?_⟩
    repeat' (first | omega | ((try apply yaa); simp only [go_sem, sevalprocAttr]) | (apply yad <;> (intro h_; (try simp only [h_]); revert h_)) | apply yac | apply yab | apply gspI | apply And.intro | with_reducible intro h_ | trivial | (simp only [go_sem, la2]; omega))
    refine ⟨_, _, _, ?_, ?_, ⟨k + 1, by omega, rfl, rfl, .inl ⟨by rw [eT]; exact hn, rfl⟩⟩⟩
    ·omega
    ·refine Wk.sub ?_ ?_ <;> (simp only [go_sem, sevalprocAttr, yaj])
     all_goals simp_all
   ·repeat' (first | omega | ((try apply yaa); simp only [go_sem, sevalprocAttr, g0, g1, hwl]) | (apply yad <;> (intro h_; (try simp only [h_]); revert h_)) | apply yac | apply yab | apply gspI | apply And.intro | with_reducible intro h_ | trivial | (simp only [go_sem, la2]; omega))
    refine ⟨yaf.fn rfl hS ?_⟩
    repeat' (first | omega | ((try apply yaa); simp only [go_sem, sevalprocAttr]) | (apply yad <;> (intro h_; (try simp only [h_]); revert h_)) | apply yac | apply yab | apply gspI | apply And.intro | with_reducible intro h_ | trivial | (simp only [go_sem, la2]; omega))
    refine ⟨_, _, _, ?_, ?_, ⟨k + 1, by omega, rfl, rfl, .inr rfl⟩⟩
    ·omega
    ·rw [eT]
     refine Wk.sub ?_ ?_ <;> (simp only [go_sem, sevalprocAttr, yaj])
     all_goals simp_all
  ·rw [if_neg hz0] at eT
   have bz : (z != 0) = true := by simpa using hz0
   rcases hc with ⟨hn, rfl⟩ | rfl
   ·rw [hn, List.nil_append] at eT
    repeat' (first | omega | ((try apply yaa); simp only [go_sem, sevalprocAttr, g0, g1, hwl]) | (apply yad <;> (intro h_; (try simp only [h_]); revert h_)) | apply yac | apply yab | apply gspI | apply And.intro | with_reducible intro h_ | trivial | (simp only [go_sem, la2]; omega))
    refine ⟨yaf.fn rfl hS ?_⟩
    repeat' (first | omega | ((try apply yaa); simp only [go_sem, sevalprocAttr, bz]) | (apply yad <;> (intro h_; (try simp only [h_]); revert h_)) | apply yac | apply yab | apply gspI | apply And.intro | with_reducible intro h_ | trivial | (simp only [go_sem, la2]; omega))
    refine ⟨_, _, _, ?_, ?_, ⟨k + 1, by omega, rfl, rfl, .inr rfl⟩⟩
    ·omega
    ·rw [eT]
     refine Wk.sub ?_ ?_ <;> (simp only [go_sem, sevalprocAttr, yaj])
     all_goals rfl
   ·repeat' (first | omega | ((try apply yaa); simp only [go_sem, sevalprocAttr, g0, g1, hwl]) | (apply yad <;> (intro h_; (try simp only [h_]); revert h_)) | apply yac | apply yab | apply gspI | apply And.intro | with_reducible intro h_ | trivial | (simp only [go_sem, la2]; omega))
    refine ⟨yaf.fn rfl hS ?_⟩
    repeat' (first | omega | ((try apply yaa); simp only [go_sem, sevalprocAttr, bz, hlen, y61]) | (apply yad <;> (intro h_; (try simp only [h_]); revert h_)) | apply yac | apply yab | apply gspI | apply And.intro | with_reducible intro h_ | trivial | (simp only [go_sem, la2]; omega))
    rw [yib]
    refine ⟨_, _, _, ?_, ?_, ⟨k + 1, by omega, rfl, rfl, .inr rfl⟩⟩
    ·omega
    ·rw [eT]
     refine Wk.sub ?_ ?_ <;> (simp only [go_sem, sevalprocAttr, yaj, List.length_append])
     all_goals simp_all
 ·obtain rfl : k = N := by omega
  rw [List.take_of_length_le (by omega)] at hc htl
  rcases hc with ⟨hn, rfl⟩ | rfl
  ·repeat' (first | omega | ((try apply yaa); simp only [go_sem, sevalprocAttr]) | (apply yad <;> (intro h_; (try simp only [h_]); revert h_)) | apply yac | apply yab | apply gspI | apply And.intro | with_reducible intro h_ | trivial | (simp only [go_sem, la2]; omega))
   all_goals rw [hn]
   all_goals exact LeA.aggL (.cons (LeA.refl _) (.cons (LeA.nils (by omega) rfl) .nil))
  ·have hlen := ybh (tmI (lp + lq) zs)
   repeat' (first | omega | ((try apply yaa); simp only [go_sem, sevalprocAttr, yi5]) | (apply yad <;> (intro h_; (try simp only [h_]); revert h_)) | apply yac | apply yab | apply gspI | apply And.intro | with_reducible intro h_ | trivial | (simp only [go_sem, la2]; omega))
   all_goals exact LeA.of (by rw [List.take_of_length_le (by omega)])
end Go.Proofs.YtebdkebfkpbmpaaGreatDoor
