/- The reference of layer 15: the state sum. -/
import Derived.Test.YtebdkebfkpbmpaaGreatDoorRq1
import Derived.Test.YtebdkebfkpbmpaaGreatDoorYd
set_option linter.unusedSimpArgs false
set_option linter.unusedVariables false
namespace Go.Proofs.YtebdkebfkpbmpaaGreatDoor
open Go Go.RowKit
set_option maxRecDepth 100000
set_option maxHeartbeats 8000000
def ync : List (List Nat) := [[85,86,87,88,89,90,91,92,93,94,95],[84,86,87,89,90,92,93],[84,85,89,90,92,93],[84,85,89,90,92,93],[84,89,90,92,93],[84,85,86,87,88,92,93],[84,85,86,87,88,92,93],[84,92,93],[84,85,86,87,88,89,90,91],[84,85,86,87,88,89,90,91],[84],[84],[],[]]
def ynd : List (List Nat) := [[],[0],[0,1],[0,1],[0],[0,1,2,3,4],[0,1,2,3,4],[0],[0,1,2,3,4,5,6,7],[0,1,2,3,4,5,6,7],[0],[0],[],[]]
def stF2 (st : List Bool) (c : Nat) : Bool := st.getD c false
theorem y0c {s m : List Int} {L : Int} (hv : ya3 s m L = true) (st : List Bool) : roots (mgB m (stF2 st) s.length) = roots (crN (mtF m) (jnF st) m.length m.length) := by
 have v1 := yfz hv
 have hp := v1.prd
 have h1 := yv2 (ch := stF2 st) hp.ok (fun x hx => hp.inv x hx) (fun x hx => (v1.mt x hx).2.2.1)
 have h2 := ygj (ydj hp.ok (fun x hx => hp.inv x hx) (fun x hx => (v1.mt x hx).2.2.1) (stF2 st))
 rw [← v1.len] at h2
 exact yf0 h1 h2
theorem ywi (s m : List Int) (L k : Nat) (hv : ya3 s m L = true) (hs : s.length <= 9) (hL : L <= 10) : Fn Tryz.prog 59 [dgA s m L, roB (stR k s.length s.length)] (I (cN m s.length L k)) := by
 have v1 := yfz hv
 have h := y0b s m L (stR k s.length s.length) (by omega) ⟨by omega, by omega⟩ v1.prd.ok (yj9 _ _ _)
 rw [← y0c hv, ygl (ch := stF2 (stR k s.length s.length)) (ch' := chB k) fun c hc => yu8 hc] at h
 have e : ((roots (mgB m (chB k) s.length) : Nat) : Int) + (L : Int) = (cN m s.length L k : Int) := by unfold cN cirS; omega
 rw [e] at h
 exact h
theorem y3n (k c : Nat) : cntB k (c + 1) = if chB k c then cntB k c + 1 else cntB k c := by
 simp only [cntB, chB]
 by_cases h : k / 2 ^ c % 2 = 1
 ·simp [h]
 ·have : k / 2 ^ c % 2 = 0 := by omega
  simp [this]
theorem ys6 (s m : List Int) (L : Nat) (hv : ya3 s m L = true) (hs : s.length <= 9) (hL : L <= 10) : Fn Tryz.prog 15 [dgA s m L] (rpA (brP m s.length L)) := by
 have hp := pmOk hv
 obtain ⟨Q, hQ⟩ : ∃ Q, Q = 2 * s.length + L + 1 := ⟨_, rfl⟩
 obtain ⟨M, hM⟩ : ∃ M, M = (s.length + 1) * (2 * s.length + L + 2) := ⟨_, rfl⟩
 have hM300 : M <= 300 := by
  have := Nat.mul_le_mul (show s.length + 1 <= 10 by omega) (show 2 * s.length + L + 2 <= 30 by omega)
  omega
 obtain ⟨K, hK⟩ : ∃ K, K = 2 ^ s.length := ⟨_, rfl⟩
 have hK5 : K <= 512 := by
  have := ysi hs
  rw [show (2 : Nat) ^ 9 = 512 by decide] at this
  omega
 have e1 : 2 * (s.length : Int) + (L : Int) = (Q : Int) - 1 := by omega
 have e1' : (Q : Int) - 1 + 1 = Q := by omega
 have e2 : ((s.length : Int) + 1) * ((Q : Int) + 1) = (M : Int) := by
  rw [hM, show 2 * s.length + L + 2 = Q + 1 by omega]; simp
 have e3 : (2 : Int) ^ s.length = (K : Int) := by rw [hK]; simp
 refine Fn.introL [.cell 2 38] Tryz.func15 rfl rfl (by decide) (by simp [Tryz.ntmps15]) ?_; rw [Tryz.ntmps15]
 repeat' (first | omega | ((try apply yaa); simp only [go_sem, sevalprocAttr]) | (apply yad <;> (intro h_; (try simp only [h_]); revert h_)) | apply yac | apply yab | apply gspI | apply And.intro | with_reducible intro h_ | trivial | (simp only [go_sem, la2]; omega))
 refine ⟨yaf.fn rfl y7i ?_⟩
 repeat' (first | omega | ((try apply yaa); simp only [go_sem, sevalprocAttr, e1, e1', e2, Int.toNat_natCast]) | (apply yad <;> (intro h_; (try simp only [h_]); revert h_)) | apply yac | apply yab | apply gspI | apply And.intro | with_reducible intro h_ | trivial | (simp only [go_sem, la2]; omega))
 refine yah.intro (fun n fr H => ∃ k : Nat, k <= K /\ n = K - k /\ fr = [(7, I k), (6, .sl 1 3 0 M), (5, I Q), (4, .ptr 2 0), (3, I s.length), (2, .ptr 1 0), (1, .ptr 0 0)] /\ H = [(3, .cells 3 (.ints (tabB m s.length L k))), (2, .cells 38 (.lst [tmA [], .bool false])), (1, .cells 38 (.lst [.nils, .bool false])), (0, .cells 24 (.lst [roI s, roI m, I L]))]) ?_ ?_
 ·refine ⟨_, _, _, ?_, 0, by omega, rfl, rfl, rfl⟩
  rw [y9e, ← hM]
  refine Wk.sub ?_ ?_ <;> (simp only [go_sem, sevalprocAttr, yaj])
 rintro n fr H ⟨k, hk, rfl, rfl, rfl⟩
 have tl := ysj m s.length L k
 rw [← hM] at tl
 by_cases hkl : k < K
 ·have bk : decide ((k : Int) < K) = true := by simp; omega
  have hSt := y3m s.length k (by omega) (by omega)
  have hLo := ywi s m L k hv hs hL
  repeat' (first | omega | ((try apply yaa); simp only [go_sem, sevalprocAttr, bk, e3, Int.toNat_natCast, Int.one_mul]) | (apply yad <;> (intro h_; (try simp only [h_]); revert h_)) | apply yac | apply yab | apply gspI | apply And.intro | with_reducible intro h_ | trivial | (simp only [go_sem, la2]; omega))
  refine ⟨yaf.fn rfl hSt ?_⟩
  repeat' (first | omega | ((try apply yaa); simp only [go_sem, sevalprocAttr, e3]) | (apply yad <;> (intro h_; (try simp only [h_]); revert h_)) | apply yac | apply yab | apply gspI | apply And.intro | with_reducible intro h_ | trivial | (simp only [go_sem, la2]; omega))
  refine yah.intro (fun n fr H => ∃ c : Nat, c <= s.length /\ n = s.length - c /\ fr = [(10, I c), (9, I (cntB k c)), (8, roB (stR k s.length s.length)), (7, I k), (6, .sl 1 3 0 M), (5, I Q), (4, .ptr 2 0), (3, I s.length), (2, .ptr 1 0), (1, .ptr 0 0)] /\ H = [(3, .cells 3 (.ints (tabB m s.length L k))), (2, .cells 38 (.lst [tmA [], .bool false])), (1, .cells 38 (.lst [.nils, .bool false])), (0, .cells 24 (.lst [roI s, roI m, I L]))]) ?_ ?_
  ·refine ⟨_, _, _, ?_, 0, by omega, rfl, rfl, rfl⟩
   refine Wk.sub ?_ ?_ <;> (simp only [go_sem, sevalprocAttr, yaj, cntB])
  rintro n fr H ⟨c, hc, rfl, rfl, rfl⟩
  by_cases hcl : c < s.length
  ·have bc : decide ((c : Int) < s.length) = true := by simp; omega
   have hg := yu8 (b := k) hcl
   have hsl := yj9 k s.length s.length
   have hbit := y3n k c
   have hcle := yg3 k c
   cases hch : chB k c with
   | false =>
     rw [hch] at hg hbit
     rw [if_neg (by simp)] at hbit
     repeat' (first | omega | ((try apply yaa); simp only [go_sem, sevalprocAttr, bc, hg, hsl]) | (apply yad <;> (intro h_; (try simp only [h_]); revert h_)) | apply yac | apply yab | apply gspI | apply And.intro | with_reducible intro h_ | trivial | (simp only [go_sem, la2]; omega))
     refine ⟨_, _, _, ?_, ?_, ⟨c + 1, by omega, rfl, rfl, rfl⟩⟩
     ·omega
     ·rw [hbit]
      refine Wk.sub ?_ ?_ <;> (simp only [go_sem, sevalprocAttr, yaj])
   | true =>
     rw [hch] at hg hbit
     rw [if_pos rfl] at hbit
     repeat' (first | omega | ((try apply yaa); simp only [go_sem, sevalprocAttr, bc, hg, hsl]) | (apply yad <;> (intro h_; (try simp only [h_]); revert h_)) | apply yac | apply yab | apply gspI | apply And.intro | with_reducible intro h_ | trivial | (simp only [go_sem, la2]; omega))
     refine ⟨_, _, _, ?_, ?_, ⟨c + 1, by omega, rfl, rfl, rfl⟩⟩
     ·omega
     ·rw [hbit]
      refine Wk.sub ?_ ?_ <;> (simp only [go_sem, sevalprocAttr, yaj])
  ·obtain rfl : c = s.length := by omega
   have bc : decide ((s.length : Int) < s.length) = false := by simp
   have hcl := yg3 k s.length
   have hcn := ymx hp (L := L) k
   have hI := tabI (W := 2 * s.length + L + 2) hcl (show cN m s.length L k < 2 * s.length + L + 2 by omega)
   rw [← hM] at hI
   have hset := y3j hp (L := L) k
   obtain ⟨J, hJ⟩ : ∃ J, J = cntB k s.length * (2 * s.length + L + 2) := ⟨_, rfl⟩
   have e4 : (cntB k s.length : Int) * ((Q : Int) + 1) = (J : Int) := by rw [hJ, show 2 * s.length + L + 2 = Q + 1 by omega]; simp
   rw [← hJ] at hI hset
   have hga : 0 <= (tabB m s.length L k).getD (J + cN m s.length L k) 0 /\ (tabB m s.length L k).getD (J + cN m s.length L k) 0 <= 1000 := by
    have h1 := ysk hp (L := L) k hcl (show cN m s.length L k <= 2 * s.length + L + 1 by omega)
    rw [← hJ] at h1
    rw [h1]
    have := yoe m s.length L (cntB k s.length) (cN m s.length L k) k
    omega
   obtain ⟨Z, hZ⟩ : ∃ Z, Z = J + cN m s.length L k := ⟨_, rfl⟩
   have e5 : (J : Int) + (cN m s.length L k : Int) = (Z : Int) := by omega
   rw [← hZ] at hI hset hga
   generalize cN m s.length L k = z at *
   generalize cntB k s.length = y at *
   repeat' (first | omega | ((try apply yaa); simp only [go_sem, sevalprocAttr, bc, e4]) | (apply yad <;> (intro h_; (try simp only [h_]); revert h_)) | apply yac | apply yab | apply gspI | apply And.intro | with_reducible intro h_ | trivial | (simp only [go_sem, la2]; omega))
   refine ⟨yaf.fn rfl hLo ?_⟩
   repeat' (first | omega | ((try apply yaa); simp only [go_sem, sevalprocAttr, e4, e5, tl, hset, Int.toNat_natCast]) | (apply yad <;> (intro h_; (try simp only [h_]); revert h_)) | apply yac | apply yab | apply gspI | apply And.intro | with_reducible intro h_ | trivial | (simp only [go_sem, la2]; omega))
   refine ⟨_, _, _, ?_, ?_, ⟨k + 1, by omega, rfl, rfl, rfl⟩⟩
   ·omega
   ·refine Wk.sub ?_ ?_ <;> (simp only [go_sem, sevalprocAttr, yaj])
 obtain rfl : k = K := by omega
 have bk : decide ((k : Int) < k) = false := by simp
 have hTg : ∀ b c, b <= s.length -> c <= Q -> (tabB m s.length L k).getD (b * (2 * s.length + L + 2) + c) 0 = tvB m s.length L k b c := fun b c hb hc => ysk hp k hb (by omega)
 have hTb : ∀ b c, 0 <= tvB m s.length L k b c /\ tvB m s.length L k b c <= 512 := fun b c => by rw [hK]; exact y39 hs
 have hps : ∀ b j, b <= s.length \/ b = s.length + 1 /\ j = 0 -> j <= Q -> ∀ e, psB m s.length L b j e ≠ 0 -> -1000 <= e /\ e <= 1000 := fun b j hb hj e he => by
  have := y4d hs hL hb (by omega) he; omega
 generalize tabB m s.length L k = T at *
 repeat' (first | omega | ((try apply yaa); simp only [go_sem, sevalprocAttr, bk, e3, Int.toNat_natCast, Int.one_mul]) | (apply yad <;> (intro h_; (try simp only [h_]); revert h_)) | apply yac | apply yab | apply gspI | apply And.intro | with_reducible intro h_ | trivial | (simp only [go_sem, la2]; omega))
 refine yah.intro (fun n fr H => ∃ (b : Nat) (r : List (Int × Int)), b <= s.length + 1 /\ yan r (psB m s.length L b 0) /\ n = s.length + 1 - b /\ fr = [(11, I b), (6, .sl 1 3 0 M), (5, I Q), (4, .ptr 2 0), (3, I s.length), (2, .ptr 1 0), (1, .ptr 0 0)] /\ H = [(3, .cells 3 (.ints T)), (2, .cells 38 (.lst [tmA r, .bool false])), (1, .cells 38 (.lst [.nils, .bool false])), (0, .cells 24 (.lst [roI s, roI m, I L]))]) ?_ ?_
 ·refine ⟨_, _, _, ?_, 0, [], by omega, yan.nil, rfl, rfl, rfl⟩
  refine Wk.sub ?_ ?_ <;> (simp only [go_sem, sevalprocAttr, yaj])
 clear hk hkl
 rintro n fr H ⟨b, r, hb, hr, rfl, rfl, rfl⟩
 by_cases hbl : b < s.length + 1
 ·have bb : decide ((b : Int) <= s.length) = true := by simp; omega
  repeat' (first | omega | ((try apply yaa); simp only [go_sem, sevalprocAttr, bb]) | (apply yad <;> (intro h_; (try simp only [h_]); revert h_)) | apply yac | apply yab | apply gspI | apply And.intro | with_reducible intro h_ | trivial | (simp only [go_sem, la2]; omega))
  refine yah.intro (fun n fr H => ∃ (j : Nat) (r : List (Int × Int)), j <= Q /\ yan r (psB m s.length L b j) /\ n = Q - j /\ fr = [(12, I ((j : Int) + 1)), (11, I b), (6, .sl 1 3 0 M), (5, I Q), (4, .ptr 2 0), (3, I s.length), (2, .ptr 1 0), (1, .ptr 0 0)] /\ H = [(3, .cells 3 (.ints T)), (2, .cells 38 (.lst [tmA r, .bool false])), (1, .cells 38 (.lst [.nils, .bool false])), (0, .cells 24 (.lst [roI s, roI m, I L]))]) ?_ ?_
  ·refine ⟨_, _, _, ?_, 0, r, by omega, hr, rfl, rfl, rfl⟩
   refine Wk.sub ?_ ?_ <;> (simp only [go_sem, sevalprocAttr, yaj])
  clear hr
  rintro n fr H ⟨j, r, hj, hr, rfl, rfl, rfl⟩
  obtain ⟨J, hJ⟩ : ∃ J, J = b * (2 * s.length + L + 2) := ⟨_, rfl⟩
  have e4 : (b : Int) * ((Q : Int) + 1) = (J : Int) := by rw [hJ, show 2 * s.length + L + 2 = Q + 1 by omega]; simp
  by_cases hjl : j < Q
  ·have bj : decide ((j : Int) + 1 <= Q) = true := by simp; omega
   obtain ⟨Z, hZ⟩ : ∃ Z, Z = J + (j + 1) := ⟨_, rfl⟩
   have e5 : (J : Int) + ((j : Int) + 1) = (Z : Int) := by omega
   have hI := tabI (W := 2 * s.length + L + 2) (show b <= s.length by omega) (show j + 1 < 2 * s.length + L + 2 by omega)
   have hg := hTg b (j + 1) (by omega) (by omega)
   rw [← hJ, ← hZ] at hI hg
   rw [← hM] at hI
   have hv := hTb b (j + 1)
   have hin := fun e => y9d m s.length L b j e
   by_cases hpos : 0 < tvB m s.length L k b (j + 1)
   ·have bp : decide (0 < tvB m s.length L k b (j + 1)) = true := by simpa using hpos
    have htr : ∀ e, trmB m s.length L b (j + 1) e = tvB m s.length L k b (j + 1) * dpw j (e - ((s.length : Int) - 2 * b)) := fun e => by unfold trmB; rw [← hK, Nat.add_sub_cancel]
    have htb := fun e => yz6 (m := m) (L := L) (b := b) (c := j + 1) hs (by omega) e
    have hts := fun (e : Int) (he : trmB m s.length L b (j + 1) e ≠ 0) => yz7 hs (by omega) (by omega) he
    generalize tvB m s.length L k b (j + 1) = v at *
    obtain ⟨w, hw⟩ : ∃ w, w = (s.length : Int) - 2 * b := ⟨_, rfl⟩
    rw [← hw] at htr
    have hO := y3d w v (by omega) (by omega)
    have hPw := y3k j (by omega)
    have hdl := ye7 (f := dpw j) fun e he => by have := ybz j e he; omega
    have hwv : yan [(w, v)] (fun x => if x = w then v else 0) := ⟨⟨by simp, fun t ht => by simp only [List.mem_singleton] at ht; subst ht; show v ≠ 0; omega⟩, fun x => by
     simp only [cfL, Int.add_zero]
     by_cases h : x = w
     ·rw [if_pos h, if_pos h.symm]
     ·rw [if_neg h, if_neg fun g => h g.symm]⟩
    obtain ⟨r1, hr1, hMu⟩ := yu4 hwv hdl (fun e he => by
     by_cases h : e = w
     ·omega
     ·rw [if_neg h] at he; exact absurd rfl he) (fun e he => by have := ybz j e he; omega) (fun e => by split <;> omega) (fun e => by have := ypp (j := j) (by omega) e; omega) (h := trmB m s.length L b (j + 1)) (fun e => by
     simp only [cvL, Int.add_zero]; exact (htr e).symm) (fun e => by have := htb e; omega) (by
     have := hdl.len fun e he => by have := ybz j e he; omega
     simp only [List.length_cons, List.length_nil]; omega)
    obtain ⟨r2, hr2, hAd⟩ := y7l hr hr1 (hps b j (by omega) (by omega)) (fun e he => by have := hts e he; omega) (fun e => y4c hs hL (by omega) (by omega) e) (fun e => by have := htb e; omega)
    have e7 : (j : Int) + 1 - 1 = j := by omega
    have e8 : (s.length : Int) - 2 * b = w := hw.symm
    repeat' (first | omega | ((first | apply yaa | (refine yae.intro (id := 24) ync ynd (by decide +kernel) mixed ?_) | skip); simp only [go_sem, sevalprocAttr, bb, bj, bp, e4, e5, e7, e8, tl, hg, Int.toNat_natCast, ↓reduceIte, reduceCtorEq, ync, ynd]) | (apply yad <;> (intro h_; (try simp only [h_]); revert h_)) | apply yac | apply yab | apply gspI | apply And.intro | with_reducible intro h_ | trivial | (simp only [go_sem, la2]; omega))
    refine ⟨yau.new (h := hO) rfl (by simp only [go_sem, sevalprocAttr, e8]) (by simp only [go_sem, sevalprocAttr, e8]; try rfl) ?_⟩
    simp only [go_sem, sevalprocAttr, e7, e8, yaj]
    refine ⟨by omega, ?_⟩
    refine ⟨yau.fn rfl hPw ?_⟩
    simp only [go_sem, sevalprocAttr, e7, e8, yaj]
    refine ⟨yau.fn rfl hMu ?_⟩
    simp only [go_sem, sevalprocAttr, e7, e8, yaj]
    refine ⟨yau.fn rfl hAd ?_⟩
    simp only [go_sem, sevalprocAttr, e7, e8, yaj]
    repeat' (first | omega | ((first | apply yaa | (refine yae.intro (id := 24) ync ynd (by decide +kernel) mixed ?_) | skip); simp only [go_sem, sevalprocAttr, bb, bj, bp, e4, e5, e7, e8, tl, hg, Int.toNat_natCast, ↓reduceIte, reduceCtorEq, ync, ynd]) | (apply yad <;> (intro h_; (try simp only [h_]); revert h_)) | apply yac | apply yab | apply gspI | apply And.intro | with_reducible intro h_ | trivial | (simp only [go_sem, la2]; omega))
    refine ⟨_, _, _, ?_, ?_, j + 1, r2, by omega, hr2.congr fun e => (hin e).symm, rfl, rfl, rfl⟩
    ·omega
    ·have e6 : (((j + 1 : Nat) : Int)) = (j : Int) + 1 := by omega
     rw [e6]
     refine Wk.sub ?_ ?_ <;> (simp only [go_sem, sevalprocAttr, yaj])
   ·have h0 : tvB m s.length L k b (j + 1) = 0 := by omega
    have bp : decide ((0 : Int) < 0) = false := rfl
    rw [h0] at hg
    have ht0 : ∀ e, trmB m s.length L b (j + 1) e = 0 := fun e => by unfold trmB; rw [← hK, h0, Int.zero_mul]
    repeat' (first | omega | ((try apply yaa); simp only [go_sem, sevalprocAttr, bb, bj, bp, e4, e5, tl, hg, Int.toNat_natCast]) | (apply yad <;> (intro h_; (try simp only [h_]); revert h_)) | apply yac | apply yab | apply gspI | apply And.intro | with_reducible intro h_ | trivial | (simp only [go_sem, la2]; omega))
    refine ⟨_, _, _, ?_, ?_, j + 1, r, by omega, hr.congr fun e => by rw [hin, ht0]; omega, rfl, rfl, rfl⟩
    ·omega
    ·have e6 : (((j + 1 : Nat) : Int)) = (j : Int) + 1 := by omega
     rw [e6]
     refine Wk.sub ?_ ?_ <;> (simp only [go_sem, sevalprocAttr, yaj])
  ·obtain rfl : j = Q := by omega
   have bj : decide ((j : Int) + 1 <= j) = false := by simp; omega
   repeat' (first | omega | ((try apply yaa); simp only [go_sem, sevalprocAttr, bb, bj]) | (apply yad <;> (intro h_; (try simp only [h_]); revert h_)) | apply yac | apply yab | apply gspI | apply And.intro | with_reducible intro h_ | trivial | (simp only [go_sem, la2]; omega))
   refine ⟨_, _, _, ?_, ?_, b + 1, r, by omega, hr.congr fun e => by rw [y7m, hQ], rfl, rfl, rfl⟩
   ·omega
   ·have e6 : (((b + 1 : Nat) : Int)) = (b : Int) + 1 := by omega
    rw [e6]
    refine Wk.sub ?_ ?_ <;> (simp only [go_sem, sevalprocAttr, yaj])
 ·obtain rfl : b = s.length + 1 := by omega
  have bb : decide (((s.length + 1 : Nat) : Int) <= s.length) = false := by simp; omega
  have hfin : r = brP m s.length L := (hr.congr fun e => yj7 hp e).eq fun e he => by
   rw [← yj7 hp e] at he
   exact hps _ _ (.inr ⟨rfl, rfl⟩) (by omega) e he
  rw [← hfin]
  repeat' (first | omega | ((try apply yaa); simp only [go_sem, sevalprocAttr, bb]) | (apply yad <;> (intro h_; (try simp only [h_]); revert h_)) | apply yac | apply yab | apply gspI | apply And.intro | with_reducible intro h_ | trivial | (simp only [go_sem, la2]; omega))
  all_goals exact LeA.refl _
end Go.Proofs.YtebdkebfkpbmpaaGreatDoor
