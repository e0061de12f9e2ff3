/- Layer 17: pairings as strings; what a node is joined with; a polynomial times -A^2 - A^-2. -/
import Derived.Test.YtebdkebfkpbmpaaGreatDoorXh
import Derived.Test.YtebdkebfkpbmpaaGreatDoorXg
set_option linter.unusedSimpArgs false
set_option linter.unusedVariables false
namespace Go.Proofs.YtebdkebfkpbmpaaGreatDoor
open Go Go.RowKit
set_option maxRecDepth 100000
set_option maxHeartbeats 8000000
def ymn : List (List Nat) := [[17,18,19,20,21,22],[17,18,19,20,21,22],[15,16,18,19],[15,16,17],[15,16,17],[15,16],[15,16],[15,16],[],[]]
theorem Wk.frz (ids : List Nat) {fr fr' : Fr} {H H' : Hp} (h1 : ydg (hsel H ids) fr) (h2 : ycq (hsel H ids) H) (hfr : frzF (hsel H ids) fr = fr') (hH : frzH (hsel H ids) H = H') : Wk fr H fr' H' := by
 subst hfr; subst hH
 exact fun _ _ _ _ _ ρ _ hs => ⟨ρ, hs.freeze (fun i o => yfu i o) h1 h2⟩
theorem yos : ∀ (ts : List Int) (r : ByteArray), (ts.foldl (fun r n => r.push (UInt8.ofNat n.toNat)) r).data.toList = r.data.toList ++ ts.map fun t => UInt8.ofNat t.toNat
 | [], r => by simp
 | t :: ts, r => by
   rw [List.foldl_cons, yos ts]
   simp [ByteArray.push]
def pS (T : List Nat) : ByteArray := strB (T.map fun (i : Nat) => (97 : Int) + i)
theorem ynl (T : List Nat) : (pS T).data.toList = T.map fun i => UInt8.ofNat (97 + i) := by
 unfold pS strB
 rw [yos]
 simp only [ByteArray.data_empty, Array.toList_empty, List.nil_append, List.map_map]
 exact List.map_congr_left fun i _ => by
  simp only [Function.comp]
  congr 1
theorem y52 (T : List Nat) : (pS T).size = T.length := by
 have := congrArg List.length (ynl T)
 simpa using this
theorem y9z {T : List Nat} {x : Nat} (h : x < T.length) (hb : T.getD x 0 < 100) : (((pS T).data.toList.getD x 0).toNat : Int) = 97 + (T.getD x 0 : Nat) := by
 rw [ynl]
 simp only [List.getD_eq_getElem?_getD, List.getElem?_map, List.getElem?_eq_getElem h, Option.map_some, Option.getD_some] at hb ⊢
 rw [UInt8.toNat_ofNat']
 omega
def arcV (cnt : Nat) (T : List Nat) (J : List Int) (x : Nat) : Int := if x < cnt then (T.getD x 0 : Nat) else cnt + J.getD (x - cnt) 0
abbrev y3r (cnt : Nat) (glue index ends : List Int) : Cs := .lst [I cnt, roI glue, roI index, roI ends]
attribute [go_sem] y3r
theorem y8f (cnt x : Nat) (glue index ends : List Int) (T : List Nat) (J : List Int) (hT : T.length = cnt) (hb : ∀ i ∈ T, i < 100) (hJ : J.length = 4) (hJr : ∀ i, 0 <= J.getD i 0 /\ J.getD i 0 <= 3) (hx : x < cnt + 4) (hc : cnt <= 1000) :
  Fn Tryz.prog 157 [I x, .rp (y3r cnt glue index ends) 0, .rp (.lst [.str (pS T)]) 0, .rp (.lst (J.map (AV.int .i64))) 0] (I (arcV cnt T J x)) := by
 by_cases h : x < cnt
 ·have b0 : decide ((x : Int) < cnt) = true := by simp; omega
  have hTb : T.getD x 0 < 100 := by
   rw [List.getD_eq_getElem?_getD, List.getElem?_eq_getElem (show x < T.length by omega)]
   exact hb _ (List.getElem_mem _)
  have e1 := y9z (T := T) (x := x) (by omega) hTb
  have e2 := y52 T
  unfold arcV
  rw [if_pos h]
  have w1 : IntKind.u8.wrap (97 + ((T.getD x 0 : Nat) : Int) - 97) = ((T.getD x 0 : Nat) : Int) := by rw [IntWalk.u8_in _ (by omega)]; omega
  have w2 : IntKind.i64.wrap ((T.getD x 0 : Nat) : Int) = ((T.getD x 0 : Nat) : Int) := IntWalk.i64_in _ (by omega)
  refine Fn.intro [.tmp 5] Tryz.func157 rfl rfl (by decide) (by simp [Tryz.ntmps157]) ?_; rw [Tryz.ntmps157]
  repeat' (first | omega | ((first | apply yaa | (refine yae.intro (id := 3) ymn [[],[],[0,1],[0,1,2],[0,1,2],[0,1],[0,1],[0,1],[],[]] (by decide +kernel) mixed ?_) | skip); simp only [go_sem, sevalprocAttr, b0, e1, e2, w1, w2, Int.toNat_natCast, ↓reduceIte, reduceCtorEq, ymn]) | (apply yad <;> (intro h_; (try simp only [h_]); revert h_)) | apply yac | apply yab | apply gspI | apply And.intro | with_reducible intro h_ | trivial | (simp only [go_sem, la2]; omega))
 ·have b0 : decide ((x : Int) < cnt) = false := by simp; omega
  unfold arcV
  rw [if_neg h]
  have e1 : ((x : Int) - cnt).toNat = x - cnt := by omega
  have e2 : (J.map (AV.int .i64)).getD (x - cnt) .any = I (J.getD (x - cnt) 0) := by
   have : x - cnt < J.length := by omega
   simp [List.getD_eq_getElem?_getD, this]
  have hr := hJr (x - cnt)
  refine Fn.intro [.tmp 5] Tryz.func157 rfl rfl (by decide) (by simp [Tryz.ntmps157]) ?_; rw [Tryz.ntmps157]
  repeat' (first | omega | ((first | apply yaa | (refine yae.intro (id := 3) ymn [[],[],[0,1],[0,1,2],[0,1,2],[0,1],[0,1],[0,1],[],[]] (by decide +kernel) mixed ?_) | skip); simp only [go_sem, sevalprocAttr, b0, e1, e2, Int.toNat_natCast, List.length_map, hJ, ↓reduceIte, reduceCtorEq, ymn]) | (apply yad <;> (intro h_; (try simp only [h_]); revert h_)) | apply yac | apply yab | apply gspI | apply And.intro | with_reducible intro h_ | trivial | (simp only [go_sem, la2]; omega))
def tmsK (cs : List Int) (k : Nat) : List Int := (List.range (cs.length + 2)).map fun i => (if i < k then -(cs.getD i 0) else 0) - (if 2 <= i /\ i - 2 < k then cs.getD (i - 2) 0 else 0)
theorem ydo (cs : List Int) (k : Nat) : (tmsK cs k).length = cs.length + 2 := by simp [tmsK]
theorem y8g (cs : List Int) : tmsK cs 0 = List.replicate (cs.length + 2) 0 := by
 apply List.ext_getElem?
 intro i
 by_cases h : i < cs.length + 2 <;> simp [tmsK, h]
theorem yfk (cs : List Int) (k i : Nat) (h : i < cs.length + 2) : (tmsK cs k).getD i 0 = (if i < k then -(cs.getD i 0) else 0) - (if 2 <= i /\ i - 2 < k then cs.getD (i - 2) 0 else 0) := by
 simp [tmsK, List.getD_eq_getElem?_getD, h]
theorem yx9 (cs : List Int) (k : Nat) (hk : k < cs.length) : ((tmsK cs k).set k ((tmsK cs k).getD k 0 - cs.getD k 0)).set (k + 2) ((tmsK cs k).getD (k + 2) 0 - cs.getD k 0) = tmsK cs (k + 1) := by
 rw [yfk _ _ _ (by omega), yfk _ _ _ (by omega)]
 apply List.ext_getElem?
 intro i
 rw [List.getElem?_set, List.getElem?_set]
 simp only [List.length_set, ydo]
 by_cases h2 : k + 2 = i
 ·subst h2
  rw [if_pos rfl, if_pos (by omega)]
  simp [tmsK, show k + 2 < cs.length + 2 by omega]
  omega
 ·rw [if_neg h2]
  by_cases h1 : k = i
  ·subst h1
   rw [if_pos rfl, if_pos (by omega)]
   simp only [tmsK, List.getElem?_map, List.getElem?_range (show k < cs.length + 2 by omega), Option.map_some]
   congr 1
   by_cases h3 : 2 <= k /\ k - 2 < k
   ·rw [if_neg (by omega), if_pos h3, if_pos (by omega), if_pos (by omega)]; omega
   ·rw [if_neg (by omega), if_neg h3, if_pos (by omega), if_neg (by omega)]; omega
  ·rw [if_neg h1]
   by_cases hi : i < cs.length + 2
   ·simp only [tmsK, List.getElem?_map, List.getElem?_range hi, Option.map_some]
    congr 1
    have e1 : (i < k) = (i < k + 1) := propext ⟨fun h => by omega, fun h => by omega⟩
    have e2 : (2 <= i /\ i - 2 < k) = (2 <= i /\ i - 2 < k + 1) := propext ⟨fun h => ⟨h.1, by omega⟩, fun h => ⟨h.1, by omega⟩⟩
    simp only [e1, e2]
   ·rw [List.getElem?_eq_none (by rw [ydo]; omega), List.getElem?_eq_none (by rw [ydo]; omega)]
abbrev tpA (lo : Int) (cs : List Int) : AV := .agg [I lo, roI cs]
attribute [go_sem] tpA
theorem yql (lo : Int) (cs : List Int) (hlo : -100000 <= lo /\ lo <= 100000) (hl : cs.length <= 100000) (hc : ∀ i, -1152921504606846976 <= cs.getD i 0 /\ cs.getD i 0 <= 1152921504606846976) : Fn Tryz.prog 135 [tpA lo cs] (tpA (lo - 2) (tmsK cs cs.length)) := by
 refine Fn.introL [.cell 2 110] Tryz.func135 rfl rfl (by decide) (by simp [Tryz.ntmps135]) ?_; rw [Tryz.ntmps135]
 repeat' (first | omega | ((try apply yaa); simp only [go_sem, sevalprocAttr]) | (apply yad <;> (intro h_; (try simp only [h_]); revert h_)) | apply yac | apply yab | apply gspI | apply And.intro | with_reducible intro h_ | trivial | (simp only [go_sem, la2]; omega))
 refine yah.intro (fun n fr H => ∃ k : Nat, k <= cs.length /\ n = cs.length - k /\ fr = [(14, I k), (13, I cs.length), (12, roI cs), (3, .sl 1 2 0 (cs.length + 2)), (2, .ptr 1 0), (1, .ptr 0 0)] /\ H = [(2, .cells 3 (.ints (tmsK cs k))), (1, .cells 110 (.lst [I 0, .nils])), (0, .cells 110 (.lst [I lo, roI cs]))]) ?_ ?_
 ·refine ⟨_, _, _, ?_, 0, by omega, rfl, rfl, rfl⟩
  rw [y8g]
  have e0 : ((cs.length : Int) + 2).toNat = cs.length + 2 := by omega
  refine Wk.sub ?_ ?_ <;> (simp only [go_sem, sevalprocAttr, e0])
 rintro n fr H ⟨k, hk, rfl, rfl, rfl⟩
 have tl := ydo cs k
 by_cases hkl : k < cs.length
 ·have bk : decide ((k : Int) < cs.length) = true := by simp; omega
  have hst := yx9 cs k hkl
  have a1 := yfk cs k k (by omega)
  have a2 := yfk cs k (k + 2) (by omega)
  rw [if_neg (by omega)] at a1
  rw [if_neg (by omega), if_neg (by omega)] at a2
  have c0 := hc k
  have c2 := hc (k - 2)
  have h1 : -1152921504606846976 <= (tmsK cs k).getD k 0 /\ (tmsK cs k).getD k 0 <= 1152921504606846976 := by rw [a1]; split <;> omega
  have h2 : (tmsK cs k).getD (k + 2) 0 = 0 := by rw [a2]; rfl
  have e1 : ((k : Int) + 2).toNat = k + 2 := by omega
  have e2 : ((tmsK cs k).set k ((tmsK cs k).getD k 0 - cs.getD k 0)).getD (k + 2) 0 = (tmsK cs k).getD (k + 2) 0 := by simp [List.getD_eq_getElem?_getD, List.getElem?_set, show ¬ k = k + 2 by omega]
  generalize tmsK cs k = R at *
  repeat' (first | omega | ((try apply yaa); simp only [go_sem, sevalprocAttr, bk, e1, e2, tl, hst, List.length_set]) | (apply yad <;> (intro h_; (try simp only [h_]); revert h_)) | apply yac | apply yab | apply gspI | apply And.intro | with_reducible intro h_ | trivial | (simp only [go_sem, la2]; omega))
  refine ⟨_, _, _, ?_, ?_, ⟨k + 1, by omega, rfl, rfl, rfl⟩⟩
  ·omega
  ·refine Wk.sub ?_ ?_ <;> simp only [go_sem, sevalprocAttr]
   all_goals simp_all
 ·obtain rfl : k = cs.length := by omega
  have bk : decide ((cs.length : Int) < cs.length) = false := by simp
  repeat' (first | omega | ((try apply yaa); simp only [go_sem, sevalprocAttr, bk, tl]) | (apply yad <;> (intro h_; (try simp only [h_]); revert h_)) | apply yac | apply yab | apply gspI | apply And.intro | with_reducible intro h_ | trivial | (simp only [go_sem, la2]; omega))
  all_goals (rw [List.take_of_length_le (by omega)]; exact LeA.of (by simp [tl]))
end Go.Proofs.YtebdkebfkpbmpaaGreatDoor
