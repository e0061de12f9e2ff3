/- Layer 17: sweep: the bracket of the crossings, along an order. -/
import Derived.Test.YtebdkebfkpbmpaaGreatDoorSx1
import Derived.Test.YtebdkebfkpbmpaaGreatDoorXk
import Derived.Test.YtebdkebfkpbmpaaGreatDoorXo
namespace Go.Proofs.YtebdkebfkpbmpaaGreatDoor
open Go Go.RowKit
set_option maxRecDepth 100000
set_option maxHeartbeats 8000000
set_option linter.unusedVariables false
set_option linter.unusedSimpArgs false
theorem y82 (lo : Int) (cs : List Int) (hl : cs.length <= 1000000) (hm : mxN cs <= 1125899906842624) : Fn Tryz.prog 100 [tpA lo cs] (.bool false) := by
 refine Fn.introL [.tmp 2] Tryz.func100 rfl rfl (by decide) (by simp [Tryz.ntmps100]) ?_; rw [Tryz.ntmps100]
 repeat' (first | omega | ((try apply yaa); simp only [go_sem, sevalprocAttr]) | (apply yad <;> (intro h_; (try simp only [h_]); revert h_)) | apply yac | apply yab | apply gspI | apply And.intro | with_reducible intro h_ | trivial | (simp only [go_sem, la2]; omega))
 refine yah.intro (fun n fr H => ∃ k : Nat, k <= cs.length /\ n = cs.length - k /\ fr = [(8, I k), (7, I cs.length), (6, roI cs)] /\ H = []) ?_ ?_
 ·refine ⟨_, _, _, ?_, 0, by omega, rfl, rfl, rfl⟩
  refine Wk.sub ?_ ?_ <;> simp only [go_sem, sevalprocAttr]
 rintro n fr H ⟨k, hk, rfl, rfl, rfl⟩
 by_cases hkl : k < cs.length
 ·have bk : decide ((k : Int) < cs.length) = true := by simp; omega
  have hc := ye2 cs k
  have b1 : decide (1125899906842624 < cs.getD k 0) = false := by rw [decide_eq_false_iff_not]; omega
  have b2 : decide (cs.getD k 0 < -1125899906842624) = false := by rw [decide_eq_false_iff_not]; omega
  repeat' (first | omega | ((try apply yaa); simp only [go_sem, sevalprocAttr, bk, b1, b2]) | (apply yad <;> (intro h_; (try simp only [h_]); revert h_)) | apply yac | apply yab | apply gspI | apply And.intro | with_reducible intro h_ | trivial | (simp only [go_sem, la2]; omega))
  refine ⟨_, _, _, ?_, ?_, k + 1, by omega, rfl, rfl, rfl⟩
  ·omega
  ·refine Wk.sub ?_ ?_ <;> simp only [go_sem, sevalprocAttr]
 ·obtain rfl : k = cs.length := by omega
  have bk : decide ((cs.length : Int) < cs.length) = false := by simp
  repeat' (first | omega | ((try apply yaa); simp only [go_sem, sevalprocAttr, bk]) | (apply yad <;> (intro h_; (try simp only [h_]); revert h_)) | apply yac | apply yab | apply gspI | apply And.intro | with_reducible intro h_ | trivial | (simp only [go_sem, la2]; omega))
  all_goals exact LeA.refl _
theorem yo7 (H : Hp) : ∀ (G : List PE) (i : Nat), (∀ k g, G[k]? = some g -> hget H (i + k + 10) = some (.cells 3 (.ints g.cs))) -> hsel H ((List.range' i G.length).map (· + 10)) = rwE i G
 | [], _, _ => rfl
 | g :: G, i, h => by
   have h0 := h 0 g rfl
   rw [Nat.add_zero] at h0
   simp only [List.length_cons, List.range'_succ, List.map_cons, hsel, h0, rwE]
   rw [yo7 H G (i + 1) fun k g' hk => by rw [show i + 1 + k + 10 = i + (k + 1) + 10 by omega]; exact h (k + 1) g' hk]
def plP (o : List Nat) : Nat -> List Nat
 | 0 => []
 | k + 1 => o.getD k 0 :: plP o k
def plE (m : List Int) (o : List Nat) : Nat -> List Int
 | 0 => []
 | k + 1 => endL m (plE m o k) (o.getD k 0)
theorem ycp {o : List Nat} {k : Nat} (h : k < o.length) : o.drop k = o.getD k 0 :: o.drop (k + 1) := by
 rw [List.getD_eq_getElem?_getD, List.getElem?_eq_getElem h, Option.getD_some]
 exact List.drop_eq_getElem_cons h
theorem yfo {m : List Int} {n : Nat} (hp : PmOk m n) {o : List Nat} (hn : o.Nodup) (hl : o.length = n) (hr : ∀ c ∈ o, c < n) : ∀ k, k <= n -> Stg m n (plP o k) (plE m o k) (o.drop k) /\ (plE m o k).length <= 4 * k
 | 0, _ => ⟨Stg.init hn hl hr, by simp [plE]⟩
 | k + 1, hk => by
   obtain ⟨h1, h2⟩ := yfo hp hn hl hr k (by omega)
   rw [ycp (by omega)] at h1
   have h3 := h1.dj _ (List.mem_cons_self ..)
   have h4 := yt3 hp h1.he h3.2 h3.1
   refine ⟨h1.step hp, ?_⟩
   simp only [plE]; omega
structure SdOk (m : List Int) (n : Nat) (o : List Nat) (k : Nat) (sd : List PE) : Prop where
 ok : GOk (plE m o k).length (k : Int) (2 + 200 * (k : Int)) sd
 len : sd.length <= 2 ^ k
 pos : 1 <= sd.length
 va : ∀ e, sumG (vaS m (o.drop k) (plE m o k) e) sd = brT m n 0 1 e
 nu : sumN (nuS m (o.drop k) (plE m o k)) sd <= 2 ^ (3 * n)
theorem SdOk.init {m : List Int} {n : Nat} (hp : PmOk m n) {o : List Nat} (hn : o.Nodup) (hl : o.length = n) (hr : ∀ c ∈ o, c < n) (hn0 : 0 < n) : SdOk m n o 0 [⟨pS [], 0, [1]⟩] := by
 have hd : dK (pS []) = [] := ymz (by simp)
 refine ⟨⟨by simp [ybw], fun g hg => ?_, fun g hg => ?_, fun g hg => ?_, fun g hg => ?_⟩, by simp, by simp, fun e => ?_, ?_⟩
 ·simp only [List.mem_cons, List.not_mem_nil, or_false] at hg
  subst hg
  dsimp only
  rw [hd]
  exact ⟨rfl, rfl, fun x hx => by simp [plE] at hx, fun x hx => by simp [plE] at hx, fun x hx => by simp [plE] at hx⟩
 ·simp only [List.mem_cons, List.not_mem_nil, or_false] at hg
  subst hg; simp
 ·simp only [List.mem_cons, List.not_mem_nil, or_false] at hg
  subst hg; simp
 ·simp only [List.mem_cons, List.not_mem_nil, or_false] at hg
  subst hg; simp
 ·rw [← y6o hp hn hl hr hn0 e]
  simp only [sumG, vaS, hd, List.drop_zero, plE, Int.add_zero]
  refine ybs m o [] [] (fun x => ?_) e
  unfold pfE
  by_cases h0 : x = 0
  ·subst h0; rfl
  ·rw [if_neg h0]
   split
   ·rename_i h
    have : (x - 0) / 2 ≠ 0 := by omega
    obtain ⟨j, hj⟩ : ∃ j, ((x - 0) / 2).toNat = j + 1 := ⟨((x - 0) / 2).toNat - 1, by omega⟩
    rw [hj]; rfl
   ·rfl
 ·simp only [sumN, nuS, hd, List.drop_zero, plE, mxN]
  have := y2i hp hn hl hr
  simpa using this
structure MdOk (m : List Int) (n : Nat) (o : List Nat) (k : Nat) (sd : List PE) (sn : List Nat) (G : List PE) : Prop where
 nd : sn.Nodup
 rg : ∀ i ∈ sn, i < sd.length
 ok : GOk (plE m o (k + 1)).length ((k : Int) + 1) (2 + 200 * (k : Int) + 200) G
 len : G.length <= 2 * sn.length
 pos : sn ≠ [] -> 1 <= G.length
 va : ∀ e, sumG (vaS m (o.drop (k + 1)) (plE m o (k + 1)) e) G = (sn.map fun i => vaS m (o.drop k) (plE m o k) e (sd.getD i ⟨ByteArray.empty, 0, []⟩)).sum
 nu : sumN (nuS m (o.drop (k + 1)) (plE m o (k + 1))) G <= (sn.map fun i => nuS m (o.drop k) (plE m o k) (sd.getD i ⟨ByteArray.empty, 0, []⟩)).sum
theorem MdOk.init (m : List Int) (n : Nat) (o : List Nat) (k : Nat) (sd : List PE) : MdOk m n o k sd [] [] :=
 ⟨by simp, by simp, GOk.nil _ _ _, by simp, by simp, fun e => rfl, by simp [sumN]⟩
theorem y62 (l : List Int) (x : Int) : (l ++ [x]).sum = l.sum + x := by rw [List.sum_append_int]; simp
theorem yr0 (F : PE -> Int) (d : PE) : ∀ (sd : List PE), ((List.range sd.length).map fun i => F (sd.getD i d)).sum = sumG F sd
 | [] => rfl
 | g :: sd => by
   rw [List.length_cons, List.range_succ_eq_map, List.map_cons, List.map_map, List.sum_cons]
   have := yr0 F d sd
   simp only [sumG, ← this]
   rfl
theorem ylo (F : PE -> Nat) (d : PE) : ∀ (sd : List PE), ((List.range sd.length).map fun i => F (sd.getD i d)).sum = sumN F sd
 | [] => rfl
 | g :: sd => by
   rw [List.length_cons, List.range_succ_eq_map, List.map_cons, List.map_map, List.sum_cons]
   have := ylo F d sd
   simp only [sumN, ← this]
   rfl
theorem yo8 {l k : List Nat} (h : l.Perm k) : l.sum = k.sum := by
 induction h with
 | nil => rfl
 | cons x _ ih => simp only [List.sum_cons, ih]
 | swap x y l => simp only [List.sum_cons]; omega
 | trans _ _ h1 h2 => rw [h1, h2]
theorem y2v {sn : List Nat} {N : Nat} (hn : sn.Nodup) (hr : ∀ i ∈ sn, i < N) (ha : ∀ i, i < N -> i ∈ sn) : sn.Perm (List.range N) :=
 (List.perm_ext_iff_of_nodup hn List.nodup_range).2 fun a => ⟨fun h => List.mem_range.2 (hr a h), fun h => ha a (List.mem_range.1 h)⟩
section
variable {m : List Int} {n : Nat} (hp : PmOk m n) {o : List Nat} (hn : o.Nodup) (hl : o.length = n) (hr : ∀ c ∈ o, c < n) (hn14 : n <= 14)
include hp hn hl hr hn14
theorem MdOk.step {k : Nat} (hk : k < n) {sd : List PE} (hS : SdOk m n o k sd) {sn : List Nat} {G : List PE} (h : MdOk m n o k sd sn G) {i : Nat} {g : PE} (hi : sd[i]? = some g) (hni : i ∉ sn) : MdOk m n o k sd (sn ++ [i]) (exG m (o.getD k 0) (spN (o.drop (k + 1))) (plE m o k) G g) := by
 obtain ⟨s1, s2⟩ := yfo hp hn hl hr k (by omega)
 have s3 := (yfo hp hn hl hr (k + 1) (by omega)).2
 rw [ycp (by omega)] at s1
 have hd := s1.dj _ (List.mem_cons_self ..)
 have hg : g ∈ sd := List.mem_of_getElem? hi
 have hgo := hS.ok.ok g hg
 have e1 : plE m o (k + 1) = endL m (plE m o k) (o.getD k 0) := rfl
 have hgd : sd.getD i ⟨ByteArray.empty, 0, []⟩ = g := by rw [List.getD_eq_getElem?_getD, hi]; rfl
 have hex := y6u m (o.getD k 0) (spN (o.drop (k + 1))) (plE m o k) G g
 have hok := h.ok
 rw [e1] at hok s3
 refine ⟨?_, fun j hj => ?_, ?_, ?_, fun _ => hex.2, fun e => ?_, ?_⟩
 ·rw [List.nodup_append]
  refine ⟨h.nd, by simp, fun x hx y hy e => ?_⟩
  simp only [List.mem_cons, List.not_mem_nil, or_false] at hy
  exact hni (hy ▸ e ▸ hx)
 ·rcases List.mem_append.1 hj with hj | hj
  ·exact h.rg j hj
  ·simp only [List.mem_cons, List.not_mem_nil, or_false] at hj
   subst hj; exact (List.getElem?_eq_some_iff.1 hi).1
 ·rw [e1]
  exact y8u hp s1.he hd.2 hd.1 (by omega) (by omega) hgo.2 (hS.ok.pr g hg) (hS.ok.rg g hg) (hS.ok.ne g hg) _ hok
 ·have := h.len
  simp only [List.length_append, List.length_cons, List.length_nil]; omega
 ·rw [e1, y8v hp s1.he hd.2 hd.1 (by omega) (by omega) hgo.2 (hS.ok.pr g hg) _ (hS.ok.rg g hg) (hS.ok.ne g hg) hok e]
  rw [List.map_append, List.map_cons, List.map_nil, y62, hgd, ← h.va e, e1, ycp (show k < o.length by omega)]
 ·have h1 := y8w hp s1.he hd.2 hd.1 (by omega) (by omega) hgo.2 G (o.drop (k + 1)) (spN (o.drop (k + 1)))
  have h2 := h.nu
  rw [e1] at h2 ⊢
  rw [List.map_append, List.map_cons, List.map_nil, List.sum_append, hgd, ycp (show k < o.length by omega)]
  rw [ycp (show k < o.length by omega)] at h2
  simp only [List.sum_cons, List.sum_nil, Nat.add_zero]
  omega
omit hp hn hl hr hn14 in
theorem MdOk.all {k : Nat} {sd : List PE} (hS : SdOk m n o k sd) {sn : List Nat} {G : List PE} (h : MdOk m n o k sd sn G) (ha : ∀ i, i < sd.length -> i ∈ sn) : SdOk m n o (k + 1) G := by
 have hp := y2v h.nd h.rg ha
 have hsl : sn.length = sd.length := by have := hp.length_eq; simpa using this
 have hlen := h.len
 have hsd := hS.len
 have hpos := hS.pos
 refine ⟨?_, by rw [Nat.pow_succ]; omega, h.pos (fun e => by rw [e] at hsl; simp at hsl; omega), fun e => ?_, ?_⟩
 ·have e2 : 2 + 200 * ((k + 1 : Nat) : Int) = 2 + 200 * (k : Int) + 200 := by omega
  rw [e2, show ((k + 1 : Nat) : Int) = (k : Int) + 1 by omega]
  exact h.ok
 ·rw [h.va e, yk8 (hp.map _), yr0 (fun g => vaS m (o.drop k) (plE m o k) e g)]
  exact hS.va e
 ·have h1 := h.nu
  rw [yo8 (hp.map _), ylo (fun g => nuS m (o.drop k) (plE m o k) g)] at h1
  exact Nat.le_trans h1 hS.nu
end
theorem y36 {m : List Int} {r : List Nat} {ends : List Int} {G : List PE} {B : Nat} (h : sumN (nuS m r ends) G <= B) {g : PE} (hg : g ∈ G) : mxN g.cs <= B := by
 have h1 := ylk (F := nuS m r ends) hg
 have h2 := yjz m r ends (dK g.key)
 have h3 : mxN g.cs * 1 <= nuS m r ends g := Nat.mul_le_mul_left _ h2
 omega
theorem yv9 (f : Nat -> Nat) {sn : List Nat} {N : Nat} (hn : sn.Nodup) (hr : ∀ i ∈ sn, i < N) : (sn.map f).sum <= ((List.range N).map f).sum := by
 have hp : (sn ++ (List.range N).filter fun i => !sn.contains i).Perm (List.range N) := by
  refine (List.perm_ext_iff_of_nodup ?_ List.nodup_range).2 fun a => ?_
  ·rw [List.nodup_append]
   refine ⟨hn, List.nodup_range.filter _, fun x hx y hy e => ?_⟩
   subst e
   have := (List.mem_filter.1 hy).2
   simp at this
   exact this hx
  ·simp only [List.mem_append, List.mem_filter, List.mem_range]
   constructor
   ·rintro (h | h)
    ·exact hr a h
    ·exact h.1
   ·intro h
    by_cases ha : a ∈ sn
    ·exact .inl ha
    ·exact .inr ⟨h, by simpa using ha⟩
 rw [← yo8 (hp.map f), List.map_append, List.sum_append]
 omega
theorem MdOk.mx {m : List Int} {n : Nat} {o : List Nat} {k : Nat} {sd : List PE} (hS : SdOk m n o k sd) {sn : List Nat} {G : List PE} (h : MdOk m n o k sd sn G) {x : PE} (hx : x ∈ G) : mxN x.cs <= 2 ^ (3 * n) := by
 refine y36 (Nat.le_trans h.nu (Nat.le_trans (yv9 _ h.nd h.rg) ?_)) hx
 rw [ylo (fun g => nuS m (o.drop k) (plE m o k) g)]
 exact hS.nu
theorem y97 {m : List Int} {r : List Nat} {c : Nat} {ends : List Int} {g : PE} {B : Nat} (h : nuS m (c :: r) ends g <= B) (b : Bool) : 2 ^ ccN m ends c (dK g.key) b * mxN g.cs <= B := by
 have key : 2 ^ ccN m ends c (dK g.key) b <= nmR m (c :: r) ends (dK g.key) := by
  have h0 := yjz m r (endL m ends c) (nxT m ends c (dK g.key) false)
  have h1 := yjz m r (endL m ends c) (nxT m ends c (dK g.key) true)
  have k0 := Nat.mul_le_mul_left (2 ^ ccN m ends c (dK g.key) false) h0
  have k1 := Nat.mul_le_mul_left (2 ^ ccN m ends c (dK g.key) true) h1
  simp only [nmR]
  cases b <;> omega
 have := Nat.mul_le_mul_left (mxN g.cs) key
 rw [Nat.mul_comm]
 exact Nat.le_trans this h
theorem MdOk.cnt {m : List Int} {n : Nat} {o : List Nat} {k : Nat} {sd : List PE} {sn : List Nat} {G : List PE} (h : MdOk m n o k sd sn G) : sn.length <= sd.length := by
 have := ya4 h.nd (k := List.range sd.length) fun i hi => List.mem_range.2 (h.rg i hi)
 simpa using this
theorem y63 {sd : List PE} {sn : List Nat} {G : List PE} {F A : Fr} {H0 : Hp} (hA : ∀ q ∈ A, fget F q.1 = q.2 /\ q.1 < 1000000 /\ s3 okH q.2 = true) (hl : ∀ t, 1000000 <= t -> fget F t = .any) (hH : ∀ i o, hget (swpH sd sn G) i = some o -> hget H0 i = some o) : Wk F H0 A (swpH sd sn G) := by
 have := ylm (ym3 (A := A) (fr1 := []) hA (fun t ht => hl t ht) rfl) hH
 simpa [lft] using this
def ok5 : Hp := (1000005, .gone) :: okH
theorem y2w {k : Nat} (h : (hget ok5 k).isSome = true) : k = 1000005 \/ k = 1 \/ k = 2 \/ k = 1000002 \/ k = 1000003 \/ k = 1000004 := by
 simp only [ok5, hget] at h
 split at h
 ·omega
 ·exact .inr (yeg h)
theorem y64 {fr : Fr} {H : Hp} (h : fr.all (fun q => s3 H q.2) = true) (t : Nat) : fget fr t = .any \/ s3 H (fget fr t) = true := ymr h t
theorem fgA {F A : Fr} (hA : ∀ q ∈ A, fget F q.1 = q.2) (t : Nat) : fget A t = fget F t \/ fget A t = .any := by
 induction A with
 | nil => exact .inr rfl
 | cons q A ih =>
   obtain ⟨s, x⟩ := q
   simp only [fget]
   split
   ·rename_i e; subst e; exact .inl (hA (s, x) (List.mem_cons_self ..)).symm
   ·exact ih fun q hq => hA q (List.mem_cons_of_mem _ hq)
theorem y65 {sd : List PE} {sn : List Nat} {G : List PE} (hG : G.length <= 900000) {F A : Fr} (hF : F.all (fun q => s3 ok5 q.2) = true) (hA : ∀ q ∈ A, fget F q.1 = q.2) (hs : A.all (fun q => s3 [(1000005, .iter 1000002 G.length [] G.length), (1000003, .cells 111 (.lst [.mp 1000002])), (1000002, .gmap 111 G.length (gmD 0 G)), (1, .cells 28 (.lst [.bool false, .nils])), (1000000, .gone)] q.2) = true) :
  Wk F ((1000005, .iter 1000002 G.length [] G.length) :: swpH sd sn G) A [(1000005, .iter 1000002 G.length [] G.length), (1000003, .cells 111 (.lst [.mp 1000002])), (1000002, .gmap 111 G.length (gmD 0 G)), (1, .cells 28 (.lst [.bool false, .nils])), (1000000, .gone)] := by
 have hno : ∀ k, k < 10 \/ 1000000 <= k -> hget (rwE 0 G) k = none := fun k hk => yqw (by omega)
 have h5 : ∀ k, (hget ok5 k).isSome = true -> hget (rwE 0 G) k = none := fun k hk => hno k (by have := y2w hk; omega)
 have e : hsel ((1000005, .iter 1000002 G.length [] G.length) :: swpH sd sn G) ((List.range' 0 G.length).map (· + 10)) = rwE 0 G := by
  refine yo7 _ G 0 fun k g hk => ?_
  have := (List.getElem?_eq_some_iff.1 hk).1
  simp only [hget]
  repeat rw [if_neg (by omega)]
  rw [show 0 + k + 10 = k + 10 by omega]
  exact rwE_row hk
 have f1 := yt8 h5 hF
 have hrows : ∀ (X : List PE) (i : Nat), (∀ k g, X[k]? = some g -> G[i + k]? = some g) -> ycq (rwE 0 G) (rwE i X) := by
  intro X
  induction X with
  | nil => exact fun _ _ => trivial
  | cons g X ih => exact fun i hX => ⟨trivial, ih (i + 1) fun k g hk => by rw [show i + 1 + k = i + (k + 1) by omega]; exact hX (k + 1) g hk⟩
 have h2 : ycq (rwE 0 G) ((1000005, .iter 1000002 G.length [] G.length) :: swpH sd sn G) := by
  refine ⟨trivial, trivial, ?_, ?_, ?_, ?_, trivial, hrows G 0 fun k g hk => by rw [Nat.zero_add]; exact hk⟩
  ·intro x hx
   simp only [List.mem_cons, List.not_mem_nil, or_false] at hx; subst hx; trivial
  ·intro q hq
   obtain ⟨k, g, hk, rfl⟩ := yjm _ _ _ hq
   have h0 := rwE_row hk
   simp only [frzP, List.forall_mem_cons, show 0 + k + 10 = k + 10 by omega, h0, yao]
   refine ⟨trivial, ?_, by simp⟩
   simp [Cs.len]
  ·intro q hq
   obtain ⟨k, g, hk, rfl⟩ := ybx _ _ _ hq
   simp only [frzP, List.forall_mem_cons]
   exact ⟨trivial, trivial, by simp⟩
  ·intro x hx
   simp only [List.mem_cons, List.not_mem_nil, or_false] at hx
   rcases hx with rfl | rfl <;> trivial
 refine (Wk.frz _ (by rw [e]; exact f1.1) (by rw [e]; exact h2) rfl rfl).trans ?_
 rw [e, f1.2]
 have hgm := ytq G G 0 fun k g hk => by rw [Nat.zero_add]; exact hk
 refine Wk.subG (fun t => ?_) fun i o' hi => ?_
 ·rcases y64 hs t with h | h
  ·exact .inl h
  ·rcases fgA hA t with g | g
   ·exact .inr ⟨g, h⟩
   ·exact .inl g
 ·simp only [frzH, frzO, hno 1000005 (by omega), hno 1000004 (by omega), hno 1000003 (by omega), hno 1000002 (by omega), hno 2 (by omega), hno 1 (by omega), hno 1000000 (by omega), hgm]
  simp only [hget] at hi ⊢
  split at hi
  ·rename_i e1; subst e1; cases hi; exact ⟨by simp, rfl⟩
  split at hi
  ·rename_i e1; subst e1; cases hi; exact ⟨by simp; rfl, rfl⟩
  split at hi
  ·rename_i e1; subst e1; cases hi
   refine ⟨by simp, List.all_eq_true.2 fun q hq => ?_⟩
   obtain ⟨k, g, _, rfl⟩ := ybx _ _ _ hq; rfl
  split at hi
  ·rename_i e1; subst e1; cases hi; exact ⟨by simp; exact ⟨rfl, rfl⟩, rfl⟩
  split at hi
  ·rename_i e1; subst e1; cases hi; exact ⟨by simp, rfl⟩
  ·cases hi
end Go.Proofs.YtebdkebfkpbmpaaGreatDoor
