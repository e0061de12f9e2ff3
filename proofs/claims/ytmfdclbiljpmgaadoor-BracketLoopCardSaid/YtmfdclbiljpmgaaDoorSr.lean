/- Smoothing and switching keep a diagram valid; the resolution ends; its polynomial. -/
import Derived.Test.YtmfdclbiljpmgaaDoorSq
import Derived.Test.YtmfdclbiljpmgaaDoorPm
set_option linter.unusedSimpArgs false
set_option linter.unusedVariables false
namespace Go.Proofs.YtmfdclbiljpmgaaDoor
namespace Sp
section
variable {s m : List Int} {L : Int} {n c : Nat} {b : Bool}
theorem woS_get {s : List Int} {c : Nat} : ∀ k, (woS s c k).length = (if c < k then k - 1 else k) ∧ ∀ x, x < (if c < k then k - 1 else k) → (woS s c k).getD x 0 = s.getD (if x < c then x else x + 1) 0
  | 0 => by simp [woS]
  | k + 1 => by
    obtain ⟨h1, h2⟩ := woS_get (s := s) (c := c) k
    simp only [woS]
    by_cases e : k = c
    · subst e
      rw [if_pos rfl, if_pos (by omega)]
      rw [if_neg (by omega)] at h1 h2
      refine ⟨by omega, fun x hx => h2 x (by omega)⟩
    · rw [if_neg e]
      by_cases hc : c < k
      · rw [if_pos hc] at h1 h2
        rw [if_pos (by omega)]
        refine ⟨by rw [List.length_append, h1]; simp; omega, fun x hx => ?_⟩
        by_cases hx' : x < k - 1
        · rw [getD_app_l _ _ _ (by omega)]; exact h2 x hx'
        · obtain rfl : x = k - 1 := by omega
          rw [getD_app_r _ _ _ (by omega), h1, Nat.sub_self, if_neg (by omega), show k - 1 + 1 = k by omega]; rfl
      · rw [if_neg hc] at h1 h2
        rw [if_neg (by omega)]
        refine ⟨by rw [List.length_append, h1]; simp, fun x hx => ?_⟩
        by_cases hx' : x < k
        · rw [getD_app_l _ _ _ (by omega)]; exact h2 x hx'
        · obtain rfl : x = k := by omega
          rw [getD_app_r _ _ _ (by omega), h1, Nat.sub_self, if_pos (by omega)]; rfl
theorem smE_get {i : Nat} (hi : i / 4 ≠ c) : ∀ k, k ≤ m.length → i < k → (smE m b c k).getD i 0 = thrX m b c 5 (m.getD i 0) := fun k => by
  induction k with
  | zero => intro _ h; omega
  | succ k ih =>
    intro hk hlt
    have hl := smE_len (m := m) (b := b) (c := c) k
    simp only [smE]
    by_cases hkc : k / 4 = c
    · rw [if_pos hkc]
      have : i ≠ k := fun e => hi (by rw [e]; exact hkc)
      exact ih (by omega) (by omega)
    · rw [if_neg hkc]
      by_cases e : k = i
      · rw [← e, getD_set_eq (by omega)]
      · rw [getD_set_ne' e]; exact ih (by omega) (by omega)
theorem dia_of (hv : validB s m L = true) : Dia m s.length ∧ sphR m s.length = true := by
  have v := valid1 hv
  refine ⟨⟨v.prd, fun x hx => (v.mt x hx).2.2.1⟩, ?_⟩
  rw [valid_eq] at hv
  unfold validR at hv
  exact (Bool.and_eq_true _ _ ▸ hv).2
theorem jnB_out {x : Int} (hs : s.getD c 0 = 1 ∨ s.getD c 0 = -1) (hx : x / 4 = c) : outB s (jnB (s.getD c 0 == -1) x) = !outB s x := by
  have e : x = 4 * c ∨ x = 4 * c + 1 ∨ x = 4 * c + 2 ∨ x = 4 * c + 3 := by omega
  have d0 : (4 * (c : Int)) / 4 = c ∧ (4 * (c : Int) + 1) / 4 = c ∧ (4 * (c : Int) + 2) / 4 = c ∧ (4 * (c : Int) + 3) / 4 = c := by omega
  have r0 : (4 * (c : Int)) % 4 = 0 ∧ (4 * (c : Int) + 1) % 4 = 1 ∧ (4 * (c : Int) + 2) % 4 = 2 ∧ (4 * (c : Int) + 3) % 4 = 3 := by omega
  obtain ⟨d1, d2, d3, d4⟩ := d0
  obtain ⟨r1, r2, r3, r4⟩ := r0
  rcases hs with hs | hs
  · have hb : (s.getD c 0 == -1) = false := by rw [hs]; decide
    rw [hb]
    obtain ⟨j1, j2, j3, j4⟩ := jnF c
    rcases e with rfl | rfl | rfl | rfl
    · rw [j1]; simp only [outB, d1, d2, r1, r2, Int.toNat_natCast, hs]; decide
    · rw [j2]; simp only [outB, d1, d2, r1, r2, Int.toNat_natCast, hs]; decide
    · rw [j3]; simp only [outB, d3, d4, r3, r4, Int.toNat_natCast, hs]; decide
    · rw [j4]; simp only [outB, d3, d4, r3, r4, Int.toNat_natCast, hs]; decide
  · have hb : (s.getD c 0 == -1) = true := by rw [hs]; decide
    rw [hb]
    obtain ⟨j1, j2, j3, j4⟩ := jnT c
    rcases e with rfl | rfl | rfl | rfl
    · rw [j1]; simp only [outB, d1, d4, r1, r4, Int.toNat_natCast, hs]; decide
    · rw [j2]; simp only [outB, d2, d3, r2, r3, Int.toNat_natCast, hs]; decide
    · rw [j3]; simp only [outB, d2, d3, r2, r3, Int.toNat_natCast, hs]; decide
    · rw [j4]; simp only [outB, d1, d4, r1, r4, Int.toNat_natCast, hs]; decide
theorem thrX_outB (v : Valid1 s m L) (hc : c < s.length) : ∀ f x, InR s.length x → outB s (thrX m (s.getD c 0 == -1) c f x) = outB s x
  | 0, x, _ => rfl
  | f + 1, x, hx => by
    unfold thrX
    split
    · rename_i e
      have hd := jnB_div (s.getD c 0 == -1) x
      have hr : InR s.length (jnB (s.getD c 0 == -1) x) := by unfold InR; omega
      rw [thrX_outB v hc f _ (v.prd.rng hr)]
      unfold InR at hr
      have h1 := (v.mt (jnB (s.getD c 0 == -1) x).toNat (by omega)).2.2.2.2
      rw [show (((jnB (s.getD c 0 == -1) x).toNat : Nat) : Int) = jnB (s.getD c 0 == -1) x by omega, jnB_out (v.sg c hc) e] at h1
      cases h2 : outB s x <;> cases h3 : outB s (m.getD (jnB (s.getD c 0 == -1) x).toNat 0) <;> simp_all
    · rfl
theorem smL_rng : 0 ≤ smL m b c n ∧ smL m b c n ≤ 2 := by
  unfold smL; simp only; split <;> split <;> omega
theorem outB_wo (hc : c < s.length) {x y : Nat} (hx : x < 4 * (s.length - 1)) (hy : y = if x / 4 < c then x else x + 4) : outB (woS s c s.length) x = outB s y := by
  obtain ⟨_, h2⟩ := woS_get (s := s) (c := c) s.length
  rw [if_pos hc] at h2
  have e1 : ((x : Int) / 4).toNat = x / 4 := by omega
  have e2 : ((y : Int) / 4).toNat = if x / 4 < c then x / 4 else x / 4 + 1 := by rw [hy]; split <;> omega
  have e3 : (y : Int) % 4 = (x : Int) % 4 := by rw [hy]; split <;> omega
  unfold outB
  rw [e1, e2, e3, h2 (x / 4) (by omega)]
theorem valid_smooth (hv : validB s m L = true) (hc : c < s.length) (hL : smLp s m c L ≤ 64) : validB (smS s c) (smM s m c) (smLp s m c L) = true ∧ (smS s c).length = s.length - 1 := by
  have v := valid1 hv
  obtain ⟨hd, hsp⟩ := dia_of hv
  obtain ⟨hd', hsp'⟩ := smooth_sph (b := (s.getD c 0 == -1)) hd hc hsp
  obtain ⟨w1, w2⟩ := woS_get (s := s) (c := c) s.length
  rw [if_pos hc] at w1 w2
  obtain ⟨wl, wg⟩ := woM_get (E := smE m (s.getD c 0 == -1) c (4 * s.length)) (c := c) s.length
  rw [if_pos hc] at wl wg
  have hsl : (smS s c).length = s.length - 1 := w1
  refine ⟨?_, hsl⟩
  rw [valid_eq]
  unfold validR
  rw [hsl, Bool.and_eq_true]
  refine ⟨?_, hsp'⟩
  unfold pairedB
  rw [decide_eq_true_iff, hsl]
  have h64 := v.s64
  have hsm := smL_rng (m := m) (b := (s.getD c 0 == -1)) (c := c) (n := s.length)
  have hl0 := v.l0
  refine ⟨by omega, wl, by unfold smLp; omega, hL, fun i hi => ?_, fun h hh => ?_⟩
  · unfold smS
    rw [w2 i hi]
    exact v.sg _ (by split <;> omega)
  · have p1 := hd'.prd.ok.2 h hh
    have p2 := hd'.prd.inv h hh
    have p3 := hd'.ne h hh
    refine ⟨p1.1, by rw [hsl]; exact p1.2, p3, p2, ?_⟩
    obtain ⟨y, hy⟩ : ∃ y, y = if h / 4 < c then h else h + 4 := ⟨_, rfl⟩
    have hyr : y < 4 * s.length ∧ y / 4 ≠ c := by rw [hy]; split <;> omega
    unfold smS
    rw [outB_wo hc hh hy]
    have e1 : (smM s m c).getD h 0 = cutM (smE m (s.getD c 0 == -1) c (4 * s.length)) c y := by unfold smM; rw [wg h hh, hy]
    have hml := v.len
    have e2 : (smE m (s.getD c 0 == -1) c (4 * s.length)).getD y 0 = thrX m (s.getD c 0 == -1) c 5 (m.getD y 0) := smE_get hyr.2 _ (by omega) hyr.1
    have hout := thrX_out (b := (s.getD c 0 == -1)) v.prd hc hyr.1 hyr.2
    have hr0 : InR s.length (m.getD y 0) := by have := v.prd.ok.2 y hyr.1; unfold InR; omega
    have hrng := thrX_rng (b := (s.getD c 0 == -1)) v.prd hc 5 _ hr0
    have ho := thrX_outB v hc 5 _ hr0
    have hne := (v.mt y hyr.1).2.2.2.2
    have p1' : (0 : Int) ≤ (smM s m c).getD h 0 ∧ (smM s m c).getD h 0 < 4 * ((s.length - 1 : Nat) : Int) := p1
    unfold cutM at e1
    rw [e2] at e1
    generalize thrX m (s.getD c 0 == -1) c 5 (m.getD y 0) = z at *
    unfold InR at hrng
    obtain ⟨z, rfl⟩ : ∃ q : Nat, z = q := ⟨z.toNat, by omega⟩
    obtain ⟨q, hq⟩ : ∃ q : Nat, (smM s m c).getD h 0 = q := ⟨((smM s m c).getD h 0).toNat, by omega⟩
    rw [hq, outB_wo (y := z) hc (by omega) (by rw [hq] at e1; split at e1 <;> split <;> omega), ho]
    exact hne
end
end Sp
end Go.Proofs.YtmfdclbiljpmgaaDoor
namespace Go.Proofs.YtmfdclbiljpmgaaDoor
namespace Sp
section
variable {s m : List Int} {L : Int} {n c k : Nat}
def tw (k c x : Nat) : Nat := if x / 4 = c then x - x % 4 + (x % 4 + k) % 4 else x
theorem tw_div (k c x : Nat) : tw k c x / 4 = x / 4 := by unfold tw; split <;> omega
theorem tw_lt {x : Nat} (hx : x < 4 * n) : tw k c x < 4 * n := by have := tw_div k c x; omega
theorem tw_out {x : Nat} (h : x / 4 ≠ c) : tw k c x = x := by unfold tw; rw [if_neg h]
theorem tw_back {x : Nat} (hk : k = 1 ∨ k = 3) : tw (4 - k) c (tw k c x) = x ∧ tw k c (tw (4 - k) c x) = x := by
  by_cases h : x / 4 = c
  · unfold tw
    simp only [h, if_true]
    rw [if_pos (by omega), if_pos (by omega)]
    rcases hk with rfl | rfl <;> omega
  · rw [tw_out h, tw_out h, tw_out h]; exact ⟨rfl, rfl⟩
theorem tw_inj {x y : Nat} (hk : k = 1 ∨ k = 3) (e : tw k c x = tw k c y) : x = y := by
  rw [← (tw_back (c := c) (x := x) hk).1, e, (tw_back hk).1]
theorem tw_si (x : Nat) (hk : k = 1 ∨ k = 3) : tw k c (siD x) = siD (tw k c x) := by
  by_cases h : x / 4 = c
  · have h1 := siD_div x
    have h2 := tw_div k c x
    unfold tw siD
    rw [if_pos (by unfold siD at h1; omega), if_pos h]
    rcases hk with rfl | rfl <;> omega
  · rw [tw_out h, tw_out (by rw [siD_div]; exact h)]
theorem tw_to (hs : s.getD c 0 = 1 ∨ s.getD c 0 = -1) (x : Nat) : turnM x (exBy s (· == (c : Int)) ((x : Int) / 4)) = (tw (if s.getD c 0 = 1 then 1 else 3) c x : Nat) := by
  by_cases h : x / 4 = c
  · have e : ((x : Int) / 4 == (c : Int)) = true := by simp; omega
    have e2 : ((x : Int) / 4).toNat = c := by omega
    unfold exBy tw
    rw [if_pos e, e2, if_pos h]
    split
    · unfold turnM; rw [show Int.tmod (-3) 4 = -3 by decide]; omega
    · unfold turnM; rw [show Int.tmod (-1) 4 = -1 by decide]; omega
  · have e : ((x : Int) / 4 == (c : Int)) = false := by simp; omega
    unfold exBy
    rw [if_neg (fun e' => by have := e.symm.trans e'; cases this), tw_out h]
    unfold turnM
    rw [show Int.tmod 0 4 = 0 by decide]; omega
theorem mvM_get {to : Int → Int} {t : Nat → Nat} (ht : ∀ x : Nat, to x = t x) (hi : ∀ x y, t x = t y → x = y) (hl : ∀ x, x < m.length → t x < m.length) : ∀ k, k ≤ m.length → ∀ i, i < k → (mvM m to k).getD (t i) 0 = to (m.getD i 0)
  | 0, _, i, h => by omega
  | k + 1, hk, i, h => by
    have hlen := mvM_len m to k
    simp only [mvM]
    rw [ht k, Int.toNat_natCast]
    by_cases e : i = k
    · subst e; rw [getD_set_eq (by rw [hlen]; exact hl i (by omega))]
    · rw [getD_set_ne' (fun e' => e (hi _ _ e').symm)]; exact mvM_get ht hi hl k (by omega) i (by omega)
theorem swS_get {i : Nat} (hi : i < s.length) : (swS s c).getD i 0 = if i = c then - s.getD i 0 else s.getD i 0 := by
  unfold swS exS sgM
  rw [List.getD_eq_getElem?_getD, List.getElem?_map, List.getElem?_range hi]
  simp only [Option.map_some, Option.getD_some, exSg]
  by_cases e : i = c
  · subst e; simp
  · have : ¬ ((i : Int) == (c : Int)) = true := by simp; omega
    rw [if_neg this, if_neg e]; simp
theorem swS_len : (swS s c).length = s.length := by unfold swS exS; rw [sgM_len]
def kT (s : List Int) (c : Nat) : Nat := if s.getD c 0 = 1 then 1 else 3
theorem kT_or : kT s c = 1 ∨ kT s c = 3 := by unfold kT; split <;> simp
theorem swM_get (v : Valid1 s m L) (hc : c < s.length) {i : Nat} (hi : i < 4 * s.length) : (swM s m c).getD (tw (kT s c) c i) 0 = (tw (kT s c) c (alD m i) : Nat) := by
  have hs := v.sg c hc
  have hml := v.len
  unfold swM exM
  rw [mvM_get (t := tw (kT s c) c) (fun x => tw_to hs x) (fun x y e => tw_inj kT_or e) (fun x hx => by rw [hml] at hx ⊢; exact tw_lt hx) m.length (Nat.le_refl _) i (by omega)]
  have h0 := (v.mt i hi).1
  have e : m.getD i 0 = ((alD m i : Nat) : Int) := by unfold alD; omega
  rw [e]
  exact tw_to hs _
theorem swM_len : (swM s m c).length = m.length := mvM_len _ _ _
theorem outB_sw (hs : s.getD c 0 = 1 ∨ s.getD c 0 = -1) (hc : c < s.length) {x : Nat} (hx : x < 4 * s.length) : outB (swS s c) (tw (kT s c) c x) = outB s x := by
  have hd := tw_div (kT s c) c x
  have e1 : (((tw (kT s c) c x : Nat) : Int) / 4).toNat = x / 4 := by omega
  have e2 : ((x : Int) / 4).toNat = x / 4 := by omega
  unfold outB
  rw [e1, e2, swS_get (by omega)]
  by_cases h : x / 4 = c
  · rw [if_pos h, h]
    have r : x % 4 = 0 ∨ x % 4 = 1 ∨ x % 4 = 2 ∨ x % 4 = 3 := by omega
    rcases hs with hs | hs
    · have hk : kT s c = 1 := by unfold kT; rw [if_pos hs]
      rw [hk, hs]
      rcases r with r | r | r | r
      · rw [show (x : Int) % 4 = 0 by omega, show ((tw 1 c x : Nat) : Int) % 4 = 1 by unfold tw; rw [if_pos h]; omega]; decide
      · rw [show (x : Int) % 4 = 1 by omega, show ((tw 1 c x : Nat) : Int) % 4 = 2 by unfold tw; rw [if_pos h]; omega]; decide
      · rw [show (x : Int) % 4 = 2 by omega, show ((tw 1 c x : Nat) : Int) % 4 = 3 by unfold tw; rw [if_pos h]; omega]; decide
      · rw [show (x : Int) % 4 = 3 by omega, show ((tw 1 c x : Nat) : Int) % 4 = 0 by unfold tw; rw [if_pos h]; omega]; decide
    · have hk : kT s c = 3 := by unfold kT; rw [if_neg (by omega)]
      rw [hk, hs]
      rcases r with r | r | r | r
      · rw [show (x : Int) % 4 = 0 by omega, show ((tw 3 c x : Nat) : Int) % 4 = 3 by unfold tw; rw [if_pos h]; omega]; decide
      · rw [show (x : Int) % 4 = 1 by omega, show ((tw 3 c x : Nat) : Int) % 4 = 0 by unfold tw; rw [if_pos h]; omega]; decide
      · rw [show (x : Int) % 4 = 2 by omega, show ((tw 3 c x : Nat) : Int) % 4 = 1 by unfold tw; rw [if_pos h]; omega]; decide
      · rw [show (x : Int) % 4 = 3 by omega, show ((tw 3 c x : Nat) : Int) % 4 = 2 by unfold tw; rw [if_pos h]; omega]; decide
  · rw [if_neg h, tw_out h]
theorem swM_al (v : Valid1 s m L) (hc : c < s.length) {i : Nat} (hi : i < 4 * s.length) : alD (swM s m c) i = tw (kT s c) c (alD m (tw (4 - kT s c) c i)) ∧ ((alD (swM s m c) i : Nat) : Int) = (swM s m c).getD i 0 := by
  have h := swM_get v hc (i := tw (4 - kT s c) c i) (tw_lt hi)
  rw [(tw_back kT_or).2] at h
  refine ⟨?_, ?_⟩
  · unfold alD; rw [h, Int.toNat_natCast]; rfl
  · unfold alD; rw [h, Int.toNat_natCast]
theorem valid_switch (hv : validB s m L = true) (hc : c < s.length) : validB (swS s c) (swM s m c) L = true := by
  have v := valid1 hv
  obtain ⟨hd, hsp⟩ := dia_of hv
  have hs := v.sg c hc
  have hS := hd.sph.1 hsp
  have hk : 4 - kT s c = 1 ∨ 4 - kT s c = 3 := by have := kT_or (s := s) (c := c); omega
  have hal : ∀ x, x < 4 * s.length → alD m x < 4 * s.length := fun x hx => hd.mat.lt x hx
  have ha' : ∀ x, x < 4 * s.length → alD (swM s m c) x < 4 * s.length := fun x hx => by rw [(swM_al v hc hx).1]; exact tw_lt (hal _ (tw_lt hx))
  have hS' : Sph (4 * s.length) siD (alD (swM s m c)) := by
    refine hS.embed (io := tw (4 - kT s c) c) (fun x hx => tw_lt hx) (fun x y hx hy e => tw_inj hk e) (fun x hx => (siD_perm s.length).lt x hx) ha' (fun x hx => tw_si x hk) (fun x hx => ?_)
    rw [(swM_al v hc hx).1, (tw_back kT_or).1]
  have hml : (swM s m c).length = 4 * s.length := by rw [swM_len]; exact v.len
  have hD : Dia (swM s m c) s.length := by
    refine ⟨⟨⟨hml, fun i hi => ?_⟩, fun x hx => ?_⟩, fun x hx e => ?_⟩
    · have h1 := (swM_al v hc hi).2; have h2 := ha' i hi; omega
    · have h1 := swM_al v hc hx
      have h2 := hS'.mat.inv x hx
      have h3 := swM_al v hc (ha' x hx)
      rw [h2] at h3
      rw [← h1.2, Int.toNat_natCast, ← h3.2]
    · have h1 := swM_al v hc hx
      exact hS'.mat.ne x hx (by omega)
  rw [valid_eq]
  unfold validR
  rw [swS_len, Bool.and_eq_true]
  refine ⟨?_, hD.sph.2 hS'⟩
  unfold pairedB
  rw [decide_eq_true_iff, swS_len]
  refine ⟨v.s64, hml, v.l0, v.l64, fun i hi => ?_, fun h hh => ?_⟩
  · rw [swS_get hi]
    have := v.sg i hi
    split <;> omega
  · have p1 := hD.prd.ok.2 h hh
    refine ⟨p1.1, by rw [swS_len]; exact p1.2, hD.ne h hh, hD.prd.inv h hh, ?_⟩
    have q := swM_al v hc hh
    obtain ⟨y, hy⟩ : ∃ y, y = tw (4 - kT s c) c h := ⟨_, rfl⟩
    have hyl : y < 4 * s.length := by rw [hy]; exact tw_lt hh
    have e : h = tw (kT s c) c y := by rw [hy, (tw_back kT_or).2]
    rw [← hy] at q
    have hne := (v.mt y hyl).2.2.2.2
    rw [← q.2, q.1, e, outB_sw hs hc hyl, outB_sw hs hc (hal y hyl)]
    rw [hd.cast hyl]; exact hne
end
end Sp
end Go.Proofs.YtmfdclbiljpmgaaDoor
namespace Go.Proofs.YtmfdclbiljpmgaaDoor
namespace Sp
section
variable {s m : List Int} {L : Int} {n c k : Nat}
def opN (y : Nat) : Nat := y - y % 4 + (y % 4 + 2) % 4
theorem op_nat (y : Nat) : turnM y 2 = (opN y : Nat) := by unfold turnM opN; rw [show Int.tmod 2 4 = 2 by decide]; omega
theorem str_nat (v : Valid1 s m L) {g : Nat} (hg : g < 4 * s.length) : strNx m g = (opN (alD m g) : Nat) ∧ opN (alD m g) < 4 * s.length := by
  have h := v.mt g hg
  have e : m.getD g 0 = ((alD m g : Nat) : Int) := by unfold alD; omega
  refine ⟨?_, by unfold opN alD; omega⟩
  unfold strNx
  rw [Int.toNat_natCast, e, op_nat]
end
end Sp
end Go.Proofs.YtmfdclbiljpmgaaDoor
namespace Go.Proofs.YtmfdclbiljpmgaaDoor
namespace Sp
def zadd : List Int → List Int → List Int
  | [], q => q
  | p, [] => p
  | a :: p, b :: q => (a + b) :: zadd p q
end Sp
end Go.Proofs.YtmfdclbiljpmgaaDoor
namespace Go.Proofs.YtmfdclbiljpmgaaDoor
namespace Sp
section
variable {s m : List Int} {L : Int} {n c k : Nat}
theorem cysN_nil {N : Nat} {want : Int → Bool} {orb : Int → List Int} : ∀ h, (cysN N want orb h).1 = [] → (cysN N want orb h).2 = List.replicate N false ∧ ∀ x, x < h → x < N → want x = false
  | 0, _ => ⟨rfl, fun x hx => by omega⟩
  | h + 1, e => by
    simp only [cysN, cys1] at e ⊢
    by_cases hq : ((cysN N want orb h).2.getD h false || !want h) = true
    · rw [if_pos hq] at e ⊢
      obtain ⟨h1, h2⟩ := cysN_nil h e
      refine ⟨h1, fun x hx hN => ?_⟩
      by_cases hxh : x < h
      · exact h2 x hxh hN
      · obtain rfl : x = h := by omega
        rw [h1, List.getD_eq_getElem?_getD, List.getElem?_replicate, if_pos hN] at hq
        simpa using hq
    · rw [if_neg hq] at e; simp at e
theorem strands_pos (v : Valid1 s m L) (h : 0 < s.length) : 0 < (strandsM s m).length := by
  apply Nat.pos_of_ne_zero
  intro e
  have hn : strandsM s m = [] := List.eq_nil_of_length_eq_zero e
  have h2 := (cysN_nil _ hn).2 2 (by rw [v.len]; omega) (by rw [v.len]; omega)
  simp [outB] at h2
end
end Sp
end Go.Proofs.YtmfdclbiljpmgaaDoor
namespace Go.Proofs.YtmfdclbiljpmgaaDoor
namespace Sp
section
variable {s m : List Int} {L : Int} {n c k : Nat}
def adR (p : List Int) (k : Int) (q : List Int) : List Int := zadd p (0 :: q.map fun x => k * x)
def bdB (l : List Int) : Bool := l.all fun x => decide (-1125899906842624 ≤ x ∧ x ≤ 1125899906842624)
def rfM : Nat → List Int → List Int → Int → Option (List Int)
  | 0, _, _, _ => none
  | f + 1, s, m, L => match badO s m with
    | none => some (if ((strandsM s m).length : Int) + L = 1 then [1] else [0])
    | some c => match rfM f (swS s c.toNat) (swM s m c.toNat) L, rfM f (smS s c.toNat) (smM s m c.toNat) (smLp s m c.toNat L) with
      | some p, some q => if bdB p && bdB q && decide (p.length ≤ 100) && decide (q.length ≤ 100) then some (adR p (s.getD c.toNat 0) q) else none
      | _, _ => none
theorem zadd_mem {A B : Int} (hA : 0 ≤ A) (hB : 0 ≤ B) : ∀ p q : List Int, (∀ x ∈ p, -A ≤ x ∧ x ≤ A) → (∀ x ∈ q, -B ≤ x ∧ x ≤ B) → ∀ x ∈ zadd p q, -(A + B) ≤ x ∧ x ≤ A + B
  | [], q, _, hq => fun x hx => by have := hq x hx; omega
  | a :: p, [], hp, _ => fun x hx => by have := hp x hx; omega
  | a :: p, b :: q, hp, hq => fun x hx => by
    rcases List.mem_cons.1 hx with rfl | hx
    · have h1 := hp a List.mem_cons_self
      have h2 := hq b List.mem_cons_self
      omega
    · exact zadd_mem hA hB p q (fun y hy => hp y (List.mem_cons_of_mem _ hy)) (fun y hy => hq y (List.mem_cons_of_mem _ hy)) x hx
theorem sg_mem {k B : Int} (hk : k = 1 ∨ k = -1) {q : List Int} (hB : 0 ≤ B) (hq : ∀ x ∈ q, -B ≤ x ∧ x ≤ B) : ∀ x ∈ (0 : Int) :: q.map fun x => k * x, -B ≤ x ∧ x ≤ B := fun x hx => by
  rcases List.mem_cons.1 hx with rfl | hx
  · omega
  · obtain ⟨y, hy, rfl⟩ := List.mem_map.1 hx
    have := hq y hy
    rcases hk with rfl | rfl <;> omega
theorem adR_mem {A B k : Int} (hA : 0 ≤ A) (hB : 0 ≤ B) (hk : k = 1 ∨ k = -1) {p q : List Int} (hp : ∀ x ∈ p, -A ≤ x ∧ x ≤ A) (hq : ∀ x ∈ q, -B ≤ x ∧ x ≤ B) : ∀ x ∈ adR p k q, -(A + B) ≤ x ∧ x ≤ A + B :=
  zadd_mem hA hB p _ hp (sg_mem hk hB hq)
end
end Sp
end Go.Proofs.YtmfdclbiljpmgaaDoor
