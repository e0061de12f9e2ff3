/- Plain: the sum over the states by Horner's rule, as functions of the exponent; a multiple of a power of d has many terms. -/
import Derived.Test.YtmfdclbiljpmgaaDoorKb1
import Derived.Test.YtmfdclbiljpmgaaDoorLf
namespace Go.Proofs.YtmfdclbiljpmgaaDoor
set_option linter.unusedSimpArgs false
set_option linter.unusedVariables false
def dml (f : Int → Int) (e : Int) : Int := -(f (e + 2)) - f (e - 2)
def dpw : Nat → Int → Int
  | 0, e => if e = 0 then 1 else 0
  | j + 1, e => dml (dpw j) e
theorem dpw_supp : ∀ (j : Nat) (e : Int), dpw j e ≠ 0 → -(2 * (j : Int)) ≤ e ∧ e ≤ 2 * j
  | 0, e, h => by
    have : e = 0 := by
      by_cases h0 : e = 0
      · exact h0
      · simp [dpw, h0] at h
    omega
  | j + 1, e, h => by
    by_cases h1 : dpw j (e + 2) = 0
    · by_cases h2 : dpw j (e - 2) = 0
      · exact absurd (by simp [dpw, dml, h1, h2]) h
      · have := dpw_supp j _ h2; omega
    · have := dpw_supp j _ h1; omega
theorem dpw_abs : ∀ (j : Nat) (e : Int), -((2 ^ j : Nat) : Int) ≤ dpw j e ∧ dpw j e ≤ ((2 ^ j : Nat) : Int)
  | 0, e => by simp only [dpw]; split <;> simp
  | j + 1, e => by
    have h1 := dpw_abs j (e + 2)
    have h2 := dpw_abs j (e - 2)
    simp only [dpw, dml, Nat.pow_succ]
    omega
theorem cvL_d (p : List (Int × Int)) (e : Int) : cvL p (cfL [(-2, -1), (2, -1)]) e = dml (cfL p) e := by
  induction p with
  | nil => rfl
  | cons t p ih =>
    have key : t.2 * cfL [(-2, -1), (2, -1)] (e - t.1) = -(if t.1 = e + 2 then t.2 else 0) - (if t.1 = e - 2 then t.2 else 0) := by
      simp only [cfL]
      by_cases h1 : t.1 = e + 2
      · rw [if_pos (by omega), if_neg (by omega), if_pos h1, if_neg (by omega)]; omega
      · rw [if_neg (by omega), if_neg h1]
        by_cases h2 : t.1 = e - 2
        · rw [if_pos (by omega), if_pos h2]; omega
        · rw [if_neg (by omega), if_neg h2]; omega
    show t.2 * cfL [(-2, -1), (2, -1)] (e - t.1) + cvL p (cfL [(-2, -1), (2, -1)]) e = _
    rw [key, ih]
    simp only [dml, cfL]
    omega
def hrT (K : Nat) (c : Nat → Nat) (w : Nat → Int) (j : Nat) (e : Int) : Int := sm (fun k => if j ≤ c k then dpw (c k - j) (e - w k) else 0) K
def hrR (K : Nat) (c : Nat → Nat) (w : Nat → Int) (j : Nat) (e : Int) : Int := sm (fun k => if c k = j ∧ e = w k then 1 else 0) K
section
variable {K : Nat} {c : Nat → Nat} {w : Nat → Int}
theorem hrT_step (j : Nat) (e : Int) : hrT K c w j e = dml (hrT K c w (j + 1)) e + hrR K c w j e := by
  induction K with
  | zero => rfl
  | succ K ih =>
    unfold hrT hrR dml at ih ⊢
    simp only [sm]
    rw [ih]
    have key : (if j ≤ c K then dpw (c K - j) (e - w K) else 0) = -(if j + 1 ≤ c K then dpw (c K - (j + 1)) (e + 2 - w K) else 0) - (if j + 1 ≤ c K then dpw (c K - (j + 1)) (e - 2 - w K) else 0) + (if c K = j ∧ e = w K then 1 else 0) := by
      by_cases h1 : j + 1 ≤ c K
      · rw [if_pos (by omega), if_pos h1, if_pos h1, if_neg (by omega), show c K - j = (c K - (j + 1)) + 1 by omega]
        simp only [dpw, dml]
        rw [show e - w K + 2 = e + 2 - w K by omega, show e - w K - 2 = e - 2 - w K by omega]; omega
      · rw [if_neg h1, if_neg h1]
        by_cases h2 : c K = j
        · rw [if_pos (by omega), show c K - j = 0 by omega]
          simp only [dpw]
          by_cases h3 : e = w K
          · rw [if_pos (by omega), if_pos ⟨h2, h3⟩]; omega
          · rw [if_neg (by omega), if_neg (by omega)]; omega
        · rw [if_neg (by omega), if_neg (by omega)]; omega
    dsimp only
    omega
theorem hrT_top {j : Nat} (h : ∀ k, k < K → c k < j) (e : Int) : hrT K c w j e = 0 := by
  have : hrT K c w j e = sm (fun _ => 0) K := sm_congr fun k hk => by have := h k hk; rw [if_neg (by omega)]
  rw [this, sm_const]; omega
theorem sm_ne {f : Nat → Int} : ∀ {n : Nat}, sm f n ≠ 0 → ∃ k, k < n ∧ f k ≠ 0
  | 0, h => absurd rfl h
  | n + 1, h => by
    by_cases h1 : f n = 0
    · simp only [sm, h1, Int.add_zero] at h
      obtain ⟨k, h2, h3⟩ := sm_ne h
      exact ⟨k, by omega, h3⟩
    · exact ⟨n, by omega, h1⟩
theorem sm_abs {f : Nat → Int} {b : Int} : ∀ {n : Nat}, (∀ k, k < n → -b ≤ f k ∧ f k ≤ b) → -(b * n) ≤ sm f n ∧ sm f n ≤ b * n
  | 0, _ => by simp [sm]
  | n + 1, h => by
    have h1 := sm_abs (n := n) fun k hk => h k (by omega)
    have h2 := h n (by omega)
    simp only [sm, Int.natCast_add, Int.mul_add]
    omega
theorem hrT_supp {j : Nat} {e : Int} (h : hrT K c w j e ≠ 0) : ∃ k, k < K ∧ j ≤ c k ∧ w k - 2 * ((c k : Int) - j) ≤ e ∧ e ≤ w k + 2 * ((c k : Int) - j) := by
  obtain ⟨k, hk, h2⟩ := sm_ne h
  by_cases hj : j ≤ c k
  · rw [if_pos hj] at h2
    have := dpw_supp _ _ h2
    exact ⟨k, hk, hj, by omega, by omega⟩
  · rw [if_neg hj] at h2; exact absurd rfl h2
theorem hrT_abs {j M : Nat} (hM : ∀ k, k < K → c k - j ≤ M) (e : Int) : -((2 ^ M : Nat) : Int) * K ≤ hrT K c w j e ∧ hrT K c w j e ≤ ((2 ^ M : Nat) : Int) * K := by
  have := sm_abs (f := fun k => if j ≤ c k then dpw (c k - j) (e - w k) else 0) (b := ((2 ^ M : Nat) : Int)) (n := K) fun k hk => by
    have h1 := hM k hk
    have h2 : 2 ^ (c k - j) ≤ 2 ^ M := Nat.pow_le_pow_right (by omega) h1
    have h3 := dpw_abs (c k - j) (e - w k)
    split <;> omega
  rw [Int.neg_mul]
  exact this
end
def dmn : Nat → (Int → Int) → Int → Int
  | 0, g => g
  | i + 1, g => dml (dmn i g)
def FinS (g : Int → Int) : Prop := ∃ b : Nat, ∀ e : Int, g e ≠ 0 → -(b : Int) ≤ e ∧ e ≤ b
theorem FinS.dml {g : Int → Int} (h : FinS g) : FinS (dml g) := by
  obtain ⟨b, hb⟩ := h
  refine ⟨b + 2, fun e he => ?_⟩
  by_cases h1 : g (e + 2) = 0
  · by_cases h2 : g (e - 2) = 0
    · exact absurd (by simp [Proofs.YtmfdclbiljpmgaaDoor.dml, h1, h2]) he
    · have := hb _ h2; omega
  · have := hb _ h1; omega
theorem FinS.dmn {g : Int → Int} (h : FinS g) : ∀ i, FinS (dmn i g)
  | 0 => h
  | i + 1 => (FinS.dmn h i).dml
theorem FinS.mul {g : Int → Int} (h : FinS g) (a : Int) : FinS fun e => (e - a) * g e := by
  obtain ⟨b, hb⟩ := h
  exact ⟨b, fun e he => hb e fun h0 => he (by simp [h0])⟩
theorem FinS.add {g f : Int → Int} (h : FinS g) (h2 : FinS f) : FinS fun e => g e + f e := by
  obtain ⟨b, hb⟩ := h
  obtain ⟨b2, hb2⟩ := h2
  refine ⟨b + b2, fun e he => ?_⟩
  by_cases h0 : g e = 0
  · have := hb2 e fun h1 => he (by simp [h0, h1]); omega
  · have := hb e h0; omega
def dsh (g : Int → Int) (e : Int) : Int := 2 * g (e + 2) - 2 * g (e - 2)
theorem FinS.dsh {g : Int → Int} (h : FinS g) : FinS (dsh g) := by
  obtain ⟨b, hb⟩ := h
  refine ⟨b + 2, fun e he => ?_⟩
  by_cases h1 : g (e + 2) = 0
  · by_cases h2 : g (e - 2) = 0
    · exact absurd (by simp [Proofs.YtmfdclbiljpmgaaDoor.dsh, h1, h2]) he
    · have := hb _ h2; omega
  · have := hb _ h1; omega
theorem dmn_dsh (g : Int → Int) : ∀ i e, dmn i (dsh g) e = dsh (dmn i g) e
  | 0, e => rfl
  | i + 1, e => by
    simp only [dmn, dml, dmn_dsh g i, dsh]
    rw [show e + 2 - 2 = e - 2 + 2 by omega]; omega
theorem dmn_add (g f : Int → Int) : ∀ i e, dmn i (fun e => g e + f e) e = dmn i g e + dmn i f e
  | 0, e => rfl
  | i + 1, e => by simp only [dmn, dml, dmn_add g f i]; omega
theorem dml_lin (a : Int) (g : Int → Int) (e : Int) : (e - a) * dml g e = dml (fun e => (e - a) * g e) e + dsh g e := by
  simp only [dml, dsh]
  have h1 : (e + 2 - a) * g (e + 2) = (e - a) * g (e + 2) + 2 * g (e + 2) := by rw [← Int.add_mul]; congr 1; omega
  have h2 : (e - 2 - a) * g (e - 2) = (e - a) * g (e - 2) - 2 * g (e - 2) := by rw [← Int.sub_mul]; congr 1; omega
  rw [h1, h2, Int.mul_sub, Int.mul_neg]
  omega
theorem dmn_lin (a : Int) {g : Int → Int} (hg : FinS g) : ∀ i, ∃ g', FinS g' ∧ ∀ e, (e - a) * dmn (i + 1) g e = dmn i g' e
  | 0 => ⟨fun e => (e - a) * dmn 1 g e, (hg.dmn 1).mul a, fun e => rfl⟩
  | i + 1 => by
    obtain ⟨g', h1, h2⟩ := dmn_lin a hg i
    refine ⟨fun e => g' e + dsh g e, h1.add hg.dsh, fun e => ?_⟩
    have h3 : dmn (i + 1 + 1) g e = dml (dmn (i + 1) g) e := rfl
    rw [h3, dml_lin, dmn_add, dmn_dsh]
    congr 1
    simp only [dmn, dml] at h2 ⊢
    rw [← h2, ← h2]
theorem AscN.len {p : List (Int × Int)} (h : AscN p) : ∀ {a b : Int}, (∀ t ∈ p, a ≤ t.1 ∧ t.1 ≤ b) → (p.length : Int) ≤ max 0 (b - a + 1) := by
  induction p with
  | nil => intro a b _; simp; omega
  | cons t p ih =>
    intro a b hb
    have h1 := hb t (List.mem_cons_self ..)
    have := ih h.tail (a := t.1 + 1) (b := b) fun u hu => by
      have h2 := h.head u hu
      have h3 := hb u (List.mem_cons_of_mem _ hu)
      omega
    simp only [List.length_cons]
    omega
theorem cfL_mulx (a : Int) : ∀ (p : List (Int × Int)) (e : Int), cfL (p.map fun t => (t.1, (t.1 - a) * t.2)) e = (e - a) * cfL p e
  | [], e => by simp [cfL]
  | t :: p, e => by
    simp only [List.map_cons, cfL, cfL_mulx a p e, Int.mul_add]
    by_cases h : t.1 = e
    · rw [if_pos h, if_pos h, h]
    · rw [if_neg h, if_neg h]; omega
theorem terms_many : ∀ (i : Nat) (p : List (Int × Int)) (g : Int → Int), AscN p → FinS g → (∀ e, cfL p e = dmn i g e) → p ≠ [] → i + 1 ≤ p.length
  | 0, p, g, _, _, _, hne => by
    have := List.length_pos_iff.2 hne; omega
  | i + 1, [], g, _, _, _, hne => absurd rfl hne
  | i + 1, t :: p, g, hp, hg, hc, _ => by
    obtain ⟨g', h1, h2⟩ := dmn_lin t.1 hg i
    have hq : AscN (p.map fun u => (u.1, (u.1 - t.1) * u.2)) := by
      refine ⟨?_, fun u hu => ?_⟩
      · rw [List.pairwise_map]; exact hp.tail.asc
      · obtain ⟨v, hv, rfl⟩ := List.mem_map.1 hu
        have a1 := hp.head v hv
        have a2 := hp.nz v (List.mem_cons_of_mem _ hv)
        exact Int.mul_ne_zero (by omega) a2
    have hcq : ∀ e, cfL (p.map fun u => (u.1, (u.1 - t.1) * u.2)) e = dmn i g' e := fun e => by
      rw [cfL_mulx, ← h2, ← hc]
      simp only [cfL]
      by_cases h : t.1 = e
      · rw [if_pos h, h]; simp
      · rw [if_neg h]; simp
    by_cases hne : p = []
    · exfalso
      subst hne
      obtain ⟨b, hb⟩ := hg.dmn i
      have h3 : ∀ e, dml (dmn i g) e = if t.1 = e then t.2 else 0 := fun e => by
        have := hc e; simp only [cfL, dmn, Int.add_zero] at this; exact this.symm
      have t2 := hp.nz t (List.mem_cons_self ..)
      have lo : ∀ d : Nat, ∀ e : Int, e < t.1 + 2 → e ≤ -(b : Int) - 1 + d → dmn i g e = 0 := by
        intro d
        induction d using Nat.strongRecOn with
        | _ d ih =>
          intro e h4 h5
          by_cases h6 : e ≤ -(b : Int) - 1
          · by_cases h7 : dmn i g e = 0
            · exact h7
            · have := hb e h7; omega
          · have h8 := h3 (e - 2)
            rw [if_neg (by omega)] at h8
            have h9 : dmn i g (e - 2 - 2) = 0 := by
              by_cases h10 : d ≤ 3
              · by_cases h11 : dmn i g (e - 2 - 2) = 0
                · exact h11
                · have := hb _ h11; omega
              · exact ih (d - 4) (by omega) _ (by omega) (by omega)
            simp only [dml] at h8
            rw [h9, show e - 2 + 2 = e by omega] at h8; omega
      have hi : ∀ d : Nat, ∀ e : Int, t.1 - 2 < e → (b : Int) + 1 - d ≤ e → dmn i g e = 0 := by
        intro d
        induction d using Nat.strongRecOn with
        | _ d ih =>
          intro e h4 h5
          by_cases h6 : (b : Int) + 1 ≤ e
          · by_cases h7 : dmn i g e = 0
            · exact h7
            · have := hb e h7; omega
          · have h8 := h3 (e + 2)
            rw [if_neg (by omega)] at h8
            have h9 : dmn i g (e + 2 + 2) = 0 := by
              by_cases h10 : d ≤ 3
              · by_cases h11 : dmn i g (e + 2 + 2) = 0
                · exact h11
                · have := hb _ h11; omega
              · exact ih (d - 4) (by omega) _ (by omega) (by omega)
            simp only [dml] at h8
            rw [h9, show e + 2 - 2 = e by omega] at h8; omega
      have e1 := h3 t.1
      rw [if_pos rfl] at e1
      simp only [dml] at e1
      rw [lo (t.1 - 2 + b + 1).toNat (t.1 - 2) (by omega) (by omega), hi (b + 1 - (t.1 + 2)).toNat (t.1 + 2) (by omega) (by omega)] at e1
      omega
    · have := terms_many i _ g' hq h1 hcq (by simpa using hne)
      simp only [List.length_map, List.length_cons] at this ⊢
      omega
end Go.Proofs.YtmfdclbiljpmgaaDoor
