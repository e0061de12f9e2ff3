/- Plain: the circles of a union, and the product of two brackets. -/
import Derived.Test.YtmfdclbiljpmgaaDoorXb
import Derived.Test.YtmfdclbiljpmgaaDoorSs
namespace Go.Proofs.YtmfdclbiljpmgaaDoor
set_option linter.unusedSimpArgs false
set_option linter.unusedVariables false
theorem jnB_shift (b : Bool) (x : Int) (n : Nat) : jnB b (x + 4 * n) = jnB b x + 4 * n := by
  unfold jnB
  rw [turn1, turnN1, turn1, turnN1, show (x + 4 * (n : Int)) % 2 = x % 2 by omega]
  split <;> omega
section
variable {m1 m2 : List Int} {n1 n2 : Nat}
theorem cir_union (hp1 : PmOk m1 n1) (hp2 : PmOk m2 n2) (hpu : PmOk (Sp.unM m1 m2) (n1 + n2)) (ch : Nat → Bool) : cirS (Sp.unM m1 m2) (n1 + n2) ch = cirS m1 n1 ch + cirS m2 n2 (fun c => ch (n1 + c)) := by
  have l1 := hp1.ok.1
  have l2 := hp2.ok.1
  have H1 := mgB_R (ch := ch) hp1.ok hp1.inv hp1.ne
  have H2 := mgB_R (ch := fun c => ch (n1 + c)) hp2.ok hp2.inv hp2.ne
  have hi1 := Inv2_of hp1.ok hp1.inv hp1.ne ch
  have hi2 := Inv2_of hp2.ok hp2.inv hp2.ne (fun c => ch (n1 + c))
  have hiu := Inv2_of hpu.ok hpu.inv hpu.ne ch
  unfold cirS
  generalize mgB m1 ch n1 = R1 at *
  generalize mgB m2 (fun c => ch (n1 + c)) n2 = R2 at *
  have r1 := H1.rep
  have r2 := H2.rep
  obtain ⟨R, hR⟩ : ∃ R, R1 ++ R2.map (fun x => x + 4 * (n1 : Int)) = R := ⟨_, rfl⟩
  have gl : ∀ x, x < 4 * n1 → R.getD x 0 = R1.getD x 0 := fun x hx => by rw [← hR]; exact Sp.getD_app_l _ _ _ (by rw [r1.len]; exact hx)
  have gr : ∀ x, x < 4 * n2 → R.getD (4 * n1 + x) 0 = R2.getD x 0 + 4 * n1 := fun x hx => by
    rw [← hR, Sp.getD_app_r _ _ _ (by rw [r1.len]; omega), r1.len, show 4 * n1 + x - 4 * n1 = x by omega, getD_map_lt _ _ _ 0 _ (by rw [r2.len]; exact hx)]
  have ml : ∀ x, x < 4 * n1 → (Sp.unM m1 m2).getD x 0 = m1.getD x 0 := fun x hx => Sp.unM_l (by omega)
  have mr : ∀ x, x < 4 * n2 → (Sp.unM m1 m2).getD (4 * n1 + x) 0 = m2.getD x 0 + 4 * n1 := fun x hx => by
    have := Sp.unM_r (m1 := m1) (m2 := m2) (i := x) (by omega)
    rw [l1] at this; rw [this]; omega
  have hlen : R.length = 4 * (n1 + n2) := by rw [← hR]; simp [r1.len, r2.len]; omega
  have cs : ∀ x, x < 4 * (n1 + n2) → x < 4 * n1 ∨ ∃ y, y < 4 * n2 ∧ x = 4 * n1 + y := fun x hx => by
    by_cases h : x < 4 * n1
    · exact .inl h
    · exact .inr ⟨x - 4 * n1, by omega, by omega⟩
  have rep : RepR R (4 * (n1 + n2)) := by
    refine ⟨hlen, fun x hx => ?_, fun x hx => ?_⟩
    · rcases cs x hx with h | ⟨y, h, rfl⟩
      · rw [gl x h]; have := r1.rng x h; omega
      · rw [gr y h]; have := r2.rng y h; omega
    · rcases cs x hx with h | ⟨y, h, rfl⟩
      · rw [gl x h]
        have := r1.rng x h
        rw [gl _ (by omega), r1.idem x h]
      · rw [gr y h]
        have := r2.rng y h
        rw [show (R2.getD y 0 + 4 * (n1 : Int)).toNat = 4 * n1 + (R2.getD y 0).toNat by omega, gr _ (by omega), r2.idem y h]
  have up1 : ∀ x y : Int, InR n1 x → Cir (fun x => m1.getD x.toNat 0) (fun x => jnB (ch (x / 4).toNat) x) x y → Cir (fun x => (Sp.unM m1 m2).getD x.toNat 0) (fun x => jnB (ch (x / 4).toNat) x) x y := fun x y hx h => by
    induction h with
    | refl => exact .refl _
    | @mate z h ih =>
      have hz := h.rng hi1 hx
      unfold InR at hz
      have : (Sp.unM m1 m2).getD z.toNat 0 = m1.getD z.toNat 0 := ml _ (by omega)
      show Cir _ _ x (m1.getD z.toNat 0)
      rw [← this]; exact .mate ih
    | join _ ih => exact .join ih
  have up2 : ∀ x y : Int, InR n2 x → Cir (fun x => m2.getD x.toNat 0) (fun x => jnB (ch (n1 + (x / 4).toNat)) x) x y → Cir (fun x => (Sp.unM m1 m2).getD x.toNat 0) (fun x => jnB (ch (x / 4).toNat) x) (x + 4 * n1) (y + 4 * n1) := fun x y hx h => by
    induction h with
    | refl => exact .refl _
    | @mate z h ih =>
      have hz := h.rng hi2 hx
      unfold InR at hz
      have : (Sp.unM m1 m2).getD (z + 4 * (n1 : Int)).toNat 0 = m2.getD z.toNat 0 + 4 * n1 := by
        rw [show (z + 4 * (n1 : Int)).toNat = 4 * n1 + z.toNat by omega]; exact mr _ (by omega)
      show Cir _ _ _ (m2.getD z.toNat 0 + 4 * n1)
      rw [← this]; exact .mate ih
    | @join z h ih =>
      have hz := h.rng hi2 hx
      unfold InR at hz
      have e1 := Cir.join ih
      rw [jnB_shift, show ((z + 4 * (n1 : Int)) / 4).toNat = n1 + (z / 4).toNat by omega] at e1
      exact e1
  have hcir : CirR (n1 + n2) (fun x => (Sp.unM m1 m2).getD x.toNat 0) (fun x => jnB (ch (x / 4).toNat) x) R := by
    refine CirR.of hiu rep (fun x y hx hy e => ?_) (fun x hx => ?_) (fun x hx => ?_)
    · rcases cs x hx with h | ⟨x', h, rfl⟩ <;> rcases cs y hy with g | ⟨y', g, rfl⟩
      · rw [gl x h, gl y g] at e
        exact up1 x y (by unfold InR; omega) ((H1.iff x y h g).1 e)
      · rw [gl x h, gr y' g] at e
        have := r1.rng x h; have := r2.rng y' g; omega
      · rw [gr x' h, gl y g] at e
        have := r2.rng x' h; have := r1.rng y g; omega
      · rw [gr x' h, gr y' g] at e
        have := up2 x' y' (by unfold InR; omega) ((H2.iff x' y' h g).1 (by omega))
        rw [show ((4 * n1 + x' : Nat) : Int) = (x' : Int) + 4 * n1 by omega, show ((4 * n1 + y' : Nat) : Int) = (y' : Int) + 4 * n1 by omega]; exact this
    · simp only [Int.toNat_natCast]
      rcases cs x hx with h | ⟨x', h, rfl⟩
      · rw [ml x h, gl x h]
        have hm := hp1.ok.2 x h
        rw [gl _ (by omega)]
        refine (H1.iff _ x (by omega) h).2 ?_
        have h0 : InR n1 (x : Int) := by unfold InR; omega
        have := (Cir.mate (mt := fun x => m1.getD x.toNat 0) (jn := fun x => jnB (ch (x / 4).toNat) x) (Cir.refl (x : Int))).symm hi1 h0
        simp only [Int.toNat_natCast] at this
        rw [show (((m1.getD x 0).toNat : Nat) : Int) = m1.getD x 0 by omega]; exact this
      · rw [mr x' h, gr x' h]
        have hm := hp2.ok.2 x' h
        rw [show (m2.getD x' 0 + 4 * (n1 : Int)).toNat = 4 * n1 + (m2.getD x' 0).toNat by omega, gr _ (by omega)]
        have h0 : InR n2 (x' : Int) := by unfold InR; omega
        have := (Cir.mate (mt := fun x => m2.getD x.toNat 0) (jn := fun x => jnB (ch (n1 + (x / 4).toNat)) x) (Cir.refl (x' : Int))).symm hi2 h0
        simp only [Int.toNat_natCast] at this
        rw [(H2.iff (m2.getD x' 0).toNat x' (by omega) h).2 (by rw [show (((m2.getD x' 0).toNat : Nat) : Int) = m2.getD x' 0 by omega]; exact this)]
    · rcases cs x hx with h | ⟨x', h, rfl⟩
      · have h0 : InR n1 (x : Int) := by unfold InR; omega
        have hj := hi1.jr x h0
        unfold InR at hj
        have := (Cir.join (mt := fun x => m1.getD x.toNat 0) (jn := fun x => jnB (ch (x / 4).toNat) x) (Cir.refl (x : Int))).symm hi1 h0
        rw [gl x h, gl _ (by omega)]
        exact (H1.iff _ x (by omega) h).2 (by rw [show (((jnB (ch ((x : Int) / 4).toNat) (x : Int)).toNat : Nat) : Int) = jnB (ch ((x : Int) / 4).toNat) x by omega]; exact this)
      · have h0 : InR n2 (x' : Int) := by unfold InR; omega
        have hj := hi2.jr x' h0
        unfold InR at hj
        have := (Cir.join (mt := fun x => m2.getD x.toNat 0) (jn := fun x => jnB (ch (n1 + (x / 4).toNat)) x) (Cir.refl (x' : Int))).symm hi2 h0
        rw [show ((4 * n1 + x' : Nat) : Int) = (x' : Int) + 4 * n1 by omega, jnB_shift, show (((x' : Int) + 4 * (n1 : Int)) / 4).toNat = n1 + ((x' : Int) / 4).toNat by omega, gr x' h]
        generalize jnB (ch (n1 + ((x' : Int) / 4).toNat)) (x' : Int) = z at *
        rw [show (z + 4 * (n1 : Int)).toNat = 4 * n1 + z.toNat by omega, gr _ (by omega), (H2.iff z.toNat x' (by omega) h).2 (by rw [show ((z.toNat : Nat) : Int) = z by omega]; exact this)]
  have hru : roots (mgB (Sp.unM m1 m2) ch (n1 + n2)) = roots R := roots_eq (mgB_R (ch := ch) hpu.ok hpu.inv hpu.ne) hcir
  rw [hru]
  have e0 : (roots R : Int) = roots R1 + roots R2 := by
    unfold roots
    rw [countP_sm, countP_sm, countP_sm, hlen, r1.len, r2.len, show 4 * (n1 + n2) = 4 * n1 + 4 * n2 by omega, sm_split]
    congr 1
    · exact sm_congr fun x hx => by rw [gl x hx]
    · exact sm_congr fun x hx => by
        rw [gr x hx]
        have : ((R2.getD x 0 + 4 * (n1 : Int) == ((4 * n1 + x : Nat) : Int)) = (R2.getD x 0 == (x : Int))) := by
          rw [Bool.eq_iff_iff, beq_iff_eq, beq_iff_eq]; omega
        rw [this]
  omega
end
def cvS (f g : Int → Int) (M : Nat) (e : Int) : Int := sm (fun i => f ((i : Int) - M) * g (e - ((i : Int) - M))) (2 * M + 1)
theorem cvL_cvS (g : Int → Int) (M : Nat) (e : Int) : ∀ (p : List (Int × Int)), (∀ t ∈ p, -(M : Int) ≤ t.1 ∧ t.1 ≤ M) → cvL p g e = cvS (cfL p) g M e
  | [], _ => by unfold cvS; simp only [cvL, cfL, Int.zero_mul]; rw [sm_const]; omega
  | t :: p, h => by
    have ih := cvL_cvS g M e p fun u hu => h u (List.mem_cons_of_mem _ hu)
    have ht := h t (List.mem_cons_self ..)
    simp only [cvL, ih]
    unfold cvS
    simp only [cfL, Int.add_mul]
    have key : sm (fun i : Nat => (if t.1 = (i : Int) - M then t.2 else 0) * g (e - ((i : Int) - M))) (2 * M + 1) = t.2 * g (e - t.1) := by
      rw [sm_one (a := (t.1 + M).toNat) (by omega) fun x hx hne => by rw [if_neg (by omega), Int.zero_mul], if_pos (by omega), show (((t.1 + (M : Int)).toNat : Nat) : Int) - M = t.1 by omega]
    rw [sm_add, key]
theorem cvS_dpw (g : Int → Int) (M : Nat) : ∀ (j : Nat) (a e : Int), -(M : Int) + 2 * j ≤ a → a + 2 * j ≤ M → cvS (fun x => dpw j (x - a)) g M e = dmn j g (e - a)
  | 0, a, e, h1, h2 => by
    unfold cvS
    simp only [dpw, dmn]
    rw [sm_one (a := (a + M).toNat) (by omega) fun x hx hne => by rw [if_neg (by omega), Int.zero_mul], if_pos (by omega), Int.one_mul, show (((a + (M : Int)).toNat : Nat) : Int) - M = a by omega]
  | j + 1, a, e, h1, h2 => by
    have e1 := cvS_dpw g M j (a - 2) e (by omega) (by omega)
    have e2 := cvS_dpw g M j (a + 2) e (by omega) (by omega)
    have : cvS (fun x => dpw (j + 1) (x - a)) g M e = -1 * cvS (fun x => dpw j (x - (a - 2))) g M e + -1 * cvS (fun x => dpw j (x - (a + 2))) g M e := by
      unfold cvS
      rw [← sm_mul, ← sm_mul, ← sm_add]
      refine sm_congr fun x hx => ?_
      simp only [dpw, dml]
      rw [show (x : Int) - M - a + 2 = (x : Int) - M - (a - 2) by omega, show (x : Int) - M - a - 2 = (x : Int) - M - (a + 2) by omega, Int.sub_mul, Int.neg_mul]
      omega
    rw [this, e1, e2]
    simp only [dmn, dml]
    rw [show e - (a - 2) = e - a + 2 by omega, show e - (a + 2) = e - a - 2 by omega]; omega
theorem cvS_sm (F : Nat → Int → Int) (g : Int → Int) (M : Nat) (e : Int) : ∀ K, cvS (fun x => sm (fun k => F k x) K) g M e = sm (fun k => cvS (F k) g M e) K
  | 0 => by unfold cvS; simp only [sm, Int.zero_mul]; rw [sm_const]; omega
  | K + 1 => by
    have := cvS_sm F g M e K
    simp only [sm]
    rw [← this]
    unfold cvS
    rw [← sm_add]
    exact sm_congr fun x _ => by rw [Int.add_mul]
theorem dmn_sm (F : Nat → Int → Int) (K : Nat) : ∀ i e, dmn i (fun x => sm (fun k => F k x) K) e = sm (fun k => dmn i (F k) e) K
  | 0, e => rfl
  | i + 1, e => by
    simp only [dmn, dml, dmn_sm F K i]
    have h1 : sm (fun k => -dmn i (F k) (e + 2) - dmn i (F k) (e - 2)) K = -1 * sm (fun k => dmn i (F k) (e + 2)) K + -1 * sm (fun k => dmn i (F k) (e - 2)) K := by
      rw [← sm_mul, ← sm_mul, ← sm_add]; exact sm_congr fun k _ => by omega
    rw [h1]; omega
theorem dmn_dpw (j : Nat) (w : Int) : ∀ i e, dmn i (fun x => dpw j (x - w)) e = dpw (i + j) (e - w)
  | 0, e => by rw [Nat.zero_add]; rfl
  | i + 1, e => by
    rw [show i + 1 + j = (i + j) + 1 by omega]
    simp only [dmn, dml, dpw, dmn_dpw j w i]
    rw [show e + 2 - w = e - w + 2 by omega, show e - 2 - w = e - w - 2 by omega]
section
variable {m1 m2 : List Int} {n1 n2 L1 L2 : Nat}
theorem cN_one {m : List Int} {n L : Nat} (hp : PmOk m n) (h0 : ¬ (n = 0 ∧ L = 0)) (k : Nat) : 1 ≤ cN m n L k := by
  unfold cN
  by_cases hn : 0 < n
  · have := cirS_pos hp (chB k) hn; omega
  · omega
theorem br_union (hp1 : PmOk m1 n1) (hp2 : PmOk m2 n2) (hpu : PmOk (Sp.unM m1 m2) (n1 + n2)) (h1 : ¬ (n1 = 0 ∧ L1 = 0)) (h2 : ¬ (n2 = 0 ∧ L2 = 0)) (hn1 : n1 ≤ 9) (hL1 : L1 ≤ 20) {p : List (Int × Int)} (hp : ∀ t ∈ p, -(1000 : Int) ≤ t.1 ∧ t.1 ≤ 1000) (hc : ∀ e, cfL p e = brT m1 n1 L1 1 e) (e : Int) :
    cvL p (brT m2 n2 L2 1) e = brT (Sp.unM m1 m2) (n1 + n2) (L1 + L2) 2 e := by
  rw [cvL_cvS _ 1000 e p hp, show cfL p = brT m1 n1 L1 1 from funext hc]
  have hN : ∀ k1 k2, k1 < 2 ^ n1 → cN (Sp.unM m1 m2) (n1 + n2) (L1 + L2) (2 ^ n1 * k2 + k1) = cN m1 n1 L1 k1 + cN m2 n2 L2 k2 := fun k1 k2 hk => by
    unfold cN
    rw [cir_union hp1 hp2 hpu]
    have e1 : cirS m1 n1 (chB (2 ^ n1 * k2 + k1)) = cirS m1 n1 (chB k1) := by unfold cirS; rw [mgB_congr fun c hc => chB_low hc]
    have e2 : cirS m2 n2 (fun c => chB (2 ^ n1 * k2 + k1) (n1 + c)) = cirS m2 n2 (chB k2) := by unfold cirS; rw [mgB_congr fun c _ => chB_hi hk]
    rw [e1, e2]; omega
  have hW : ∀ k1 k2, k1 < 2 ^ n1 → wB (n1 + n2) (2 ^ n1 * k2 + k1) = wB n1 k1 + wB n2 k2 := fun k1 k2 hk => by
    unfold wB; rw [cntB_two hk]; omega
  have hl : ∀ x, brT m1 n1 L1 1 x = sm (fun k => dpw (cN m1 n1 L1 k - 1) (x - wB n1 k)) (2 ^ n1) := fun x => sm_congr fun k _ => if_pos (cN_one hp1 h1 k)
  have hr : brT m2 n2 L2 1 = fun x => sm (fun k => dpw (cN m2 n2 L2 k - 1) (x - wB n2 k)) (2 ^ n2) := funext fun x => sm_congr fun k _ => if_pos (cN_one hp2 h2 k)
  rw [show brT m1 n1 L1 1 = fun x => sm (fun k => dpw (cN m1 n1 L1 k - 1) (x - wB n1 k)) (2 ^ n1) from funext hl, cvS_sm]
  have s1 : sm (fun k => cvS (fun x => dpw (cN m1 n1 L1 k - 1) (x - wB n1 k)) (brT m2 n2 L2 1) 1000 e) (2 ^ n1) = sm (fun k1 => sm (fun k2 => dpw (cN m1 n1 L1 k1 + cN m2 n2 L2 k2 - 2) (e - (wB n1 k1 + wB n2 k2))) (2 ^ n2)) (2 ^ n1) := sm_congr fun k1 hk1 => by
    have a := cN_le hp1 (L := L1) k1
    have b := cntB_le k1 n1
    have c1 := cN_one hp1 h1 k1
    rw [cvS_dpw _ 1000 _ _ _ (by unfold wB; omega) (by unfold wB; omega), hr, dmn_sm]
    refine sm_congr fun k2 _ => ?_
    have c2 := cN_one hp2 h2 k2
    rw [dmn_dpw]
    congr 1 <;> omega
  rw [s1, sm_swap]
  unfold brT hrT
  rw [Nat.pow_add, sm_prod]
  refine sm_congr fun k2 _ => sm_congr fun k1 hk1 => ?_
  have c1 := cN_one hp1 h1 k1
  have c2 := cN_one hp2 h2 k2
  rw [hN k1 k2 hk1, hW k1 k2 hk1, if_pos (by omega)]
theorem br_two {m : List Int} {n L : Nat} (h : ∀ k, k < 2 ^ n → 2 ≤ cN m n L k) (e : Int) : dml (brT m n L 2) e = brT m n L 1 e := by
  have h1 := hrT_step (K := 2 ^ n) (c := cN m n L) (w := wB n) 1 e
  have h0 : hrR (2 ^ n) (cN m n L) (wB n) 1 e = 0 := by
    have : hrR (2 ^ n) (cN m n L) (wB n) 1 e = sm (fun _ => 0) (2 ^ n) := sm_congr fun k hk => by
      have := h k hk
      rw [if_neg]
      omega
    rw [this, sm_const]; omega
  have h2 : brT m n L 1 e = dml (brT m n L 2) e + hrR (2 ^ n) (cN m n L) (wB n) 1 e := h1
  rw [h2, h0]; omega
theorem br_wide {m : List Int} {n L : Nat} (hp : PmOk m n) (h0 : ¬ (n = 0 ∧ L = 0)) {p : List (Int × Int)} (ha : AscN p) (hf : ∀ e, cfL p e = brT m n L 1 e) (hne : 0 < p.length) :
    highE p - lowE p ≤ 8 * n + 4 * L - 4 ∧ L ≤ p.length ∧ (0 < n → L + 1 ≤ p.length) ∧ (p.length = 1 → highE p = lowE p) := by
  have r := asc_rng ha hf fun e he => brT_supp hp he
  have hm0 := r _ (getD_in (p := p) (i := 0) hne)
  have hm1 := r _ (getD_in (p := p) (i := p.length - 1) (by omega))
  have h3 := cirS_two hp
  have hne' : p ≠ [] := fun h => by rw [h] at hne; simp at hne
  refine ⟨by unfold highE lowE; omega, ?_, fun hn => ?_, fun h => by unfold highE lowE; rw [h]⟩
  · by_cases hL : L = 0
    · omega
    · have := terms_many (L - 1) p (brT m n L L) ha (brT_fin hp L) (fun e => by rw [hf, ← brT_low (L - 1) (by omega), show L - (L - 1) = 1 by omega]) hne'
      omega
  · -- every state has L + 1 circles
    have hst : ∀ e, brT m n L L e = dml (brT m n L (L + 1)) e := fun e => by
      have h1 : brT m n L L e = dml (brT m n L (L + 1)) e + hrR (2 ^ n) (cN m n L) (wB n) L e := hrT_step L e
      have h0 : hrR (2 ^ n) (cN m n L) (wB n) L e = 0 := by
        have : hrR (2 ^ n) (cN m n L) (wB n) L e = sm (fun _ => 0) (2 ^ n) := sm_congr fun k hk => by
          have := cirS_pos hp (chB k) hn
          rw [if_neg]
          unfold cN; omega
        rw [this, sm_const]; omega
      rw [h1, h0]; omega
    have hd : ∀ i e, dmn i (brT m n L L) e = dmn (i + 1) (brT m n L (L + 1)) e := fun i => by
      induction i with
      | zero => exact hst
      | succ i ih => intro e; show dml _ e = dml _ e; simp only [dml, ih]
    by_cases hL : L = 0
    · omega
    · have := terms_many L p (brT m n L (L + 1)) ha (brT_fin hp (L + 1)) (fun e => by
        rw [hf, show brT m n L 1 e = dmn (L - 1) (brT m n L L) e by rw [← brT_low (L - 1) (by omega), show L - (L - 1) = 1 by omega], hd, show L - 1 + 1 = L by omega]) hne'
      omega
theorem br_dense2 {m m' : List Int} {n n' L L' : Nat} (hp : PmOk m n) (hp' : PmOk m' n') (h0 : ¬ (n = 0 ∧ L = 0)) (h0' : ¬ (n' = 0 ∧ L' = 0)) (hn : n + n' ≤ 9) {p q : List (Int × Int)} (ha : AscN p) (hf : ∀ e, cfL p e = brT m n L 1 e) (hne : 0 < p.length)
    (ha' : AscN q) (hf' : ∀ e, cfL q e = brT m' n' L' 1 e) (hne' : 0 < q.length) : highE p + highE q - (lowE p + lowE q) ≤ 64 + 4 * (p.length : Int) * q.length := by
  obtain ⟨a1, a2, a3, a4⟩ := br_wide hp h0 ha hf hne
  obtain ⟨b1, b2, b3, b4⟩ := br_wide hp' h0' ha' hf' hne'
  rw [Int.mul_assoc, ← Int.natCast_mul]
  by_cases hp1 : p.length = 1
  · rw [hp1, Nat.one_mul]
    have := a4 hp1
    omega
  · by_cases hq1 : q.length = 1
    · rw [hq1, Nat.mul_one]
      have := b4 hq1
      omega
    · have : p.length + q.length ≤ p.length * q.length := by
        obtain ⟨a, ha2⟩ : ∃ a, p.length = a + 2 := ⟨p.length - 2, by omega⟩
        obtain ⟨b, hb2⟩ : ∃ b, q.length = b + 2 := ⟨q.length - 2, by omega⟩
        rw [ha2, hb2, Nat.add_mul, Nat.mul_add]
        have := Nat.zero_le (a * b)
        omega
      omega
end
end Go.Proofs.YtmfdclbiljpmgaaDoor
