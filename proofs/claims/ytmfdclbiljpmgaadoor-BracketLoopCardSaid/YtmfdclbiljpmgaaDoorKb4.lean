/- Plain: the bracket at A = 1; the circles of the state that crosses everywhere are the strands. -/
import Derived.Test.YtmfdclbiljpmgaaDoorXb
namespace Go.Proofs.YtmfdclbiljpmgaaDoor
set_option linter.unusedSimpArgs false
set_option linter.unusedVariables false
def evL : List (Int × Int) → Int
  | [] => 0
  | t :: p => t.2 + evL p
def evF (f : Int → Int) (M : Nat) : Int := sm (fun i => f ((i : Int) - M)) (2 * M + 1)
theorem evF_cfL (M : Nat) : ∀ (p : List (Int × Int)), (∀ t ∈ p, -(M : Int) ≤ t.1 ∧ t.1 ≤ M) → evF (cfL p) M = evL p
  | [], _ => by unfold evF; simp only [cfL, evL]; rw [sm_const]; omega
  | t :: p, h => by
    have ih := evF_cfL M p fun u hu => h u (List.mem_cons_of_mem _ hu)
    have ht := h t (List.mem_cons_self ..)
    unfold evF at ih ⊢
    simp only [cfL, evL]
    rw [sm_add, ih, sm_one (a := (t.1 + M).toNat) (by omega) fun x hx hne => if_neg (by omega), if_pos (by omega)]
theorem evF_dpw (M : Nat) : ∀ (j : Nat) (a : Int), -(M : Int) + 2 * j ≤ a → a + 2 * j ≤ M → evF (fun e => dpw j (e - a)) M = (-2) ^ j
  | 0, a, h1, h2 => by
    unfold evF
    simp only [dpw]
    rw [sm_one (a := (a + M).toNat) (by omega) fun x hx hne => if_neg (by omega), if_pos (by omega)]; rfl
  | j + 1, a, h1, h2 => by
    have e1 := evF_dpw M j (a - 2) (by omega) (by omega)
    have e2 := evF_dpw M j (a + 2) (by omega) (by omega)
    have : evF (fun e => dpw (j + 1) (e - a)) M = evF (fun e => -1 * dpw j (e - (a - 2)) + -1 * dpw j (e - (a + 2))) M := by
      unfold evF
      refine sm_congr fun x hx => ?_
      simp only [dpw, dml]
      rw [show (x : Int) - M - a + 2 = (x : Int) - M - (a - 2) by omega, show (x : Int) - M - a - 2 = (x : Int) - M - (a + 2) by omega]; omega
    rw [this]
    unfold evF at e1 e2 ⊢
    rw [sm_add, sm_mul, sm_mul, e1, e2, Int.pow_succ]; omega
theorem evF_hrT {K : Nat} {c : Nat → Nat} {w : Nat → Int} (j M : Nat) (h : ∀ k, k < K → j ≤ c k → -(M : Int) + 2 * ((c k : Int) - j) ≤ w k ∧ w k + 2 * ((c k : Int) - j) ≤ M) : evF (hrT K c w j) M = sm (fun k => if j ≤ c k then (-2) ^ (c k - j) else 0) K := by
  unfold evF hrT
  rw [sm_swap]
  refine sm_congr fun k hk => ?_
  by_cases hj : j ≤ c k
  · have := h k hk hj
    simp only [if_pos hj]
    exact evF_dpw M (c k - j) (w k) (by omega) (by omega)
  · simp only [if_neg hj]; rw [sm_const]; omega
def stX (n i k : Nat) (c : Nat) : Nat := if c < i then nb01 (chB k c) else if c < n then 2 else 0
section
variable {m : List Int} {n : Nat} (hp : PmOk m n)
include hp
theorem binor (hn : 0 < n) (L : Nat) : ∀ i, i ≤ n → sm (fun k => (-2 : Int) ^ (cir3 m n (stX n i k) + L - 1)) (2 ^ i) = (-1) ^ i * (-2 : Int) ^ (cir3 m n (stX n 0 0) + L - 1)
  | 0, _ => by simp [sm]
  | i + 1, hi => by
    have ih := binor hn L i (by omega)
    rw [Nat.pow_succ, Nat.mul_two, sm_split, ← sm_add]
    have key : sm (fun k => (-2 : Int) ^ (cir3 m n (stX n (i + 1) k) + L - 1) + (-2 : Int) ^ (cir3 m n (stX n (i + 1) (2 ^ i + k)) + L - 1)) (2 ^ i) = sm (fun k => -1 * (-2 : Int) ^ (cir3 m n (stX n i k) + L - 1)) (2 ^ i) := by
      refine sm_congr fun k hk => ?_
      obtain ⟨K, t0, ht0, h3⟩ := cir3_three hp (stX n i k) (c := i) (by omega)
      have e0 : stX n (i + 1) k = fun x => if x = i then 0 else stX n i k x := by
        funext x
        unfold stX
        by_cases e : x = i
        · subst e; rw [if_pos (by omega), if_pos rfl, chB_lt hk]; rfl
        · rw [if_neg e]
          by_cases h : x < i
          · rw [if_pos (by omega), if_pos h]
          · rw [if_neg (by omega), if_neg h]
      have e1 : stX n (i + 1) (2 ^ i + k) = fun x => if x = i then 1 else stX n i k x := by
        funext x
        unfold stX
        by_cases e : x = i
        · subst e; rw [if_pos (by omega), if_pos rfl, chB_top hk]; rfl
        · rw [if_neg e]
          by_cases h : x < i
          · rw [if_pos (by omega), if_pos h, chB_add h]
          · rw [if_neg (by omega), if_neg h]
      have e2 : stX n i k = fun x => if x = i then 2 else stX n i k x := by
        funext x
        by_cases e : x = i
        · subst e; rw [if_pos rfl]; unfold stX; rw [if_neg (by omega), if_pos (by omega)]
        · rw [if_neg e]
      have h0 := h3 0 (by omega)
      have h1 := h3 1 (by omega)
      have h2 := h3 2 (by omega)
      rw [← e0] at h0
      rw [← e1] at h1
      rw [← e2] at h2
      have p0 := cir_one n (cir3_R hp (stX n (i + 1) k)) hn
      have p1 := cir_one n (cir3_R hp (stX n (i + 1) (2 ^ i + k))) hn
      have hK : 1 ≤ K := by
        change 1 ≤ cir3 m n _ at p0
        change 1 ≤ cir3 m n _ at p1
        rw [h0] at p0; rw [h1] at p1
        split at p0 <;> split at p1 <;> omega
      obtain ⟨q, hq⟩ : ∃ q, K + L - 1 = q := ⟨_, rfl⟩
      have hq1 : K + 1 + L - 1 = q + 1 := by omega
      rw [h0, h1, h2]
      rcases (show t0 = 0 ∨ t0 = 1 ∨ t0 = 2 by omega) with rfl | rfl | rfl <;>
      simp only [if_true, if_false, Nat.reduceEqDiff, reduceIte, reduceCtorEq] <;>
      simp [hq, hq1, Int.pow_succ] <;> omega
    rw [key, sm_mul, ih, Int.pow_succ]
    rw [Int.mul_comm ((-1) ^ i) (-1), Int.mul_assoc]
theorem cir3_chB (k : Nat) : cir3 m n (stX n n k) = cirS m n (chB k) := by
  have : stX n n k = fun c => nb01 (if c < n then chB k c else false) := by
    funext c
    unfold stX
    by_cases h : c < n
    · rw [if_pos h, if_pos h]
    · rw [if_neg h, if_neg h, if_neg h]; rfl
  rw [this, ← cirS_3 hp]
  unfold cirS
  rw [mgB_congr fun c hc => if_pos hc]
theorem br_one (hn : 0 < n) (L : Nat) : sm (fun k => (-2 : Int) ^ (cN m n L k - 1)) (2 ^ n) = (-1) ^ n * (-2 : Int) ^ (cir3 m n (stX n 0 0) + L - 1) := by
  have := binor hp hn L n (Nat.le_refl _)
  rw [← this]
  exact sm_congr fun k _ => by rw [cir3_chB hp]; rfl
end
section
variable {s m : List Int} {L : Int} (hv : Valid1 s m L)
include hv
theorem outK_nx {x : Nat} (hx : x < 4 * s.length) : outB s (m.getD x 0) = !outB s x ∧ outB s (strNx m x) = outB s x := by
  have hm := hv.mt x hx
  have h5 := hm.2.2.2.2
  have e1 : outB s (m.getD x 0) = !outB s x := by cases h1 : outB s x <;> cases h2 : outB s (m.getD x 0) <;> simp_all
  refine ⟨e1, ?_⟩
  have key : ∀ y : Int, 0 ≤ y → y < 4 * s.length → outB s (turnM y 2) = !outB s y := fun y h0 h1 => by
    have hs := hv.sg (y / 4).toNat (by omega)
    have e : turnM y 2 = y - y % 4 + (y % 4 + 2) % 4 := by unfold turnM; rw [show (2 : Int).tmod 4 = 2 by decide]; omega
    have e4 : (y - y % 4 + (y % 4 + 2) % 4) / 4 = y / 4 := by omega
    rw [e]
    unfold outB
    rw [e4]
    rcases (show y % 4 = 0 ∨ y % 4 = 1 ∨ y % 4 = 2 ∨ y % 4 = 3 by omega) with h | h | h | h
    · rw [if_neg (by omega), if_pos (by omega), if_neg (by omega), if_neg (by omega), if_neg (by omega)]; rfl
    · rw [if_neg (by omega), if_neg (by omega), if_pos (by omega), if_pos h]
      rcases hs with hs | hs <;> rw [hs] <;> rfl
    · rw [if_neg (by omega), if_neg (by omega), if_neg (by omega), if_neg (by omega), if_pos h]; rfl
    · rw [if_pos (by omega), if_neg (by omega), if_neg (by omega), if_pos h]
      rcases hs with hs | hs <;> rw [hs] <;> rfl
  unfold strNx
  rw [Int.toNat_natCast, key _ hm.1 (by omega), e1, Bool.not_not]
theorem outK_it {x : Nat} (hx : x < 4 * s.length) : ∀ j, outB s (it (strNx m) j x) = outB s x
  | 0 => rfl
  | j + 1 => by
    have hR : InR s.length (x : Int) := by unfold InR; omega
    have hS := (str_perm hv.prd).it hR j
    unfold InR at hS
    have e : it (strNx m) j (x : Int) = ((it (strNx m) j (x : Int)).toNat : Int) := by omega
    have h1 := (outK_nx hv (x := (it (strNx m) j (x : Int)).toNat) (by omega)).2
    rw [← e] at h1
    show outB s (strNx m (it (strNx m) j x)) = _
    rw [h1, outK_it hx j]
theorem strands_cir (hp : PmOk m s.length) : (strandsM s m).length = cir3 m s.length (stX s.length 0 0) := by
  have hl := hv.len
  have hR : ∀ x : Nat, x < m.length → InR s.length (x : Int) := fun x hx => by unfold InR; omega
  have hof := fun (x : Nat) (hx : x < m.length) => by
    have := orb_facts (str_perm hv.prd) (hR x hx)
    rw [← hl] at this; exact this
  have hcy := (cysN_eq (N := m.length) (want := outB s) (orb := orbF (strNx m) m.length) (fun x hx _ y hy => by
    have := (hof x hx).2.1 y hy
    unfold InR at this; omega) (fun x hx _ => (hof x hx).2.2.2.2.1) (fun x y hx hy hw hm => by
    refine ⟨?_, (hof x hx).2.2.1 y hm⟩
    obtain ⟨j, hj⟩ := ((hof x hx).1 y).1 hm
    rw [← hj, outK_it hv (by omega) j]; exact hw) (fun x y z hx hy hz _ h1 h2 => (hof x hx).2.2.2.1 y h1 z h2) m.length (Nat.le_refl _)).1
  have hlen : (strandsM s m).length = ((List.range m.length).filter fun i : Nat => outB s i && leastB i (orbF (strNx m) m.length i)).length := by
    unfold strandsM; rw [hcy, List.length_map]
  have hRc := cir3_R hp (stX s.length 0 0)
  have hi := st3_inv hp.ok hp.inv hp.ne (stX s.length 0 0)
  have hroots : cir3 m s.length (stX s.length 0 0) = ((List.range m.length).filter fun x => (crN (fun x => m.getD x.toNat 0) (st3 (stX s.length 0 0)) (4 * s.length) (4 * s.length)).getD x 0 == (x : Int)).length := by
    unfold cir3 roots
    rw [List.countP_eq_length_filter, hRc.rep.len, hl]
  rw [hlen, hroots]
  generalize hRR : crN (fun x => m.getD x.toNat 0) (st3 (stX s.length 0 0)) (4 * s.length) (4 * s.length) = R at *
  have jn2 : ∀ x : Int, InR s.length x → st3 (stX s.length 0 0) x = turnM x 2 := fun x hx => by
    unfold InR at hx
    have e : turnM x 2 = x - x % 4 + (x % 4 + 2) % 4 := by unfold turnM; rw [show (2 : Int).tmod 4 = 2 by decide]; omega
    unfold st3 stX
    rw [if_neg (by omega), if_pos (by omega), e]; rfl
  have nxE : ∀ x : Int, InR s.length x → ∀ j, it (fun x => st3 (stX s.length 0 0) (m.getD x.toNat 0)) j x = it (strNx m) j x := fun x hx j => by
    induction j with
    | zero => rfl
    | succ j ih =>
      show st3 _ (m.getD (it (fun x => st3 (stX s.length 0 0) (m.getD x.toNat 0)) j x).toNat 0) = strNx m (it (strNx m) j x)
      rw [ih]
      exact jn2 _ (hi.mr _ ((str_perm hv.prd).it hx j))
  have cir : ∀ x y : Nat, x < m.length → y < m.length → outB s x = true → outB s y = true → (R.getD x 0 = R.getD y 0 ↔ (y : Int) ∈ orbF (strNx m) m.length x) := fun x y hx hy ox oy => by
    rw [hRc.iff x y (by omega) (by omega), (hof x hx).1]
    obtain ⟨k, hk, hper⟩ := (nx_perm hi).per (hR x hx)
    rw [← onW_iff hi (hR x hx) hper]
    constructor
    · rintro ⟨j, hj, e | e⟩
      · exact ⟨j, by rw [← nxE _ (hR x hx)]; exact e.symm⟩
      · exfalso
        rw [nxE _ (hR x hx)] at e
        have hS := (str_perm hv.prd).it (hR x hx) j
        unfold InR at hS
        have h1 := (outK_nx hv (x := (it (strNx m) j (x : Int)).toNat) (by omega)).1
        rw [show (((it (strNx m) j (x : Int)).toNat : Nat) : Int) = it (strNx m) j x by omega, outK_it hv (by omega) j, ox] at h1
        change (y : Int) = m.getD (it (strNx m) j (x : Int)).toNat 0 at e
        rw [← e, oy] at h1
        cases h1
    · rintro ⟨j, e⟩
      refine ⟨j % k, Nat.mod_lt _ hper.pos, .inl ?_⟩
      rw [← e, ← nxE _ (hR x hx), ← it_mod hper]
  have rg := hRc.rep.rng
  refine Nat.le_antisymm (inj_le (List.Nodup.sublist List.filter_sublist List.nodup_range) (fun x r => R.getD x 0 = (r : Int)) (fun x hx => ?_) (fun x x' r hx hx' h1 h2 => ?_)) (inj_le (List.Nodup.sublist List.filter_sublist List.nodup_range) (fun r x => R.getD x 0 = (r : Int)) (fun r hr => ?_) (fun r r' x _ _ h1 h2 => by omega))
  · simp only [List.mem_filter, List.mem_range, Bool.and_eq_true] at hx
    have := rg x (by omega)
    refine ⟨(R.getD x 0).toNat, ?_, by omega⟩
    simp only [List.mem_filter, List.mem_range, beq_iff_eq]
    refine ⟨by omega, ?_⟩
    rw [hRc.rep.idem x (by omega)]; omega
  · simp only [List.mem_filter, List.mem_range, Bool.and_eq_true] at hx hx'
    have e := h1.trans h2.symm
    have a := (cir x x' hx.1 hx'.1 hx.2.1 hx'.2.1).1 e
    have b := (cir x' x hx'.1 hx.1 hx'.2.1 hx.2.1).1 e.symm
    have c1 := leastB_iff.1 hx.2.2 _ a
    have c2 := leastB_iff.1 hx'.2.2 _ b
    omega
  · simp only [List.mem_filter, List.mem_range, beq_iff_eq] at hr
    obtain ⟨o, ho, oo, oR⟩ : ∃ o : Nat, o < m.length ∧ outB s o = true ∧ R.getD o 0 = (r : Int) := by
      cases h : outB s r with
      | true => exact ⟨r, hr.1, h, hr.2⟩
      | false =>
        have h1 := (outK_nx hv (x := r) (by omega)).1
        have hm := hv.mt r (by omega)
        refine ⟨(m.getD r 0).toNat, by omega, by rw [show (((m.getD r 0).toNat : Nat) : Int) = m.getD r 0 by omega, h1, h]; rfl, ?_⟩
        rw [← hr.2]
        refine ((hRc.iff r (m.getD r 0).toNat (by omega) (by omega)).2 ?_).symm
        rw [show (((m.getD r 0).toNat : Nat) : Int) = m.getD r 0 by omega]
        have := Cir.mate (mt := fun x => m.getD x.toNat 0) (jn := st3 (stX s.length 0 0)) (Cir.refl (r : Int))
        simpa using this
    have least : ∀ b : Nat, (∃ y : Nat, y ≤ b ∧ (y : Int) ∈ orbF (strNx m) m.length o) → ∃ y : Nat, (y : Int) ∈ orbF (strNx m) m.length o ∧ ∀ z : Nat, (z : Int) ∈ orbF (strNx m) m.length o → y ≤ z := by
      intro b
      induction b with
      | zero => rintro ⟨y, hy, h⟩; exact ⟨y, h, fun z _ => by omega⟩
      | succ b ih =>
        rintro ⟨y, hy, h⟩
        by_cases hq : ∃ y : Nat, y ≤ b ∧ (y : Int) ∈ orbF (strNx m) m.length o
        · exact ih hq
        · exact ⟨y, h, fun z hz => by
            rcases Nat.lt_or_ge z y with g | g
            · exact absurd ⟨z, by omega, hz⟩ hq
            · exact g⟩
    obtain ⟨y, hy, hl2⟩ := least o ⟨o, Nat.le_refl _, (hof o ho).2.2.2.2.1⟩
    have hyS := (hof o ho).2.1 _ hy
    unfold InR at hyS
    have hyo : outB s y = true := by
      obtain ⟨j, hj⟩ := ((hof o ho).1 y).1 hy
      rw [← hj, outK_it hv (by omega) j]; exact oo
    refine ⟨y, ?_, ?_⟩
    · simp only [List.mem_filter, List.mem_range, Bool.and_eq_true]
      refine ⟨by omega, hyo, leastB_iff.2 fun z hz => ?_⟩
      have h1 := (hof o ho).2.2.2.1 _ hy z hz
      have h2 := (hof o ho).2.1 z h1
      unfold InR at h2
      have := hl2 z.toNat (by rw [show ((z.toNat : Nat) : Int) = z by omega]; exact h1)
      omega
    · rw [← oR]
      exact ((cir o y ho (by omega) oo hyo).2 hy).symm
end
end Go.Proofs.YtmfdclbiljpmgaaDoor
