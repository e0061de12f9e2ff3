/- Plain: the states of a diagram, their circles, and what Bracket counts. -/
import Derived.Test.YtmfdclbiljpmgaaDoorKb2
namespace Go.Proofs.YtmfdclbiljpmgaaDoor
set_option linter.unusedSimpArgs false
set_option linter.unusedVariables false
structure PmOk (m : List Int) (n : Nat) : Prop where
  ok : mateOk m n
  inv : ∀ x : Nat, x < 4 * n → m.getD (m.getD x 0).toNat 0 = x
  ne : ∀ x : Nat, x < 4 * n → m.getD x 0 ≠ x
theorem pmOk {s m : List Int} {L : Int} (h : validB s m L = true) : PmOk m s.length := by
  have v := valid1 h
  refine ⟨v.prd.ok, v.prd.inv, fun x hx => ?_⟩
  have := v.mt x hx
  omega
abbrev cirS (m : List Int) (n : Nat) (ch : Nat → Bool) : Nat := roots (mgB m ch n)
theorem mgB_congr {m : List Int} {ch ch' : Nat → Bool} : ∀ {n : Nat}, (∀ c, c < n → ch c = ch' c) → mgB m ch n = mgB m ch' n
  | 0, _ => rfl
  | n + 1, h => by
    have := mgB_congr (m := m) (n := n) fun c hc => h c (by omega)
    simp only [mgB, h n (by omega), this]
def nb01 (b : Bool) : Nat := if b then 1 else 0
theorem st3_bool (ch : Nat → Bool) : st3 (fun c => nb01 (ch c)) = fun x => jnB (ch (x / 4).toNat) x := by
  funext x
  unfold st3 nb01
  dsimp only
  cases ch (x / 4).toNat <;> rfl
section
variable {m : List Int} {n : Nat} (hp : PmOk m n)
include hp
theorem cirS_R (ch : Nat → Bool) : CirR n (fun x => m.getD x.toNat 0) (st3 (fun c => nb01 (ch c))) (mgB m ch n) := by
  rw [st3_bool]; exact mgB_R hp.ok hp.inv hp.ne
theorem cir3_R (s : Nat → Nat) : CirR n (fun x => m.getD x.toNat 0) (st3 s) (crN (fun x => m.getD x.toNat 0) (st3 s) (4 * n) (4 * n)) := crN_R (st3_inv hp.ok hp.inv hp.ne s)
theorem cirS_3 (ch : Nat → Bool) : cirS m n ch = cir3 m n (fun c => nb01 (ch c)) := roots_eq (cirS_R hp ch) (cir3_R hp _)
theorem cir3_three (s : Nat → Nat) {c : Nat} (hc : c < n) : ∃ K t0, t0 < 3 ∧ ∀ t, t < 3 → cir3 m n (fun x => if x = c then t else s x) = if t = t0 then K + 1 else K := by
  refine three (c := c) (j := fun t => st3 (fun x => if x = c then t else s x)) hc (fun t _ => st3_inv hp.ok hp.inv hp.ne _) (fun t _ => st3_c _) (fun t _ x hx => ?_) (fun t _ x h0 hx => ?_) (fun t _ => cir3_R hp _)
  · simp only [st3]; rw [if_pos (by omega)]
  · simp only [st3]
    rw [if_neg (by omega), if_neg (by omega)]
theorem cirS_nbr {ch ch' : Nat → Bool} {c : Nat} (hc : c < n) (h : ∀ x, x ≠ c → ch x = ch' x) : cirS m n ch ≤ cirS m n ch' + 1 := by
  obtain ⟨K, t0, _, h3⟩ := cir3_three hp (fun x => nb01 (ch x)) hc
  have e1 : (fun x => nb01 (ch x)) = fun x => if x = c then nb01 (ch c) else nb01 (ch x) := by
    funext x; by_cases e : x = c
    · rw [if_pos e, e]
    · rw [if_neg e]
  have e2 : (fun x => nb01 (ch' x)) = fun x => if x = c then nb01 (ch' c) else nb01 (ch x) := by
    funext x; by_cases e : x = c
    · rw [if_pos e, e]
    · rw [if_neg e, h x e]
  have l01 : ∀ b, nb01 b < 3 := fun b => by cases b <;> decide
  rw [cirS_3 hp, cirS_3 hp, e1, e2, h3 _ (l01 _), h3 _ (l01 _)]
  split <;> split <;> omega
def difS (b : Bool) (ch : Nat → Bool) : Nat → Nat
  | 0 => 0
  | c + 1 => difS b ch c + if ch c = b then 0 else 1
omit hp in
theorem difS_two (ch : Nat → Bool) : ∀ c, difS false ch c + difS true ch c = c
  | 0 => rfl
  | c + 1 => by have := difS_two ch c; simp only [difS]; cases ch c <;> simp <;> omega
theorem cirS_dif (b : Bool) (ch : Nat → Bool) : ∀ i, i ≤ n → cirS m n (fun c => if c < i then ch c else b) ≤ cirS m n (fun _ => b) + difS b ch i
  | 0, _ => by simp [difS]
  | i + 1, hi => by
    have ih := cirS_dif b ch i (by omega)
    simp only [difS]
    by_cases hb : ch i = b
    · rw [if_pos hb]
      have : (fun c => if c < i + 1 then ch c else b) = fun c => if c < i then ch c else b := by
        funext c
        by_cases e : c = i
        · subst e; rw [if_pos (by omega), if_neg (by omega), hb]
        · by_cases e2 : c < i
          · rw [if_pos (by omega), if_pos e2]
          · rw [if_neg (by omega), if_neg e2]
      rw [this]; exact ih
    · rw [if_neg hb]
      have := cirS_nbr hp (c := i) (by omega) (ch := fun c => if c < i + 1 then ch c else b) (ch' := fun c => if c < i then ch c else b) fun x hx => by
        by_cases e2 : x < i
        · rw [if_pos (by omega), if_pos e2]
        · rw [if_neg (by omega), if_neg e2]
      omega
theorem cirS_le (b : Bool) (ch : Nat → Bool) : cirS m n ch ≤ cirS m n (fun _ => b) + difS b ch n := by
  have := cirS_dif hp b ch n (Nat.le_refl _)
  have e : cirS m n (fun c => if c < n then ch c else b) = cirS m n ch := by
    unfold cirS; rw [mgB_congr fun c hc => by rw [if_pos hc]]
  omega
theorem cirS_two : cirS m n (fun _ => false) + cirS m n (fun _ => true) ≤ 3 * n := by
  have h0 := cirS_R hp (fun _ => false)
  have h1 := cirS_R hp (fun _ => true)
  refine circ_two (st3_inv hp.ok hp.inv hp.ne _) (st3_inv hp.ok hp.inv hp.ne _) h0 h1 fun x hx => ?_
  have V := pr3_vals (x / 4)
  show pr3 0 x ≠ pr3 1 x
  rcases (show x = 4 * (x / 4) ∨ x = 4 * (x / 4) + 1 ∨ x = 4 * (x / 4) + 2 ∨ x = 4 * (x / 4) + 3 by omega) with h | h | h | h <;> (rw [h]; omega)
theorem cirS_max (ch : Nat → Bool) : cirS m n ch ≤ 2 * n := by
  have h1 := cirS_le hp false ch
  have h2 := cirS_le hp true ch
  have h3 := cirS_two hp
  have h4 := difS_two ch n
  omega
theorem cirS_pos (ch : Nat → Bool) (hn : 0 < n) : 1 ≤ cirS m n ch := cir_one n (cirS_R hp ch) hn
end
def chB (b : Nat) (c : Nat) : Bool := b / 2 ^ c % 2 == 1
def cntB (b : Nat) : Nat → Nat
  | 0 => 0
  | c + 1 => cntB b c + b / 2 ^ c % 2
theorem cntB_le (b : Nat) : ∀ c, cntB b c ≤ c
  | 0 => Nat.le_refl _
  | c + 1 => by have := cntB_le b c; simp only [cntB]; omega
theorem cntB_dif (b : Nat) : ∀ c, cntB b c = difS false (chB b) c
  | 0 => rfl
  | c + 1 => by
    simp only [cntB, difS, cntB_dif b c, chB]
    by_cases h : b / 2 ^ c % 2 = 1
    · simp [h]
    · have : b / 2 ^ c % 2 = 0 := by omega
      simp [this]
def cN (m : List Int) (n L : Nat) (b : Nat) : Nat := cirS m n (chB b) + L
def wB (n : Nat) (b : Nat) : Int := (n : Int) - 2 * cntB b n
def brT (m : List Int) (n L : Nat) (j : Nat) (e : Int) : Int := hrT (2 ^ n) (cN m n L) (wB n) j e
section
variable {m : List Int} {n L : Nat} (hp : PmOk m n)
include hp
theorem brT_supp {j : Nat} {e : Int} (h : brT m n L j e ≠ 0) : -(n : Int) - 2 * (cirS m n (fun _ => true) + L) + 2 * j ≤ e ∧ e ≤ n + 2 * (cirS m n (fun _ => false) + L) - 2 * j := by
  obtain ⟨k, _, hj, h1, h2⟩ := hrT_supp h
  have a1 := cirS_le hp false (chB k)
  have a2 := cirS_le hp true (chB k)
  have a3 := difS_two (chB k) n
  have a4 := cntB_dif k n
  unfold wB cN at *
  omega
theorem cN_le (b : Nat) : cN m n L b ≤ 2 * n + L := by have := cirS_max hp (chB b); unfold cN; omega
theorem brT_abs {j M : Nat} (hM : 2 * n + L ≤ M + j) (e : Int) : -((2 ^ (M + n) : Nat) : Int) ≤ brT m n L j e ∧ brT m n L j e ≤ ((2 ^ (M + n) : Nat) : Int) := by
  have := hrT_abs (K := 2 ^ n) (c := cN m n L) (w := wB n) (j := j) (M := M) (fun k _ => by have := cN_le hp (L := L) k; omega) e
  rw [Nat.pow_add, Int.natCast_mul, ← Int.neg_mul]
  exact this
omit hp in
theorem brT_low : ∀ i, i ≤ L → ∀ e, brT m n L (L - i) e = dmn i (brT m n L L) e
  | 0, _, e => rfl
  | i + 1, hi, e => by
    have h1 := hrT_step (K := 2 ^ n) (c := cN m n L) (w := wB n) (L - (i + 1)) e
    rw [show L - (i + 1) + 1 = L - i by omega] at h1
    have h0 : hrR (2 ^ n) (cN m n L) (wB n) (L - (i + 1)) e = 0 := by
      have : hrR (2 ^ n) (cN m n L) (wB n) (L - (i + 1)) e = sm (fun _ => 0) (2 ^ n) := sm_congr fun k _ => by
        rw [if_neg]
        rintro ⟨h2, _⟩
        unfold cN at h2; omega
      rw [this, sm_const]; omega
    rw [h0] at h1
    show hrT _ _ _ _ _ = dml (dmn i (brT m n L L)) e
    rw [h1]
    simp only [dml, ← brT_low i (by omega), Int.add_zero]
    rfl
theorem brT_fin (j : Nat) : FinS (brT m n L j) := by
  refine ⟨n + 2 * (cirS m n (fun _ => true) + L) + 2 * (cirS m n (fun _ => false) + L) + 2 * j, fun e he => ?_⟩
  have := brT_supp hp he
  omega
omit hp in
theorem asc_rng {p : List (Int × Int)} (ha : AscN p) {f : Int → Int} (hf : ∀ e, cfL p e = f e) {a b : Int} (hs : ∀ e, f e ≠ 0 → a ≤ e ∧ e ≤ b) : ∀ t ∈ p, a ≤ t.1 ∧ t.1 ≤ b := fun t ht => hs _ (by rw [← hf, cfL_mem ha ht]; exact ha.nz t ht)
theorem brT_dense (hn : n ≤ 9) {j : Nat} {p : List (Int × Int)} (ha : AscN p) (hf : ∀ e, cfL p e = brT m n L j e) (hne : 0 < p.length) : highE p - lowE p + 4 ≤ 64 + 8 * (p.length : Int) := by
  have r := asc_rng ha hf fun e he => brT_supp hp he
  have hm0 := r _ (getD_in (p := p) (i := 0) hne)
  have hm1 := r _ (getD_in (p := p) (i := p.length - 1) (by omega))
  have h3 := cirS_two hp
  unfold highE lowE
  by_cases h1 : p.length = 1
  · rw [h1]; simp only [Nat.sub_self]; omega
  · by_cases hj : L ≤ j
    · omega
    · have := terms_many (L - j) p (brT m n L L) ha (brT_fin hp L) (fun e => by rw [hf, ← brT_low (L - j) (by omega), show L - (L - j) = j by omega]) (fun h => by rw [h] at hne; simp at hne)
      omega
end
def rowB (m : List Int) (n L : Nat) : Nat → Int → Option (List Int)
  | 0, _ => none
  | k + 1, c => if c = (cN m n L k : Int) then some (((rowB m n L k c).getD (List.replicate (n + 1) 0)).set (cntB k n) (((rowB m n L k c).getD (List.replicate (n + 1) 0)).getD (cntB k n) 0 + 1)) else rowB m n L k c
def mostB (m : List Int) (n L : Nat) : Nat → Nat
  | 0 => 0
  | k + 1 => if mostB m n L k < cN m n L k then cN m n L k else mostB m n L k
theorem mostB_ge (m : List Int) (n L : Nat) : ∀ K k, k < K → cN m n L k ≤ mostB m n L K
  | K + 1, k, h => by
    simp only [mostB]
    by_cases e : k = K
    · subst e; split <;> omega
    · have := mostB_ge m n L K k (by omega)
      split <;> omega
theorem mostB_le {m : List Int} {n L M : Nat} (h : ∀ k, cN m n L k ≤ M) : ∀ K, mostB m n L K ≤ M
  | 0 => Nat.zero_le _
  | K + 1 => by
    have := mostB_le h K
    have := h K
    simp only [mostB]; split <;> omega
theorem rowB_spec (m : List Int) (n L : Nat) : ∀ K (j : Nat), (∀ r, rowB m n L K (j : Int) = some r → r.length = n + 1 ∧ ∀ x, x ≤ n → r.getD x 0 = sm (fun k => if cN m n L k = j ∧ cntB k n = x then 1 else 0) K) ∧
    (rowB m n L K (j : Int) = none → ∀ k, k < K → cN m n L k ≠ j)
  | 0, j => ⟨fun r h => by simp [rowB] at h, fun _ k hk => by omega⟩
  | K + 1, j => by
    obtain ⟨h1, h2⟩ := rowB_spec m n L K j
    have hc := cntB_le K n
    by_cases e : cN m n L K = j
    · have e' : (j : Int) = (cN m n L K : Int) := by omega
      have base : ((rowB m n L K (j : Int)).getD (List.replicate (n + 1) 0)).length = n + 1 ∧ ∀ x, x ≤ n → ((rowB m n L K (j : Int)).getD (List.replicate (n + 1) 0)).getD x 0 = sm (fun k => if cN m n L k = j ∧ cntB k n = x then 1 else 0) K := by
        cases hr : rowB m n L K (j : Int) with
        | none =>
          refine ⟨by simp, fun x hx => ?_⟩
          have : sm (fun k => if cN m n L k = j ∧ cntB k n = x then 1 else 0) K = sm (fun _ => 0) K := sm_congr fun k hk => by rw [if_neg fun h => h2 hr k hk h.1]
          rw [this, sm_const]
          simp [List.getD_eq_getElem?_getD, List.getElem?_replicate]
          split <;> rfl
        | some r => exact h1 r hr
      refine ⟨fun r hr => ?_, fun hr => by simp [rowB, e'] at hr⟩
      simp only [rowB] at hr
      rw [if_pos e', Option.some.injEq] at hr
      subst hr
      refine ⟨by rw [List.length_set]; exact base.1, fun x hx => ?_⟩
      rw [getD_set' _ _ _ _ (by omega), base.2 _ hc, base.2 x hx]
      simp only [sm]
      by_cases e2 : cntB K n = x
      · rw [if_pos e2, if_pos ⟨e, e2⟩, e2]
      · rw [if_neg e2, if_neg (fun h => e2 h.2)]; omega
    · refine ⟨fun r hr => ?_, fun hr k hk => ?_⟩
      · simp only [rowB] at hr
        rw [if_neg (by omega)] at hr
        obtain ⟨h3, h4⟩ := h1 r hr
        refine ⟨h3, fun x hx => ?_⟩
        rw [h4 x hx]; simp only [sm]; rw [if_neg (fun h => e h.1)]; omega
      · simp only [rowB] at hr
        rw [if_neg (by omega)] at hr
        by_cases e3 : k = K
        · subst e3; exact e
        · exact h2 hr k (by omega)
theorem sm_swap (f : Nat → Nat → Int) (a : Nat) : ∀ b, sm (fun x => sm (fun k => f x k) b) a = sm (fun k => sm (fun x => f x k) a) b
  | 0 => by simp only [sm]; rw [sm_const]; omega
  | b + 1 => by simp only [sm]; rw [← sm_swap f a b, sm_add]
theorem sm_one {f : Nat → Int} {a : Nat} : ∀ {n : Nat}, a < n → (∀ x, x < n → x ≠ a → f x = 0) → sm f n = f a
  | n + 1, ha, h => by
    simp only [sm]
    by_cases e : a = n
    · subst e
      rw [sm_congr (g := fun _ => 0) fun x hx => h x (by omega) (by omega), sm_const]; omega
    · rw [sm_one (n := n) (by omega) fun x hx hne => h x (by omega) hne, h n (by omega) (by omega)]; omega
def rowT (n : Nat) (r : List Int) (x : Nat) (e : Int) : Int := sm (fun y => if e = (n : Int) - 2 * y then r.getD y 0 else 0) x
theorem rowT_all {m : List Int} {n L K j : Nat} {r : List Int} (h : rowB m n L K (j : Int) = some r) (e : Int) : rowT n r (n + 1) e = hrR K (cN m n L) (wB n) j e := by
  obtain ⟨h1, h2⟩ := (rowB_spec m n L K j).1 r h
  unfold rowT hrR
  have s1 : sm (fun y => if e = (n : Int) - 2 * y then r.getD y 0 else 0) (n + 1) = sm (fun y => sm (fun k => if e = (n : Int) - 2 * y ∧ cN m n L k = j ∧ cntB k n = y then 1 else 0) K) (n + 1) := sm_congr fun y hy => by
    by_cases e1 : e = (n : Int) - 2 * y
    · rw [if_pos e1, h2 y (by omega)]
      exact sm_congr fun k _ => by
        by_cases e2 : cN m n L k = j ∧ cntB k n = y
        · rw [if_pos e2, if_pos ⟨e1, e2⟩]
        · rw [if_neg e2, if_neg fun h => e2 h.2]
    · rw [if_neg e1, sm_congr (g := fun _ => 0) fun k _ => if_neg fun h => e1 h.1, sm_const]; omega
  rw [s1, sm_swap]
  refine sm_congr fun k _ => ?_
  have hc := cntB_le k n
  rw [sm_one (a := cntB k n) (by omega) fun x _ hne => if_neg fun h => hne h.2.2.symm]
  unfold wB
  by_cases e1 : cN m n L k = j ∧ e = (n : Int) - 2 * cntB k n
  · rw [if_pos e1, if_pos ⟨e1.2, e1.1, rfl⟩]
  · rw [if_neg e1, if_neg fun h => e1 ⟨h.2.1, h.1⟩]
theorem rowB_none {m : List Int} {n L K j : Nat} (h : rowB m n L K (j : Int) = none) (e : Int) : hrR K (cN m n L) (wB n) j e = 0 := by
  have := (rowB_spec m n L K j).2 h
  unfold hrR
  rw [sm_congr (g := fun _ => 0) fun k hk => if_neg fun h => this k hk h.1, sm_const]; omega
theorem rowB_bound {m : List Int} {n L K j : Nat} {r : List Int} (h : rowB m n L K (j : Int) = some r) {x : Nat} (hx : x ≤ n) : 0 ≤ r.getD x 0 ∧ r.getD x 0 ≤ K := by
  rw [((rowB_spec m n L K j).1 r h).2 x hx]
  have h1 := sm_le (f := fun _ => 0) (g := fun k => if cN m n L k = j ∧ cntB k n = x then 1 else 0) (n := K) fun k _ => by split <;> omega
  have h2 := sm_le (g := fun _ => 1) (f := fun k => if cN m n L k = j ∧ cntB k n = x then 1 else 0) (n := K) fun k _ => by split <;> omega
  rw [sm_const] at h1 h2
  omega
end Go.Proofs.YtmfdclbiljpmgaaDoor
