/- Plain: sums over a range; the numbers of circles of neighbouring states. -/
import Derived.Test.YtebdkebfkpbmpaaGreatDoorXc
import Derived.Test.YtebdkebfkpbmpaaGreatDoorXe
namespace Go.Proofs.YtebdkebfkpbmpaaGreatDoor
set_option linter.unusedSimpArgs false
set_option linter.unusedVariables false
def sm (f : Nat -> Int) : Nat -> Int
 | 0 => 0
 | n + 1 => sm f n + f n
theorem ya9 {f g : Nat -> Int} : ∀ {n : Nat}, (∀ x, x < n -> f x = g x) -> sm f n = sm g n
 | 0, _ => rfl
 | n + 1, h => by simp only [sm]; rw [ya9 fun x hx => h x (by omega), h n (by omega)]
theorem ye1 (f g : Nat -> Int) : ∀ n, sm (fun x => f x + g x) n = sm f n + sm g n
 | 0 => rfl
 | n + 1 => by simp only [sm]; rw [ye1 f g n]; omega
theorem yym (c : Int) (f : Nat -> Int) : ∀ n, sm (fun x => c * f x) n = c * sm f n
 | 0 => by simp [sm]
 | n + 1 => by simp only [sm]; rw [yym c f n, Int.mul_add]
theorem ycd (c : Int) : ∀ n : Nat, sm (fun _ => c) n = c * n
 | 0 => by simp [sm]
 | n + 1 => by simp only [sm]; rw [ycd c n, Int.natCast_add, Int.mul_add]; simp
theorem yv4 {f g : Nat -> Int} : ∀ {n : Nat}, (∀ x, x < n -> f x <= g x) -> sm f n <= sm g n
 | 0, _ => Int.le_refl _
 | n + 1, h => by
   simp only [sm]
   have := yv4 (n := n) fun x hx => h x (by omega)
   have := h n (by omega)
   omega
theorem yq4 (f : Nat -> Int) (a : Nat) : ∀ b, sm f (a + b) = sm f a + sm (fun x => f (a + x)) b
 | 0 => by simp [sm]
 | b + 1 => by rw [← Nat.add_assoc]; simp only [sm]; rw [yq4 f a b]; omega
theorem ynv (f : Nat -> Int) : ∀ n, sm f n = ((List.range n).map f).sum
 | 0 => rfl
 | n + 1 => by rw [List.range_succ, List.map_append, List.sum_append_int, ← ynv f n]; simp [sm]
theorem yk8 {l k : List Int} (h : l.Perm k) : l.sum = k.sum := by
 induction h with
 | nil => rfl
 | cons x _ ih => simp only [List.sum_cons, ih]
 | swap x y l => simp only [List.sum_cons]; omega
 | trans _ _ h1 h2 => rw [h1, h2]
theorem yq5 {l : List Nat} {f : Nat -> Nat} (h : ∀ x ∈ l, ∀ y ∈ l, f x = f y -> x = y) (hn : l.Nodup) : (l.map f).Nodup := by
 rw [List.nodup_iff_pairwise_ne, List.pairwise_map]
 exact List.Pairwise.imp_of_mem (fun ha hb hne e => hne (h _ ha _ hb e)) (List.nodup_iff_pairwise_ne.1 hn)
theorem yjp (f : Nat -> Int) {N : Nat} (g : Nat -> Nat) (hr : ∀ x, x < N -> g x < N) (hi : ∀ x y, x < N -> y < N -> g x = g y -> x = y) : sm (fun x => f (g x)) N = sm f N := by
 have hn : ((List.range N).map g).Nodup := yq5 (fun x hx y hy => hi x y (List.mem_range.1 hx) (List.mem_range.1 hy)) List.nodup_range
 have hp : ((List.range N).map g).Perm (List.range N) := by
  have hle := ya4 (l := List.range N) (k := (List.range N).map g) List.nodup_range
  refine (List.perm_ext_iff_of_nodup hn List.nodup_range).2 fun a => ⟨fun h => ?_, fun h => ?_⟩
  ·obtain ⟨x, hx, rfl⟩ := List.mem_map.1 h
   exact List.mem_range.2 (hr x (List.mem_range.1 hx))
  ·by_cases hm : a ∈ (List.range N).map g
   ·exact hm
   ·exfalso
    have h2 := ya4 (l := a :: (List.range N).map g) (k := List.range N) (List.nodup_cons.2 ⟨hm, hn⟩) (fun y hy => by
     rcases List.mem_cons.1 hy with rfl | hy
     ·exact h
     ·obtain ⟨x, hx, rfl⟩ := List.mem_map.1 hy
      exact List.mem_range.2 (hr x (List.mem_range.1 hx)))
    simp at h2
    omega
 rw [ynv, ynv]
 have := yk8 (hp.map f)
 rw [List.map_map] at this
 exact this
theorem yiz (p : Nat -> Bool) : ∀ n, ((List.range n).countP p : Int) = sm (fun x => if p x then 1 else 0) n
 | 0 => rfl
 | n + 1 => by
   rw [List.range_succ, List.countP_append, Int.natCast_add, yiz p n]
   simp only [sm, List.countP_cons, List.countP_nil]
   split <;> simp
theorem yq6 {n : Nat} {mt jn : Int -> Int} {R : List Int} (hi : Inv2 n mt jn) (hR : CirR n mt jn R) : 4 * (roots R : Int) <= 4 * n + sm (fun x => if mt x = jn x then 1 else 0) (4 * n) := by
 let p : Nat -> Int := fun x => if (R.getD x 0 == (x : Int)) = true then 1 else 0
 have hroots : (roots R : Int) = sm p (4 * n) := by
  unfold roots; rw [yiz, hR.rep.len]
 have ir : ∀ x : Nat, x < 4 * n -> InR n (x : Int) := fun x hx => by unfold InR; omega
 have mr : ∀ x : Nat, x < 4 * n -> (mt x).toNat < 4 * n /\ ((mt x).toNat : Int) = mt x := fun x hx => by have := hi.mr x (ir x hx); unfold InR at this; omega
 have jr : ∀ x : Nat, x < 4 * n -> (jn x).toNat < 4 * n /\ ((jn x).toNat : Int) = jn x := fun x hx => by have := hi.jr x (ir x hx); unfold InR at this; omega
 have s1 : sm (fun x => p (mt x).toNat) (4 * n) = sm p (4 * n) := yjp p (fun x => (mt x).toNat) (fun x hx => (mr x hx).1) (fun x y hx hy e => by
  have h1 := hi.mm x (ir x hx)
  have h2 := hi.mm y (ir y hy)
  have := mr x hx
  have := mr y hy
  rw [show mt x = mt y by omega, h2] at h1; omega)
 have s2 : sm (fun x => p (jn x).toNat) (4 * n) = sm p (4 * n) := yjp p (fun x => (jn x).toNat) (fun x hx => (jr x hx).1) (fun x y hx hy e => by
  have h1 := hi.jj x (ir x hx)
  have h2 := hi.jj y (ir y hy)
  have := jr x hx
  have := jr y hy
  rw [show jn x = jn y by omega, h2] at h1; omega)
 have s3 : sm (fun x => p (jn ((mt x).toNat : Int)).toNat) (4 * n) = sm p (4 * n) := by
  rw [← s2]
  exact yjp (fun x => p (jn x).toNat) (fun x => (mt x).toNat) (fun x hx => (mr x hx).1) (fun x y hx hy e => by
   have h1 := hi.mm x (ir x hx)
   have h2 := hi.mm y (ir y hy)
   have := mr x hx
   have := mr y hy
   rw [show mt x = mt y by omega, h2] at h1; omega)
 have key : 4 * sm p (4 * n) = sm (fun x => p x + p (mt x).toNat + (p (jn x).toNat + p (jn ((mt x).toNat : Int)).toNat)) (4 * n) := by
  rw [ye1, ye1, ye1, s1, s2, s3]; omega
 have p01 : ∀ x, p x = 0 \/ p x = 1 := fun x => by show (if _ then _ else _) = _ \/ (if _ then _ else _) = _; split <;> simp
 have one : ∀ x y : Nat, x < 4 * n -> y < 4 * n -> Cir mt jn x y -> x ≠ y -> p x + p y <= 1 := fun x y hx hy hc hne => by
  have e := (hR.iff x y hx hy).2 hc
  show (if _ then _ else _) + (if _ then _ else _) <= _
  by_cases hx1 : (R.getD x 0 == (x : Int)) = true
  ·have hy1 : ¬ (R.getD y 0 == (y : Int)) = true := fun h => by
    simp only [beq_iff_eq] at hx1 h; omega
   rw [if_neg hy1]; split <;> omega
  ·rw [if_neg hx1]; split <;> omega
 have e1 : sm (fun x => p x + p (mt x).toNat + (p (jn x).toNat + p (jn ((mt x).toNat : Int)).toNat)) (4 * n) <= sm (fun x => 1 + (if mt x = jn x then 1 else 0)) (4 * n) := by
  refine yv4 fun x hx => ?_
  have hM := mr x hx
  have hJ := jr x hx
  have hJM := jr (mt x).toNat hM.1
  rw [hM.2] at hJM
  simp only [hM.2]
  have cM : Cir mt jn x (mt x) := .mate (.refl _)
  have cJ : Cir mt jn x (jn x) := .join (.refl _)
  have cJM : Cir mt jn x (jn (mt x)) := .join (.mate (.refl _))
  have hx0 := ir x hx
  have hm0 := hi.mr _ hx0
  have nM := hi.mf _ hx0
  have nJ := hi.jf _ hx0
  have nJM := hi.jf _ hm0
  have a1 := one x (mt x).toNat hx hM.1 (by rw [hM.2]; exact cM) (by omega)
  have a2 := one x (jn x).toNat hx hJ.1 (by rw [hJ.2]; exact cJ) (by omega)
  by_cases e : mt x = jn x
  ·rw [if_pos e, show jn (mt x) = x by rw [e]; exact hi.jj _ hx0, Int.toNat_natCast, e]
   rw [e] at a1
   omega
  ·rw [if_neg e]
   have n1 : jn (mt x) ≠ x := fun h => e (by rw [← hi.jj _ hm0, h])
   have n2 : jn (mt x) ≠ jn x := fun h => nM (by rw [← hi.jj _ hm0, h, hi.jj _ hx0])
   have a3 := one x (jn (mt x)).toNat hx hJM.1 (by rw [hJM.2]; exact cJM) (by omega)
   have sy : Cir mt jn (mt x) (jn x) := (cM.symm hi hx0).trans cJ
   have a4 := one (mt x).toNat (jn x).toNat hM.1 hJ.1 (by rw [hM.2, hJ.2]; exact sy) (by omega)
   have sy2 : Cir mt jn (mt x) (jn (mt x)) := .join (.refl _)
   have a5 := one (mt x).toNat (jn (mt x)).toNat hM.1 hJM.1 (by rw [hM.2, hJM.2]; exact sy2) (by omega)
   have sy3 : Cir mt jn (jn x) (jn (mt x)) := (cJ.symm hi hx0).trans cJM
   have a6 := one (jn x).toNat (jn (mt x)).toNat hJ.1 hJM.1 (by rw [hJ.2, hJM.2]; exact sy3) (by omega)
   have b1 := p01 x
   have b2 := p01 (mt x).toNat
   have b3 := p01 (jn x).toNat
   have b4 := p01 (jn (mt x)).toNat
   omega
 have e2 := ye1 (fun _ => (1 : Int)) (fun x : Nat => if mt x = jn x then (1 : Int) else 0) (4 * n)
 rw [e2, ycd, ← key] at e1
 rw [hroots]
 omega
theorem y2c {n : Nat} {mt jn kn : Int -> Int} {R S : List Int} (hi : Inv2 n mt jn) (hj : Inv2 n mt kn) (hR : CirR n mt jn R) (hS : CirR n mt kn S) (hne : ∀ x, InR n x -> jn x ≠ kn x) : roots R + roots S <= 3 * n := by
 have h1 := yq6 hi hR
 have h2 := yq6 hj hS
 have h3 : sm (fun x => if mt x = jn x then 1 else 0) (4 * n) + sm (fun x => if mt x = kn x then 1 else 0) (4 * n) <= sm (fun _ => 1) (4 * n) := by
  rw [← ye1]
  refine yv4 fun x hx => ?_
  have := hne x (by unfold InR; omega)
  by_cases e1 : mt x = jn x
  ·rw [if_pos e1, if_neg (by omega)]; omega
  ·rw [if_neg e1]; split <;> omega
 rw [ycd] at h3
 omega
inductive Con4 (mt jn : Int -> Int) (c : Int) : Int -> Int -> Prop
 | refl (x : Int) : Con4 mt jn c x x
 | mate {x y : Int} (h : Con4 mt jn c x y) : Con4 mt jn c x (mt y)
 | join {x y : Int} (h : Con4 mt jn c x y) (hy : y / 4 ≠ c) : Con4 mt jn c x (jn y)
 | any {x y z : Int} (h : Con4 mt jn c x y) (hy : y / 4 = c) (hz : z / 4 = c) : Con4 mt jn c x z
theorem Con4.trans {mt jn : Int -> Int} {c x y z : Int} (h1 : Con4 mt jn c x y) (h2 : Con4 mt jn c y z) : Con4 mt jn c x z := by
 induction h2 with
 | refl => exact h1
 | mate _ ih => exact .mate ih
 | join _ hy ih => exact .join ih hy
 | any _ hy hz ih => exact .any ih hy hz
structure Way (n : Nat) (mt jn : Int -> Int) (c : Nat) (x e : Int) (O : Int -> Prop) : Prop where
 inX : O x
 inE : O e
 ne : e ≠ x
 eC : e / 4 = c
 ends : ∀ y, O y -> y / 4 = c -> y = x \/ y = e
 mate : ∀ y, O y -> O (mt y)
 join : ∀ y, O y -> y / 4 ≠ c -> O (jn y)
 rng : ∀ y, O y -> InR n y
section
variable {n : Nat} {mt jn : Int -> Int} {c : Nat}
def JnC (jn : Int -> Int) : Prop := ∀ x, jn x / 4 = x / 4
theorem way (hi : Inv2 n mt jn) (hj : JnC jn) {x : Int} (hx : InR n x) (hxc : x / 4 = c) : ∃ e O, Way n mt jn c x e O /\ ∀ kn : Int -> Int, (∀ y : Int, 0 <= y -> y / 4 ≠ c -> kn y = jn y) -> ∀ y, O y -> Cir mt kn x y := by
 have hR : ∀ j, InR n (it (fun x => jn (mt x)) j x) := fun j => (ydu hi).it hx j
 obtain ⟨k, hk, hper⟩ := (ydu hi).per hx
 have hk0 := hper.pos
 have hback := hper.back
 have ex : ∃ j, mt (it (fun x => jn (mt x)) j x) / 4 = c := by
  refine ⟨k - 1, ?_⟩
  have e : it (fun x => jn (mt x)) ((k - 1) + 1) x = x := by rw [show k - 1 + 1 = k by omega]; exact hback
  have e2 : jn (mt (it (fun x => jn (mt x)) (k - 1) x)) = x := e
  rw [← hj, e2, hxc]
 have ymg : ∀ b, (∃ j, j <= b /\ mt (it (fun x => jn (mt x)) j x) / 4 = c) -> ∃ j, mt (it (fun x => jn (mt x)) j x) / 4 = c /\ ∀ i, i < j -> mt (it (fun x => jn (mt x)) i x) / 4 ≠ c := by
  intro b
  induction b with
  | zero => rintro ⟨j, hj, h⟩; obtain rfl : j = 0 := by omega
            exact ⟨0, h, fun i hi => by omega⟩
  | succ b ih =>
    rintro ⟨j, hj, h⟩
    by_cases hq : ∃ j, j <= b /\ mt (it (fun x => jn (mt x)) j x) / 4 = c
    ·exact ih hq
    ·refine ⟨j, h, fun i hi hc => hq ⟨i, by omega, hc⟩⟩
 obtain ⟨j0, h0⟩ := ex
 obtain ⟨j, hjc, hjl⟩ := ymg j0 ⟨j0, Nat.le_refl _, h0⟩
 have succ : ∀ i, it (fun x => jn (mt x)) (i + 1) x = jn (mt (it (fun x => jn (mt x)) i x)) := fun i => rfl
 have off : ∀ i, 0 < i -> i <= j -> it (fun x => jn (mt x)) i x / 4 ≠ c := fun i h1 h2 => by
  obtain ⟨i, rfl⟩ : ∃ i', i = i' + 1 := ⟨i - 1, by omega⟩
  rw [succ, hj]; exact hjl i (by omega)
 refine ⟨mt (it (fun x => jn (mt x)) j x), fun y => ∃ i, i <= j /\ (y = it (fun x => jn (mt x)) i x \/ y = mt (it (fun x => jn (mt x)) i x)), ⟨⟨0, by omega, .inl rfl⟩, ⟨j, Nat.le_refl _, .inr rfl⟩, ?_, hjc, ?_, ?_, ?_, ?_⟩, ?_⟩
 ·exact fun e => (yqm hi hx j 0 j (by omega)).2 e.symm
 ·rintro y ⟨i, hij, rfl | rfl⟩ hyc
  ·by_cases hi0 : i = 0
   ·subst hi0; exact .inl rfl
   ·exact absurd hyc (off i (by omega) hij)
  ·by_cases hi0 : i = j
   ·subst hi0; exact .inr rfl
   ·exact absurd hyc (hjl i (by omega))
 ·rintro y ⟨i, hij, rfl | rfl⟩
  ·exact ⟨i, hij, .inr rfl⟩
  ·exact ⟨i, hij, .inl (hi.mm _ (hR i))⟩
 ·rintro y ⟨i, hij, rfl | rfl⟩ hyc
  ·by_cases hi0 : i = 0
   ·subst hi0; exact absurd hxc hyc
   ·obtain ⟨i, rfl⟩ : ∃ i', i = i' + 1 := ⟨i - 1, by omega⟩
    exact ⟨i, by omega, .inr (by rw [succ, hi.jj _ (hi.mr _ (hR i))])⟩
  ·by_cases hi0 : i = j
   ·subst hi0; exact absurd hjc hyc
   ·exact ⟨i + 1, by omega, .inl rfl⟩
 ·rintro y ⟨i, hij, rfl | rfl⟩
  ·exact hR i
  ·exact hi.mr _ (hR i)
 ·intro kn hkn y hy
  have hc : ∀ i, i <= j -> Cir mt kn x (it (fun x => jn (mt x)) i x) := by
   intro i
   induction i with
   | zero => intro _; exact .refl _
   | succ i ih =>
     intro hij
     rw [succ, ← hkn _ (by have := hi.mr _ (hR i); unfold InR at this; exact this.1) (hjl i (by omega))]
     exact .join (.mate (ih (by omega)))
  obtain ⟨i, hij, rfl | rfl⟩ := hy
  ·exact hc i hij
  ·exact .mate (hc i hij)
theorem yq7 (hi : Inv2 n mt jn) (hj : JnC jn) {R : List Int} (hR : CirR n mt jn R) {x y : Nat} (hx : x < 4 * n) (hy : y < 4 * n) (hxc : x / 4 = c) (hyc : y / 4 = c)
  (hall : ∀ z : Int, z / 4 = c -> z = x \/ z = jn x \/ z = y \/ z = jn y) :
  RepR (yav R x y) (4 * n) /\ ∀ a b : Nat, a < 4 * n -> b < 4 * n -> ((yav R x y).getD a 0 = (yav R x y).getD b 0 ↔ Con4 mt jn c a b) := by
 have hl := hR.rep.len
 have ir : ∀ x : Nat, x < 4 * n -> InR n (x : Int) := fun x hx => by unfold InR; omega
 have toC : ∀ {a b : Int}, Cir mt jn a b -> Con4 mt jn c a b := fun h => by
  induction h with
  | refl => exact .refl _
  | mate _ ih => exact .mate ih
  | @join z _ ih =>
    by_cases hz : z / 4 = c
    ·exact .any ih hz (by rw [hj]; exact hz)
    ·exact .join ih hz
 have xy : Con4 mt jn c x y := .any (.refl _) (by omega) (by omega)
 have yx : Con4 mt jn c y x := .any (.refl _) (by omega) (by omega)
 refine ⟨yez hR.rep hx hy, fun a b ha hb => ⟨fun e => ?_, fun h => ?_⟩⟩
 ·rw [ybe hl ha, ybe hl hb] at e
  by_cases c1 : R.getD a 0 = R.getD x 0
  ·rw [if_pos c1] at e
   by_cases c2 : R.getD b 0 = R.getD x 0
   ·exact toC ((hR.iff a b ha hb).1 (c1.trans c2.symm))
   ·rw [if_neg c2] at e
    exact ((toC ((hR.iff a x ha hx).1 c1)).trans xy).trans (toC ((hR.iff y b hy hb).1 e))
  ·rw [if_neg c1] at e
   by_cases c2 : R.getD b 0 = R.getD x 0
   ·rw [if_pos c2] at e
    exact ((toC ((hR.iff a y ha hy).1 e)).trans yx).trans (toC ((hR.iff x b hx hb).1 c2.symm))
   ·rw [if_neg c2] at e
    exact toC ((hR.iff a b ha hb).1 e)
 ·have cx : (yav R x y).getD x 0 = (yav R x y).getD y 0 := yd2 hl hx hy
  have stC : ∀ u v : Nat, u < 4 * n -> v < 4 * n -> Cir mt jn u v -> (yav R x y).getD u 0 = (yav R x y).getD v 0 := fun u v hu hv h => ybc hl hu hv ((hR.iff u v hu hv).2 h)
  have jx := hi.jr _ (ir x hx)
  have jy := hi.jr _ (ir y hy)
  have four : ∀ z : Nat, z < 4 * n -> z / 4 = c -> (yav R x y).getD z 0 = (yav R x y).getD x 0 := fun z hz hzc => by
   rcases hall z (by omega) with h | h | h | h
   ·rw [show z = x by omega]
   ·exact (stC x z hx hz (by rw [h]; exact .join (.refl _))).symm
   ·rw [show z = y by omega]; exact cx.symm
   ·rw [cx]; exact (stC y z hy hz (by rw [h]; exact .join (.refl _))).symm
  have key : ∀ z, Con4 mt jn c a z -> InR n z -> InR n z /\ (yav R x y).getD z.toNat 0 = (yav R x y).getD a 0 := by
   intro z hz
   induction hz with
   | refl => exact fun h => ⟨h, by rw [Int.toNat_natCast]⟩
   | @mate u h ih =>
     intro hr
     have hu : InR n u := by
      have : ∀ w, Con4 mt jn c a w -> InR n w := fun w hw => by
       induction hw with
       | refl => exact ir a ha
       | mate _ ih2 => exact hi.mr _ ih2
       | join _ _ ih2 => exact hi.jr _ ih2
       | any h hy' hz' ih2 => unfold InR at *; omega
      exact this u h
     obtain ⟨_, e⟩ := ih hu
     refine ⟨hr, ?_⟩
     unfold InR at hu hr
     rw [← e]
     exact (stC u.toNat (mt u).toNat (by omega) (by omega) (by rw [show ((u.toNat : Nat) : Int) = u by omega, show (((mt u).toNat : Nat) : Int) = mt u by omega]; exact .mate (.refl _))).symm
   | @join u h hu4 ih =>
     intro hr
     have hu : InR n u := by
      have : ∀ w, Con4 mt jn c a w -> InR n w := fun w hw => by
       induction hw with
       | refl => exact ir a ha
       | mate _ ih2 => exact hi.mr _ ih2
       | join _ _ ih2 => exact hi.jr _ ih2
       | any h hy' hz' ih2 => unfold InR at *; omega
      exact this u h
     obtain ⟨_, e⟩ := ih hu
     refine ⟨hr, ?_⟩
     unfold InR at hu hr
     rw [← e]
     exact (stC u.toNat (jn u).toNat (by omega) (by omega) (by rw [show ((u.toNat : Nat) : Int) = u by omega, show (((jn u).toNat : Nat) : Int) = jn u by omega]; exact .join (.refl _))).symm
   | @any u v h hu4 hv4 ih =>
     intro hr
     have hu : InR n u := by unfold InR; omega
     obtain ⟨_, e⟩ := ih hu
     refine ⟨hr, ?_⟩
     unfold InR at hu hr
     rw [← e, four v.toNat (by omega) (by omega), four u.toNat (by omega) (by omega)]
  have := (key b h (ir b hb)).2
  rw [Int.toNat_natCast] at this
  exact this.symm
end
def pr3 : Nat -> Int -> Int
 | 0, x => jnB false x
 | 1, x => jnB true x
 | _, x => x - x % 4 + (x % 4 + 2) % 4
theorem yq8 (c : Int) : pr3 0 (4 * c) = 4 * c + 1 /\ pr3 0 (4 * c + 1) = 4 * c /\ pr3 0 (4 * c + 2) = 4 * c + 3 /\ pr3 0 (4 * c + 3) = 4 * c + 2 /\
  pr3 1 (4 * c) = 4 * c + 3 /\ pr3 1 (4 * c + 1) = 4 * c + 2 /\ pr3 1 (4 * c + 2) = 4 * c + 1 /\ pr3 1 (4 * c + 3) = 4 * c /\
  pr3 2 (4 * c) = 4 * c + 2 /\ pr3 2 (4 * c + 1) = 4 * c + 3 /\ pr3 2 (4 * c + 2) = 4 * c /\ pr3 2 (4 * c + 3) = 4 * c + 1 := by
 have o : ∀ x : Int, x % 2 = 1 -> jnB true x = x - x % 4 + (x % 4 + 5) % 4 /\ jnB false x = x - x % 4 + (x % 4 + 3) % 4 := fun x h => by
  unfold jnB; rw [yfi, yd1, decide_eq_true h]; exact ⟨if_pos rfl, if_neg (by simp)⟩
 have e : ∀ x : Int, ¬ x % 2 = 1 -> jnB true x = x - x % 4 + (x % 4 + 3) % 4 /\ jnB false x = x - x % 4 + (x % 4 + 5) % 4 := fun x h => by
  unfold jnB; rw [yfi, yd1, decide_eq_false h]; exact ⟨if_neg (by simp), if_pos rfl⟩
 simp only [pr3]
 rw [(e _ (by omega)).1, (o _ (by omega)).1, (e _ (by omega)).1, (o _ (by omega)).1, (e _ (by omega)).2, (o _ (by omega)).2, (e _ (by omega)).2, (o _ (by omega)).2]
 omega
theorem ynw (t : Nat) (x : Int) : pr3 t x / 4 = x / 4 := by
 unfold pr3
 split
 ·exact yed _ _
 ·exact yed _ _
 ·omega
theorem ytu : ∀ (t : Nat) (x : Int), pr3 t (pr3 t x) = x
 | 0, x => yjj _ _
 | 1, x => yjj _ _
 | t + 2, x => by simp only [pr3]; omega
theorem y8m (t : Nat) (x : Int) : pr3 t x ≠ x := by
 unfold pr3
 split
 ·exact yml _ _
 ·exact yml _ _
 ·omega
def st3 (s : Nat -> Nat) (x : Int) : Int := pr3 (s (x / 4).toNat) x
theorem yjq {n : Nat} {m : List Int} (hp : ya6 m n) (hmm : ∀ x : Nat, x < 4 * n -> m.getD (m.getD x 0).toNat 0 = x) (hmf : ∀ x : Nat, x < 4 * n -> m.getD x 0 ≠ x) (s : Nat -> Nat) : Inv2 n (fun x => m.getD x.toNat 0) (st3 s) := by
 have h := ydj hp hmm hmf (fun _ => false)
 refine ⟨h.mr, fun x hx => ?_, h.mm, fun x hx => ?_, h.mf, fun x _ => y8m _ _⟩
 ·have := ynw (s (x / 4).toNat) x
  unfold InR st3 at *; omega
 ·unfold st3; rw [ynw, ytu]
theorem y93 (s : Nat -> Nat) : JnC (st3 s) := fun x => ynw _ _
def cir3 (m : List Int) (n : Nat) (s : Nat -> Nat) : Nat := roots (crN (fun x => m.getD x.toNat 0) (st3 s) (4 * n) (4 * n))
theorem y6e (n : Nat) {mt jn : Int -> Int} {R : List Int} (hR : CirR n mt jn R) (hn : 0 < n) : 1 <= roots R := by
 have h1 := hR.rep.rng 0 (by omega)
 have h2 := hR.rep.idem 0 (by omega)
 unfold roots
 have : 0 < (List.range R.length).countP fun x => R.getD x 0 == (x : Int) := by
  rw [List.countP_pos_iff]
  exact ⟨(R.getD 0 0).toNat, List.mem_range.2 (by rw [hR.rep.len]; omega), by simp only [beq_iff_eq]; omega⟩
 omega
theorem y94 {n : Nat} {mt : Int -> Int} {j : Nat -> Int -> Int} {c : Nat} (hc : c < n) (hi : ∀ t, t < 3 -> Inv2 n mt (j t)) (hj : ∀ t, t < 3 -> JnC (j t)) (hat : ∀ t, t < 3 -> ∀ x : Int, x / 4 = c -> j t x = pr3 t x) (hoff : ∀ t, t < 3 -> ∀ x : Int, 0 <= x -> x / 4 ≠ c -> j t x = j 0 x)
  {R : Nat -> List Int} (hR : ∀ t, t < 3 -> CirR n mt (j t) (R t)) : ∃ K t0, t0 < 3 /\ ∀ t, t < 3 -> roots (R t) = if t = t0 then K + 1 else K := by
 obtain ⟨e, O, hw, hreach⟩ := way (c := c) (hi 0 (by omega)) (hj 0 (by omega)) (x := 4 * c) (by unfold InR; omega) (by omega)
 have V := yq8 c
 have eC := hw.eC
 have eN := hw.ne
 have eR := hw.rng e hw.inE
 obtain ⟨t0, ht0, hte⟩ : ∃ t0, t0 < 3 /\ pr3 t0 (4 * c) = e := by
  rcases (show e = 4 * c + 1 \/ e = 4 * c + 2 \/ e = 4 * c + 3 by omega) with h | h | h
  ·exact ⟨0, by omega, by omega⟩
  ·exact ⟨2, by omega, by omega⟩
  ·exact ⟨1, by omega, by omega⟩
 have all4 : ∀ t, t < 3 -> ∀ y : Int, y / 4 = c -> y ≠ 4 * c -> y ≠ j t (4 * c) -> ∀ z : Int, z / 4 = c -> z = 4 * c \/ z = j t (4 * c) \/ z = y \/ z = j t y := fun t ht y hy h1 h2 z hz => by
  rw [hat t ht _ (by omega)] at h2 ⊢
  rw [hat t ht y hy]
  rcases (show y = 4 * c + 1 \/ y = 4 * c + 2 \/ y = 4 * c + 3 by omega) with rfl | rfl | rfl <;>
  rcases (show z = 4 * c \/ z = 4 * c + 1 \/ z = 4 * c + 2 \/ z = 4 * c + 3 by omega) with rfl | rfl | rfl | rfl <;>
  rcases (show t = 0 \/ t = 1 \/ t = 2 by omega) with rfl | rfl | rfl <;> omega
 have rngC : ∀ t, t < 3 -> ∀ a b, InR n a -> Con4 mt (j t) c a b -> InR n b := fun t ht a b ha h => by
  induction h with
  | refl => exact ha
  | mate _ ih => exact (hi t ht).mr _ ih
  | join _ _ ih => exact (hi t ht).jr _ ih
  | any _ hy hz ih => unfold InR at *; omega
 have conEq : ∀ t, t < 3 -> ∀ a b, InR n a -> (Con4 mt (j t) c a b ↔ Con4 mt (j 0) c a b) := fun t ht a b ha => by
  constructor
  ·intro h
   induction h with
   | refl => exact .refl _
   | mate _ ih => exact .mate ih
   | join h hy ih => rw [hoff t ht _ (rngC t ht _ _ ha h).1 hy]; exact .join ih hy
   | any _ hy hz ih => exact .any ih hy hz
  ·intro h
   induction h with
   | refl => exact .refl _
   | mate _ ih => exact .mate ih
   | join h hy ih => rw [← hoff t ht _ (rngC 0 (by omega) _ _ ha h).1 hy]; exact .join ih hy
   | any _ hy hz ih => exact .any ih hy hz
 have J : ∀ t, t < 3 -> ∃ y : Nat, y < 4 * n /\ y / 4 = c /\ (y : Int) ≠ 4 * c /\ (y : Int) ≠ j t (4 * c) /\ (t ≠ t0 -> (y : Int) = e) := fun t ht => by
  by_cases h : t = t0
  ·subst h
   have h1 := hat t ht (4 * c) (by omega)
   by_cases h2 : j t (4 * c) = 4 * c + 1
   ·exact ⟨4 * c + 2, by omega, by omega, by omega, by omega, fun h => absurd rfl h⟩
   ·exact ⟨4 * c + 1, by omega, by omega, by omega, by omega, fun h => absurd rfl h⟩
  ·unfold InR at eR
   refine ⟨e.toNat, by omega, by omega, by omega, ?_, fun _ => by omega⟩
   rw [hat t ht _ (by omega), show ((e.toNat : Nat) : Int) = e by omega, ← hte]
   rcases (show t = 0 \/ t = 1 \/ t = 2 by omega) with rfl | rfl | rfl <;>
   rcases (show t0 = 0 \/ t0 = 1 \/ t0 = 2 by omega) with rfl | rfl | rfl <;> omega
 have hxN : 4 * c < 4 * n := by omega
 have xcast : ((4 * c : Nat) : Int) = 4 * (c : Int) := by omega
 obtain ⟨y0, hy0, hy1, hy2, hy3, hy4⟩ := J t0 ht0
 obtain ⟨K, hK⟩ : ∃ K, roots (yav (R t0) (4 * c) y0) = K := ⟨_, rfl⟩
 have same : ∀ t, t < 3 -> ∀ y : Nat, y < 4 * n -> y / 4 = c -> (y : Int) ≠ 4 * c -> (y : Int) ≠ j t (4 * c) -> roots (yav (R t) (4 * c) y) = K := fun t ht y h1 h2 h3 h4 => by
  rw [← hK]
  have A := yq7 (c := c) (hi t ht) (hj t ht) (hR t ht) (x := 4 * c) hxN h1 (by omega) h2 (by rw [xcast]; exact all4 t ht y (by omega) h3 h4)
  have B := yq7 (c := c) (hi t0 ht0) (hj t0 ht0) (hR t0 ht0) (x := 4 * c) hxN hy0 (by omega) hy1 (by rw [xcast]; exact all4 t0 ht0 y0 (by omega) hy2 hy3)
  have AB : ∀ a b : Nat, a < 4 * n -> b < 4 * n -> ((yav (R t) (4 * c) y).getD a 0 = (yav (R t) (4 * c) y).getD b 0 ↔ (yav (R t0) (4 * c) y0).getD a 0 = (yav (R t0) (4 * c) y0).getD b 0) := fun a b ha hb => by
   have ia : InR n (a : Int) := by unfold InR; omega
   rw [A.2 a b ha hb, B.2 a b ha hb, conEq t ht _ _ ia, conEq t0 ht0 _ _ ia]
  exact Nat.le_antisymm (yh0 B.1 A.1 fun a b ha hb => (AB a b ha hb).symm) (yh0 A.1 B.1 AB)
 refine ⟨K, t0, ht0, fun t ht => ?_⟩
 by_cases h : t = t0
 ·rw [if_pos h]
  subst h
  rw [← hK]
  refine ykn (hR t ht).rep hxN hy0 fun e1 => ?_
  have hc1 := ((hR t ht).iff _ _ hxN hy0).1 e1
  rw [xcast] at hc1
  have inO : ∀ z, Cir mt (j t) (4 * c) z -> O z := fun z hz => by
   induction hz with
   | refl => exact hw.inX
   | mate _ ih => exact hw.mate _ ih
   | @join u _ ih =>
     by_cases hu : u / 4 = c
     ·rw [hat t ht u hu]
      rcases hw.ends u ih hu with rfl | rfl
      ·rw [hte]; exact hw.inE
      ·rw [← hte, ytu]; exact hw.inX
     ·rw [hoff t ht u (hw.rng u ih).1 hu]; exact hw.join u ih hu
  rcases hw.ends _ (inO _ hc1) (by omega) with h5 | h5
  ·exact hy2 h5
  ·rw [hat t ht _ (by omega), hte] at hy3; exact hy3 h5
 ·rw [if_neg h]
  obtain ⟨y, h1, h2, h3, h4, h5⟩ := J t ht
  rw [← same t ht y h1 h2 h3 h4]
  have : (R t).getD (4 * c) 0 = (R t).getD y 0 := ((hR t ht).iff _ _ hxN h1).2 (by
   rw [xcast, h5 h]; exact hreach (j t) (fun z h0 hz => hoff t ht z h0 hz) e hw.inE)
  unfold yav; rw [if_pos this]
end Go.Proofs.YtebdkebfkpbmpaaGreatDoor
namespace Go.Proofs.YtebdkebfkpbmpaaGreatDoor
set_option linter.unusedSimpArgs false
set_option linter.unusedVariables false
def dml (f : Int -> Int) (e : Int) : Int := -(f (e + 2)) - f (e - 2)
def dpw : Nat -> Int -> Int
 | 0, e => if e = 0 then 1 else 0
 | j + 1, e => dml (dpw j) e
theorem ybz : ∀ (j : Nat) (e : Int), dpw j e ≠ 0 -> -(2 * (j : Int)) <= e /\ e <= 2 * j
 | 0, e, h => by
   have : e = 0 := by
    by_cases h0 : e = 0
    ·exact h0
    ·simp [dpw, h0] at h
   omega
 | j + 1, e, h => by
   by_cases h1 : dpw j (e + 2) = 0
   ·by_cases h2 : dpw j (e - 2) = 0
    ·exact absurd (by simp [dpw, dml, h1, h2]) h
    ·have := ybz j _ h2; omega
   ·have := ybz j _ h1; omega
theorem yg2 : ∀ (j : Nat) (e : Int), -((2 ^ j : Nat) : Int) <= dpw j e /\ dpw j e <= ((2 ^ j : Nat) : Int)
 | 0, e => by simp only [dpw]; split <;> simp
 | j + 1, e => by
   have h1 := yg2 j (e + 2)
   have h2 := yg2 j (e - 2)
   simp only [dpw, dml, Nat.pow_succ]
   omega
theorem y3y (p : List (Int × Int)) (e : Int) : cvL p (cfL [(-2, -1), (2, -1)]) e = dml (cfL p) e := by
 induction p with
 | nil => rfl
 | cons t p ih =>
   have key : t.2 * cfL [(-2, -1), (2, -1)] (e - t.1) = -(if t.1 = e + 2 then t.2 else 0) - (if t.1 = e - 2 then t.2 else 0) := by
    simp only [cfL]
    by_cases h1 : t.1 = e + 2
    ·rw [if_pos (by omega), if_neg (by omega), if_pos h1, if_neg (by omega)]; omega
    ·rw [if_neg (by omega), if_neg h1]
     by_cases h2 : t.1 = e - 2
     ·rw [if_pos (by omega), if_pos h2]; omega
     ·rw [if_neg (by omega), if_neg h2]; omega
   show t.2 * cfL [(-2, -1), (2, -1)] (e - t.1) + cvL p (cfL [(-2, -1), (2, -1)]) e = _
   rw [key, ih]
   simp only [dml, cfL]
   omega
def hrT (K : Nat) (c : Nat -> Nat) (w : Nat -> Int) (j : Nat) (e : Int) : Int := sm (fun k => if j <= c k then dpw (c k - j) (e - w k) else 0) K
def hrR (K : Nat) (c : Nat -> Nat) (w : Nat -> Int) (j : Nat) (e : Int) : Int := sm (fun k => if c k = j /\ e = w k then 1 else 0) K
section
variable {K : Nat} {c : Nat -> Nat} {w : Nat -> Int}
theorem yq9 (j : Nat) (e : Int) : hrT K c w j e = dml (hrT K c w (j + 1)) e + hrR K c w j e := by
 induction K with
 | zero => rfl
 | succ K ih =>
   unfold hrT hrR dml at ih ⊢
   simp only [sm]
   rw [ih]
   have key : (if j <= c K then dpw (c K - j) (e - w K) else 0) = -(if j + 1 <= c K then dpw (c K - (j + 1)) (e + 2 - w K) else 0) - (if j + 1 <= c K then dpw (c K - (j + 1)) (e - 2 - w K) else 0) + (if c K = j /\ e = w K then 1 else 0) := by
    by_cases h1 : j + 1 <= c K
    ·rw [if_pos (by omega), if_pos h1, if_pos h1, if_neg (by omega), show c K - j = (c K - (j + 1)) + 1 by omega]
     simp only [dpw, dml]
     rw [show e - w K + 2 = e + 2 - w K by omega, show e - w K - 2 = e - 2 - w K by omega]; omega
    ·rw [if_neg h1, if_neg h1]
     by_cases h2 : c K = j
     ·rw [if_pos (by omega), show c K - j = 0 by omega]
      simp only [dpw]
      by_cases h3 : e = w K
      ·rw [if_pos (by omega), if_pos ⟨h2, h3⟩]; omega
      ·rw [if_neg (by omega), if_neg (by omega)]; omega
     ·rw [if_neg (by omega), if_neg (by omega)]; omega
   dsimp only
   omega
theorem ypn {f : Nat -> Int} : ∀ {n : Nat}, sm f n ≠ 0 -> ∃ k, k < n /\ f k ≠ 0
 | 0, h => absurd rfl h
 | n + 1, h => by
   by_cases h1 : f n = 0
   ·simp only [sm, h1, Int.add_zero] at h
    obtain ⟨k, h2, h3⟩ := ypn h
    exact ⟨k, by omega, h3⟩
   ·exact ⟨n, by omega, h1⟩
theorem ymu {f : Nat -> Int} {b : Int} : ∀ {n : Nat}, (∀ k, k < n -> -b <= f k /\ f k <= b) -> -(b * n) <= sm f n /\ sm f n <= b * n
 | 0, _ => by simp [sm]
 | n + 1, h => by
   have h1 := ymu (n := n) fun k hk => h k (by omega)
   have h2 := h n (by omega)
   simp only [sm, Int.natCast_add, Int.mul_add]
   omega
theorem y2d {j : Nat} {e : Int} (h : hrT K c w j e ≠ 0) : ∃ k, k < K /\ j <= c k /\ w k - 2 * ((c k : Int) - j) <= e /\ e <= w k + 2 * ((c k : Int) - j) := by
 obtain ⟨k, hk, h2⟩ := ypn h
 by_cases hj : j <= c k
 ·rw [if_pos hj] at h2
  have := ybz _ _ h2
  exact ⟨k, hk, hj, by omega, by omega⟩
 ·rw [if_neg hj] at h2; exact absurd rfl h2
theorem y6f {j M : Nat} (hM : ∀ k, k < K -> c k - j <= M) (e : Int) : -((2 ^ M : Nat) : Int) * K <= hrT K c w j e /\ hrT K c w j e <= ((2 ^ M : Nat) : Int) * K := by
 have := ymu (f := fun k => if j <= c k then dpw (c k - j) (e - w k) else 0) (b := ((2 ^ M : Nat) : Int)) (n := K) fun k hk => by
  have h1 := hM k hk
  have h2 : 2 ^ (c k - j) <= 2 ^ M := Nat.pow_le_pow_right (by omega) h1
  have h3 := yg2 (c k - j) (e - w k)
  split <;> omega
 rw [Int.neg_mul]
 exact this
end
def dmn : Nat -> (Int -> Int) -> Int -> Int
 | 0, g => g
 | i + 1, g => dml (dmn i g)
def FinS (g : Int -> Int) : Prop := ∃ b : Nat, ∀ e : Int, g e ≠ 0 -> -(b : Int) <= e /\ e <= b
theorem FinS.dml {g : Int -> Int} (h : FinS g) : FinS (dml g) := by
 obtain ⟨b, hb⟩ := h
 refine ⟨b + 2, fun e he => ?_⟩
 by_cases h1 : g (e + 2) = 0
 ·by_cases h2 : g (e - 2) = 0
  ·exact absurd (by simp [Proofs.YtebdkebfkpbmpaaGreatDoor.dml, h1, h2]) he
  ·have := hb _ h2; omega
 ·have := hb _ h1; omega
theorem FinS.dmn {g : Int -> Int} (h : FinS g) : ∀ i, FinS (dmn i g)
 | 0 => h
 | i + 1 => (FinS.dmn h i).dml
theorem FinS.mul {g : Int -> Int} (h : FinS g) (a : Int) : FinS fun e => (e - a) * g e := by
 obtain ⟨b, hb⟩ := h
 exact ⟨b, fun e he => hb e fun h0 => he (by simp [h0])⟩
theorem FinS.add {g f : Int -> Int} (h : FinS g) (h2 : FinS f) : FinS fun e => g e + f e := by
 obtain ⟨b, hb⟩ := h
 obtain ⟨b2, hb2⟩ := h2
 refine ⟨b + b2, fun e he => ?_⟩
 by_cases h0 : g e = 0
 ·have := hb2 e fun h1 => he (by simp [h0, h1]); omega
 ·have := hb e h0; omega
def dsh (g : Int -> Int) (e : Int) : Int := 2 * g (e + 2) - 2 * g (e - 2)
theorem FinS.dsh {g : Int -> Int} (h : FinS g) : FinS (dsh g) := by
 obtain ⟨b, hb⟩ := h
 refine ⟨b + 2, fun e he => ?_⟩
 by_cases h1 : g (e + 2) = 0
 ·by_cases h2 : g (e - 2) = 0
  ·exact absurd (by simp [Proofs.YtebdkebfkpbmpaaGreatDoor.dsh, h1, h2]) he
  ·have := hb _ h2; omega
 ·have := hb _ h1; omega
theorem ytv (g : Int -> Int) : ∀ i e, dmn i (dsh g) e = dsh (dmn i g) e
 | 0, e => rfl
 | i + 1, e => by
   simp only [dmn, dml, ytv g i, dsh]
   rw [show e + 2 - 2 = e - 2 + 2 by omega]; omega
theorem yjr (g f : Int -> Int) : ∀ i e, dmn i (fun e => g e + f e) e = dmn i g e + dmn i f e
 | 0, e => rfl
 | i + 1, e => by simp only [dmn, dml, yjr g f i]; omega
theorem y6g (a : Int) (g : Int -> Int) (e : Int) : (e - a) * dml g e = dml (fun e => (e - a) * g e) e + dsh g e := by
 simp only [dml, dsh]
 have h1 : (e + 2 - a) * g (e + 2) = (e - a) * g (e + 2) + 2 * g (e + 2) := by rw [← Int.add_mul]; congr 1; omega
 have h2 : (e - 2 - a) * g (e - 2) = (e - a) * g (e - 2) - 2 * g (e - 2) := by rw [← Int.sub_mul]; congr 1; omega
 rw [h1, h2, Int.mul_sub, Int.mul_neg]
 omega
theorem ytw (a : Int) {g : Int -> Int} (hg : FinS g) : ∀ i, ∃ g', FinS g' /\ ∀ e, (e - a) * dmn (i + 1) g e = dmn i g' e
 | 0 => ⟨fun e => (e - a) * dmn 1 g e, (hg.dmn 1).mul a, fun e => rfl⟩
 | i + 1 => by
   obtain ⟨g', h1, h2⟩ := ytw a hg i
   refine ⟨fun e => g' e + dsh g e, h1.add hg.dsh, fun e => ?_⟩
   have h3 : dmn (i + 1 + 1) g e = dml (dmn (i + 1) g) e := rfl
   rw [h3, y6g, yjr, ytv]
   congr 1
   simp only [dmn, dml] at h2 ⊢
   rw [← h2, ← h2]
theorem AscN.len {p : List (Int × Int)} (h : AscN p) : ∀ {a b : Int}, (∀ t ∈ p, a <= t.1 /\ t.1 <= b) -> (p.length : Int) <= max 0 (b - a + 1) := by
 induction p with
 | nil => intro a b _; simp; omega
 | cons t p ih =>
   intro a b hb
   have h1 := hb t (List.mem_cons_self ..)
   have := ih h.tail (a := t.1 + 1) (b := b) fun u hu => by
    have h2 := h.head u hu
    have h3 := hb u (List.mem_cons_of_mem _ hu)
    omega
   simp only [List.length_cons]
   omega
theorem yra (a : Int) : ∀ (p : List (Int × Int)) (e : Int), cfL (p.map fun t => (t.1, (t.1 - a) * t.2)) e = (e - a) * cfL p e
 | [], e => by simp [cfL]
 | t :: p, e => by
   simp only [List.map_cons, cfL, yra a p e, Int.mul_add]
   by_cases h : t.1 = e
   ·rw [if_pos h, if_pos h, h]
   ·rw [if_neg h, if_neg h]; omega
theorem ymv : ∀ (i : Nat) (p : List (Int × Int)) (g : Int -> Int), AscN p -> FinS g -> (∀ e, cfL p e = dmn i g e) -> p ≠ [] -> i + 1 <= p.length
 | 0, p, g, _, _, _, hne => by
   have := List.length_pos_iff.2 hne; omega
 | i + 1, [], g, _, _, _, hne => absurd rfl hne
 | i + 1, t :: p, g, hp, hg, hc, _ => by
   obtain ⟨g', h1, h2⟩ := ytw t.1 hg i
   have hq : AscN (p.map fun u => (u.1, (u.1 - t.1) * u.2)) := by
    refine ⟨?_, fun u hu => ?_⟩
    ·rw [List.pairwise_map]; exact hp.tail.asc
    ·obtain ⟨v, hv, rfl⟩ := List.mem_map.1 hu
     have a1 := hp.head v hv
     have a2 := hp.nz v (List.mem_cons_of_mem _ hv)
     exact Int.mul_ne_zero (by omega) a2
   have hcq : ∀ e, cfL (p.map fun u => (u.1, (u.1 - t.1) * u.2)) e = dmn i g' e := fun e => by
    rw [yra, ← h2, ← hc]
    simp only [cfL]
    by_cases h : t.1 = e
    ·rw [if_pos h, h]; simp
    ·rw [if_neg h]; simp
   by_cases hne : p = []
   ·exfalso
    subst hne
    obtain ⟨b, hb⟩ := hg.dmn i
    have h3 : ∀ e, dml (dmn i g) e = if t.1 = e then t.2 else 0 := fun e => by
     have := hc e; simp only [cfL, dmn, Int.add_zero] at this; exact this.symm
    have t2 := hp.nz t (List.mem_cons_self ..)
    have lo : ∀ d : Nat, ∀ e : Int, e < t.1 + 2 -> e <= -(b : Int) - 1 + d -> dmn i g e = 0 := by
     intro d
     induction d using Nat.strongRecOn with
     | _ d ih =>
       intro e h4 h5
       by_cases h6 : e <= -(b : Int) - 1
       ·by_cases h7 : dmn i g e = 0
        ·exact h7
        ·have := hb e h7; omega
       ·have h8 := h3 (e - 2)
        rw [if_neg (by omega)] at h8
        have h9 : dmn i g (e - 2 - 2) = 0 := by
         by_cases h10 : d <= 3
         ·by_cases h11 : dmn i g (e - 2 - 2) = 0
          ·exact h11
          ·have := hb _ h11; omega
         ·exact ih (d - 4) (by omega) _ (by omega) (by omega)
        simp only [dml] at h8
        rw [h9, show e - 2 + 2 = e by omega] at h8; omega
    have hi : ∀ d : Nat, ∀ e : Int, t.1 - 2 < e -> (b : Int) + 1 - d <= e -> dmn i g e = 0 := by
     intro d
     induction d using Nat.strongRecOn with
     | _ d ih =>
       intro e h4 h5
       by_cases h6 : (b : Int) + 1 <= e
       ·by_cases h7 : dmn i g e = 0
        ·exact h7
        ·have := hb e h7; omega
       ·have h8 := h3 (e + 2)
        rw [if_neg (by omega)] at h8
        have h9 : dmn i g (e + 2 + 2) = 0 := by
         by_cases h10 : d <= 3
         ·by_cases h11 : dmn i g (e + 2 + 2) = 0
          ·exact h11
          ·have := hb _ h11; omega
         ·exact ih (d - 4) (by omega) _ (by omega) (by omega)
        simp only [dml] at h8
        rw [h9, show e + 2 - 2 = e by omega] at h8; omega
    have e1 := h3 t.1
    rw [if_pos rfl] at e1
    simp only [dml] at e1
    rw [lo (t.1 - 2 + b + 1).toNat (t.1 - 2) (by omega) (by omega), hi (b + 1 - (t.1 + 2)).toNat (t.1 + 2) (by omega) (by omega)] at e1
    omega
   ·have := ymv i _ g' hq h1 hcq (by simpa using hne)
    simp only [List.length_map, List.length_cons] at this ⊢
    omega
end Go.Proofs.YtebdkebfkpbmpaaGreatDoor
namespace Go.Proofs.YtebdkebfkpbmpaaGreatDoor
set_option linter.unusedSimpArgs false
set_option linter.unusedVariables false
structure PmOk (m : List Int) (n : Nat) : Prop where
 ok : ya6 m n
 inv : ∀ x : Nat, x < 4 * n -> m.getD (m.getD x 0).toNat 0 = x
 ne : ∀ x : Nat, x < 4 * n -> m.getD x 0 ≠ x
theorem pmOk {s m : List Int} {L : Int} (h : ya3 s m L = true) : PmOk m s.length := by
 have v := yfz h
 refine ⟨v.prd.ok, v.prd.inv, fun x hx => ?_⟩
 have := v.mt x hx
 omega
abbrev cirS (m : List Int) (n : Nat) (ch : Nat -> Bool) : Nat := roots (mgB m ch n)
theorem ygl {m : List Int} {ch ch' : Nat -> Bool} : ∀ {n : Nat}, (∀ c, c < n -> ch c = ch' c) -> mgB m ch n = mgB m ch' n
 | 0, _ => rfl
 | n + 1, h => by
   have := ygl (m := m) (n := n) fun c hc => h c (by omega)
   simp only [mgB, h n (by omega), this]
def nb01 (b : Bool) : Nat := if b then 1 else 0
theorem y2e (ch : Nat -> Bool) : st3 (fun c => nb01 (ch c)) = fun x => jnB (ch (x / 4).toNat) x := by
 funext x
 unfold st3 nb01
 dsimp only
 cases ch (x / 4).toNat <;> rfl
section
variable {m : List Int} {n : Nat} (hp : PmOk m n)
include hp
theorem ymw (ch : Nat -> Bool) : CirR n (fun x => m.getD x.toNat 0) (st3 (fun c => nb01 (ch c))) (mgB m ch n) := by
 rw [y2e]; exact yv2 hp.ok hp.inv hp.ne
theorem yyn (s : Nat -> Nat) : CirR n (fun x => m.getD x.toNat 0) (st3 s) (crN (fun x => m.getD x.toNat 0) (st3 s) (4 * n) (4 * n)) := ygj (yjq hp.ok hp.inv hp.ne s)
theorem yyo (ch : Nat -> Bool) : cirS m n ch = cir3 m n (fun c => nb01 (ch c)) := yf0 (ymw hp ch) (yyn hp _)
theorem yv5 (s : Nat -> Nat) {c : Nat} (hc : c < n) : ∃ K t0, t0 < 3 /\ ∀ t, t < 3 -> cir3 m n (fun x => if x = c then t else s x) = if t = t0 then K + 1 else K := by
 refine y94 (c := c) (j := fun t => st3 (fun x => if x = c then t else s x)) hc (fun t _ => yjq hp.ok hp.inv hp.ne _) (fun t _ => y93 _) (fun t _ x hx => ?_) (fun t _ x h0 hx => ?_) (fun t _ => yyn hp _)
 ·simp only [st3]; rw [if_pos (by omega)]
 ·simp only [st3]
  rw [if_neg (by omega), if_neg (by omega)]
theorem y2f {ch ch' : Nat -> Bool} {c : Nat} (hc : c < n) (h : ∀ x, x ≠ c -> ch x = ch' x) : cirS m n ch <= cirS m n ch' + 1 := by
 obtain ⟨K, t0, _, h3⟩ := yv5 hp (fun x => nb01 (ch x)) hc
 have e1 : (fun x => nb01 (ch x)) = fun x => if x = c then nb01 (ch c) else nb01 (ch x) := by
  funext x; by_cases e : x = c
  ·rw [if_pos e, e]
  ·rw [if_neg e]
 have e2 : (fun x => nb01 (ch' x)) = fun x => if x = c then nb01 (ch' c) else nb01 (ch x) := by
  funext x; by_cases e : x = c
  ·rw [if_pos e, e]
  ·rw [if_neg e, h x e]
 have l01 : ∀ b, nb01 b < 3 := fun b => by cases b <;> decide
 rw [yyo hp, yyo hp, e1, e2, h3 _ (l01 _), h3 _ (l01 _)]
 split <;> split <;> omega
def difS (b : Bool) (ch : Nat -> Bool) : Nat -> Nat
 | 0 => 0
 | c + 1 => difS b ch c + if ch c = b then 0 else 1
omit hp in
theorem yk9 (ch : Nat -> Bool) : ∀ c, difS false ch c + difS true ch c = c
 | 0 => rfl
 | c + 1 => by have := yk9 ch c; simp only [difS]; cases ch c <;> simp <;> omega
theorem yrb (b : Bool) (ch : Nat -> Bool) : ∀ i, i <= n -> cirS m n (fun c => if c < i then ch c else b) <= cirS m n (fun _ => b) + difS b ch i
 | 0, _ => by simp [difS]
 | i + 1, hi => by
   have ih := yrb b ch i (by omega)
   simp only [difS]
   by_cases hb : ch i = b
   ·rw [if_pos hb]
    have : (fun c => if c < i + 1 then ch c else b) = fun c => if c < i then ch c else b := by
     funext c
     by_cases e : c = i
     ·subst e; rw [if_pos (by omega), if_neg (by omega), hb]
     ·by_cases e2 : c < i
      ·rw [if_pos (by omega), if_pos e2]
      ·rw [if_neg (by omega), if_neg e2]
    rw [this]; exact ih
   ·rw [if_neg hb]
    have := y2f hp (c := i) (by omega) (ch := fun c => if c < i + 1 then ch c else b) (ch' := fun c => if c < i then ch c else b) fun x hx => by
     by_cases e2 : x < i
     ·rw [if_pos (by omega), if_pos e2]
     ·rw [if_neg (by omega), if_neg e2]
    omega
theorem yjs (b : Bool) (ch : Nat -> Bool) : cirS m n ch <= cirS m n (fun _ => b) + difS b ch n := by
 have := yrb hp b ch n (Nat.le_refl _)
 have e : cirS m n (fun c => if c < n then ch c else b) = cirS m n ch := by
  unfold cirS; rw [ygl fun c hc => by rw [if_pos hc]]
 omega
theorem yrc : cirS m n (fun _ => false) + cirS m n (fun _ => true) <= 3 * n := by
 have h0 := ymw hp (fun _ => false)
 have h1 := ymw hp (fun _ => true)
 refine y2c (yjq hp.ok hp.inv hp.ne _) (yjq hp.ok hp.inv hp.ne _) h0 h1 fun x hx => ?_
 have V := yq8 (x / 4)
 show pr3 0 x ≠ pr3 1 x
 rcases (show x = 4 * (x / 4) \/ x = 4 * (x / 4) + 1 \/ x = 4 * (x / 4) + 2 \/ x = 4 * (x / 4) + 3 by omega) with h | h | h | h <;> (rw [h]; omega)
theorem ydb (ch : Nat -> Bool) : cirS m n ch <= 2 * n := by
 have h1 := yjs hp false ch
 have h2 := yjs hp true ch
 have h3 := yrc hp
 have h4 := yk9 ch n
 omega
theorem yla (ch : Nat -> Bool) (hn : 0 < n) : 1 <= cirS m n ch := y6e n (ymw hp ch) hn
end
def chB (b : Nat) (c : Nat) : Bool := b / 2 ^ c % 2 == 1
def cntB (b : Nat) : Nat -> Nat
 | 0 => 0
 | c + 1 => cntB b c + b / 2 ^ c % 2
theorem yg3 (b : Nat) : ∀ c, cntB b c <= c
 | 0 => Nat.le_refl _
 | c + 1 => by have := yg3 b c; simp only [cntB]; omega
theorem ylb (b : Nat) : ∀ c, cntB b c = difS false (chB b) c
 | 0 => rfl
 | c + 1 => by
   simp only [cntB, difS, ylb b c, chB]
   by_cases h : b / 2 ^ c % 2 = 1
   ·simp [h]
   ·have : b / 2 ^ c % 2 = 0 := by omega
    simp [this]
def cN (m : List Int) (n L : Nat) (b : Nat) : Nat := cirS m n (chB b) + L
def wB (n : Nat) (b : Nat) : Int := (n : Int) - 2 * cntB b n
def brT (m : List Int) (n L : Nat) (j : Nat) (e : Int) : Int := hrT (2 ^ n) (cN m n L) (wB n) j e
section
variable {m : List Int} {n L : Nat} (hp : PmOk m n)
include hp
theorem yh9 {j : Nat} {e : Int} (h : brT m n L j e ≠ 0) : -(n : Int) - 2 * (cirS m n (fun _ => true) + L) + 2 * j <= e /\ e <= n + 2 * (cirS m n (fun _ => false) + L) - 2 * j := by
 obtain ⟨k, _, hj, h1, h2⟩ := y2d h
 have a1 := yjs hp false (chB k)
 have a2 := yjs hp true (chB k)
 have a3 := yk9 (chB k) n
 have a4 := ylb k n
 unfold wB cN at *
 omega
theorem ymx (b : Nat) : cN m n L b <= 2 * n + L := by have := ydb hp (chB b); unfold cN; omega
theorem y6h {j M : Nat} (hM : 2 * n + L <= M + j) (e : Int) : -((2 ^ (M + n) : Nat) : Int) <= brT m n L j e /\ brT m n L j e <= ((2 ^ (M + n) : Nat) : Int) := by
 have := y6f (K := 2 ^ n) (c := cN m n L) (w := wB n) (j := j) (M := M) (fun k _ => by have := ymx hp (L := L) k; omega) e
 rw [Nat.pow_add, Int.natCast_mul, ← Int.neg_mul]
 exact this
omit hp in
theorem ytx : ∀ i, i <= L -> ∀ e, brT m n L (L - i) e = dmn i (brT m n L L) e
 | 0, _, e => rfl
 | i + 1, hi, e => by
   have h1 := yq9 (K := 2 ^ n) (c := cN m n L) (w := wB n) (L - (i + 1)) e
   rw [show L - (i + 1) + 1 = L - i by omega] at h1
   have h0 : hrR (2 ^ n) (cN m n L) (wB n) (L - (i + 1)) e = 0 := by
    have : hrR (2 ^ n) (cN m n L) (wB n) (L - (i + 1)) e = sm (fun _ => 0) (2 ^ n) := ya9 fun k _ => by
     rw [if_neg]
     rintro ⟨h2, _⟩
     unfold cN at h2; omega
    rw [this, ycd]; omega
   rw [h0] at h1
   show hrT _ _ _ _ _ = dml (dmn i (brT m n L L)) e
   rw [h1]
   simp only [dml, ← ytx i (by omega), Int.add_zero]
   rfl
omit hp in
theorem yty {p : List (Int × Int)} (ha : AscN p) {f : Int -> Int} (hf : ∀ e, cfL p e = f e) {a b : Int} (hs : ∀ e, f e ≠ 0 -> a <= e /\ e <= b) : ∀ t ∈ p, a <= t.1 /\ t.1 <= b := fun t ht => hs _ (by rw [← hf, yfl ha ht]; exact ha.nz t ht)
end
theorem ynx (f : Nat -> Nat -> Int) (a : Nat) : ∀ b, sm (fun x => sm (fun k => f x k) b) a = sm (fun k => sm (fun x => f x k) a) b
 | 0 => by simp only [sm]; rw [ycd]; omega
 | b + 1 => by simp only [sm]; rw [← ynx f a b, ye1]
theorem yrd {f : Nat -> Int} {a : Nat} : ∀ {n : Nat}, a < n -> (∀ x, x < n -> x ≠ a -> f x = 0) -> sm f n = f a
 | n + 1, ha, h => by
   simp only [sm]
   by_cases e : a = n
   ·subst e
    rw [ya9 (g := fun _ => 0) fun x hx => h x (by omega) (by omega), ycd]; omega
   ·rw [yrd (n := n) (by omega) fun x hx hne => h x (by omega) hne, h n (by omega) (by omega)]; omega
end Go.Proofs.YtebdkebfkpbmpaaGreatDoor
namespace Go.Proofs.YtebdkebfkpbmpaaGreatDoor
set_option linter.unusedSimpArgs false
set_option linter.unusedVariables false
theorem y8n {k i : Nat} (h : k < 2 ^ i) : chB k i = false := by unfold chB; rw [Nat.div_eq_of_lt h]; rfl
theorem y6i {k i c : Nat} (hc : c < i) : chB (2 ^ i + k) c = chB k c := by
 unfold chB
 obtain ⟨d, rfl⟩ : ∃ d, i = c + (d + 1) := ⟨i - c - 1, by omega⟩
 rw [Nat.pow_add, Nat.mul_add_div (Nat.pow_pos (by omega)), Nat.pow_succ]
 congr 1; omega
theorem y6j {k i : Nat} (h : k < 2 ^ i) : chB (2 ^ i + k) i = true := by
 unfold chB
 have := Nat.mul_add_div (m := 2 ^ i) (Nat.pow_pos (by omega)) 1 k
 rw [Nat.mul_one, Nat.div_eq_of_lt h] at this
 rw [this]; rfl
theorem ymy {b : Bool} {ch ch' : Nat -> Bool} : ∀ {n : Nat}, (∀ c, c < n -> ch c = ch' c) -> difS b ch n = difS b ch' n
 | 0, _ => rfl
 | n + 1, h => by simp only [difS]; rw [ymy fun c hc => h c (by omega), h n (by omega)]
end Go.Proofs.YtebdkebfkpbmpaaGreatDoor
