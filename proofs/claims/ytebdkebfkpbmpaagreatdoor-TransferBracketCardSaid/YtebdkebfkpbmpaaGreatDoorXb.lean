/- Plain: all paths and circles at a crossing are taken out. -/
import Derived.Test.YtebdkebfkpbmpaaGreatDoorXa
import Derived.Test.YtebdkebfkpbmpaaGreatDoorXd
namespace Go.Proofs.YtebdkebfkpbmpaaGreatDoor
set_option linter.unusedVariables false
set_option linter.unusedSimpArgs false
section
variable {n W : Nat} {mt b0 : Int -> Int} {arc : Nat -> Nat} {glue : Nat -> Int} {hv : Nat -> Int} (E : Emb n W mt b0 arc glue hv)
include E
omit E in
theorem Pst.le {b : Int -> Int} {sn : List Bool} {c : Nat} {ex dn : Nat -> Prop} (h : Pst n W mt b0 arc glue hv b sn c ex dn) : sn.count true <= W := by
 rw [← h.sl]; exact List.count_le_length
theorem Pst.path {c x : Nat} {dn : Nat -> Prop} (hx : x < W) (hgx : glue x < 0) (hdx : ¬ dn x) : ∀ (f : Nat) (b : Int -> Int) (sn : List Bool) (u : Nat), W < sn.count true + 2 * f -> u < W -> Pst n W mt b0 arc glue hv b sn c (fun v => v = x \/ v = arc u) dn -> b (hv (arc u)) = hv x ->
  ∃ ys e b' sn', Pth arc glue u ys e /\ e < W /\ glue e < 0 /\ Pst n W mt b0 arc glue hv b' sn' c (fun v => v = x \/ v = e) dn /\ b' (hv e) = hv x /\ sn' = ys.foldl (setP glue) sn /\ sn'.count true = sn.count true + 2 * ys.length /\ (∀ y ∈ ys, y < W /\ sn'.getD y false = true /\ sn'.getD (glue y).toNat false = true) /\ ∀ v, sn.getD v false = true -> sn'.getD v false = true
 | 0, b, sn, u, hf, hu, h, hb => by have := h.le; omega
 | f + 1, b, sn, u, hf, hu, h, hb => by
   have hy := E.nod.ar u hu
   have hxs : sn.getD x false = false := by
    cases hq : sn.getD x false with
    | false => rfl
    | true => have := (h.seen x hx hq).1; omega
   by_cases hg : 0 <= glue (arc u)
   ·obtain ⟨zW, ze, zg, zy⟩ := E.gW hy hg
    have hys : sn.getD (arc u) false = false := by
     cases hq : sn.getD (arc u) false with
     | false => rfl
     | true =>
       have h1 := (h.seen _ hy hq).2.2
       rw [hb] at h1
       have := E.inj _ _ hx zW h1
       rw [this, zg] at hgx
       omega
    have hxz : x ≠ (glue (arc u)).toNat := fun e => by rw [e, zg] at hgx; omega
    obtain ⟨s1, s2, s3, s4⟩ := h.step E hx hy hb hg hys hxz hxs hdx
    have hzs : sn.getD (glue (arc u)).toNat false = false := by
     cases hz : sn.getD (glue (arc u)).toNat false with
     | false => rfl
     | true =>
       have := (h.seen _ zW hz).2.1
       rw [zg] at this
       simp only [Int.toNat_natCast] at this
       rw [this] at hys; cases hys
    have hcnt := yh3 (glue := glue) (sn := sn) (y := arc u) (by rw [h.sl]; exact hy) (by rw [h.sl]; exact zW) zy hys hzs
    have hget := fun j => yk4 (glue := glue) (sn := sn) (y := arc u) (by rw [h.sl]; exact hy) (by rw [h.sl]; exact zW) j
    obtain ⟨ys, e, b', sn', p1, p2, p3, p4, p5, p6, p7, p8, p9⟩ := Pst.path hx hgx hdx f _ _ (glue (arc u)).toNat (by omega) zW s1 s4
    refine ⟨arc u :: ys, e, b', sn', .cons hg p1, p2, p3, p4, p5, by rw [List.foldl_cons]; exact p6, by rw [p7, hcnt, List.length_cons]; omega, fun y hyy => ?_, fun v hv' => p9 v (by rw [hget]; split <;> first | rfl | exact hv')⟩
    rcases List.mem_cons.1 hyy with rfl | hyy
    ·exact ⟨hy, p9 _ (by rw [hget, if_pos (.inl rfl)]), p9 _ (by rw [hget, if_pos (.inr rfl)])⟩
    ·exact p8 y hyy
   ·exact ⟨[], arc u, b, sn, .nil (by omega), hy, by omega, h, hb, rfl, by simp, (fun y hyy => by cases hyy), fun v hv' => hv'⟩
theorem Pth.back {u e : Nat} {ys : List Nat} (h : Pth arc glue u ys e) : u < W -> ∃ ws, ws.length = ys.length /\ (∀ w ∈ ws, ∃ y ∈ ys, w = (glue y).toNat) /\ ((glue u < 0 -> Pth arc glue e ws u) /\ (0 <= glue u -> ∀ zs x, Pth arc glue (glue u).toNat zs x -> Pth arc glue e (ws ++ u :: zs) x)) := by
 induction h with
 | @nil u hn =>
   intro hu
   have ha := E.nod.aa u hu
   refine ⟨[], rfl, (fun w hw => by cases hw), fun hgu => ?_, fun hgu zs x hz => ?_⟩
   ·have := Pth.nil (arc := arc) (glue := glue) (u := arc u) (by rw [ha]; exact hgu)
    rw [ha] at this; exact this
   ·have := Pth.cons (arc := arc) (glue := glue) (u := arc u) (ys := zs) (e := x) (by rw [ha]; exact hgu) (by rw [ha]; exact hz)
    rw [ha] at this; exact this
 | @cons u e ys hg k ih =>
   intro hu
   have hy := E.nod.ar u hu
   obtain ⟨zW, ze, zg, zy⟩ := E.gW hy hg
   have ha := E.nod.aa u hu
   obtain ⟨ws, h1, h2, h3, h4⟩ := ih zW
   have hgz : 0 <= glue (glue (arc u)).toNat := by rw [zg]; omega
   have hgz2 : (glue (glue (arc u)).toNat).toNat = arc u := by rw [zg]; simp
   refine ⟨ws ++ [(glue (arc u)).toNat], by simp [h1], fun w hw => ?_, fun hgu => ?_, fun hgu zs x hz => ?_⟩
   ·rcases List.mem_append.1 hw with hw | hw
    ·obtain ⟨y, q1, q2⟩ := h2 w hw
     exact ⟨y, List.mem_cons_of_mem _ q1, q2⟩
    ·simp only [List.mem_singleton] at hw
     exact ⟨arc u, List.mem_cons_self .., hw⟩
   ·refine h4 hgz [] u ?_
    rw [hgz2]
    have := Pth.nil (arc := arc) (glue := glue) (u := arc u) (by rw [ha]; exact hgu)
    rw [ha] at this; exact this
   ·rw [List.append_assoc]
    refine h4 hgz (u :: zs) x ?_
    rw [hgz2]
    have := Pth.cons (arc := arc) (glue := glue) (u := arc u) (ys := zs) (e := x) (by rw [ha]; exact hgu) (by rw [ha]; exact hz)
    rw [ha] at this; exact this
theorem ytz : ∀ k, k <= W -> ∃ b dn, Pst n W mt b0 arc glue hv b (endN W arc glue k) 0 (fun _ => False) dn /\ ∀ x, x < k -> glue x < 0 -> dn x
 | 0, _ => ⟨b0, fun _ => False, ⟨E.inv, fun _ _ _ => rfl, by simp [endN], fun x hx h => by simp [endN, List.getD_eq_getElem?_getD, List.getElem?_replicate] at h; split at h <;> simp_all, fun x hx _ _ _ => E.ba x hx, fun u h => h.elim, by simp [endN, List.count_replicate]⟩, fun x h => by omega⟩
 | k + 1, hk => by
   obtain ⟨b, dn, h, hd⟩ := ytz k (by omega)
   by_cases hg : 0 <= glue k
   ·have : endN W arc glue (k + 1) = endN W arc glue k := by simp only [endN]; rw [if_pos hg]
    rw [this]
    exact ⟨b, dn, h, fun x hx hx0 => by
     by_cases e : x = k
     ·subst e; omega
     ·exact hd x (by omega) hx0⟩
   ·have e1 : endN W arc glue (k + 1) = (pthN arc glue (W + 1) (endN W arc glue k) (arc k)).1 := by simp only [endN]; rw [if_neg hg]
    rw [e1]
    by_cases hdk : dn k
    ·obtain ⟨_, _, ys, e, g3, g4, _, _, g7⟩ := h.dne k hdk
     rw [yee g3 (W + 1) _ (by omega), you ys _ g7]
     exact ⟨b, dn, h, fun x hx hx0 => by
      by_cases e : x = k
      ·subst e; exact hdk
      ·exact hd x (by omega) hx0⟩
    ·have hks : (endN W arc glue k).getD k false = false := by
      cases hq : (endN W arc glue k).getD k false with
      | false => rfl
      | true => have := (h.seen k (by omega) hq).1; omega
     have hbk := h.org k (by omega) hks (fun h => h) hdk
     have hbk2 : b (hv (arc k)) = hv k := by rw [← hbk, h.inv.jj _ (E.rng k (by omega))]
     have hst : Pst n W mt b0 arc glue hv b (endN W arc glue k) 0 (fun v => v = k \/ v = arc k) dn := ⟨h.inv, h.off, h.sl, h.seen, fun x hx hs _ hd' => h.org x hx hs (fun h => h) hd', h.dne, h.cnt⟩
     obtain ⟨ys, e, b', sn', p1, p2, p3, p4, p5, p6, p7, p8, p9⟩ := Pst.path E (by omega) (by omega) hdk (W + 1) b _ k (by omega) (by omega) hst hbk2
     have hle := p4.le
     have hyl : ys.length <= W := by omega
     rw [yee p1 (W + 1) _ (by omega), ← p6]
     obtain ⟨ws, w1, w2, w3, _⟩ := Pth.back E p1 (by omega)
     have hbe : b' (hv k) = hv e := by rw [← p5, p4.inv.jj _ (E.rng e p2)]
     refine ⟨b', fun v => dn v \/ v = k \/ v = e, ⟨p4.inv, p4.off, p4.sl, p4.seen, fun x hx hs _ hd' => p4.org x hx hs (fun g => hd' (.inr g)) (fun g => hd' (.inl g)), fun u hu => ?_, p4.cnt⟩, fun x hx hx0 => ?_⟩
     ·rcases hu with hu | rfl | rfl
      ·obtain ⟨q1, q2, ys2, e2, q3, q4, q5, q6, q7⟩ := p4.dne u hu
       exact ⟨q1, q2, ys2, e2, q3, q4, .inl q5, q6, q7⟩
      ·exact ⟨by omega, by omega, ys, e, p1, hyl, .inr (.inr rfl), hbe, fun y hy => (p8 y hy).2⟩
      ·refine ⟨p2, p3, ws, k, w3 (by omega), by omega, .inr (.inl rfl), p5, fun w hw => ?_⟩
       obtain ⟨y, q1, q2⟩ := w2 w hw
       obtain ⟨r1, r2, r3⟩ := p8 y q1
       have hgy := (p4.seen y r1 r2).1
       obtain ⟨_, _, zg, _⟩ := E.gW r1 hgy
       rw [q2]
       refine ⟨r3, ?_⟩
       rw [zg]; simpa using r2
     ·by_cases e' : x = k
      ·exact .inr (.inl e')
      ·exact .inl (hd x (by omega) hx0)
end
end Go.Proofs.YtebdkebfkpbmpaaGreatDoor
namespace Go.Proofs.YtebdkebfkpbmpaaGreatDoor
set_option linter.unusedVariables false
set_option linter.unusedSimpArgs false
section
variable {n W : Nat} {mt b0 : Int -> Int} {arc : Nat -> Nat} {glue : Nat -> Int} {hv : Nat -> Int} (E : Emb n W mt b0 arc glue hv)
include E
theorem Pst.mate {b : Int -> Int} {sn : List Bool} {c : Nat} {ex dn : Nat -> Prop} (h : Pst n W mt b0 arc glue hv b sn c ex dn) {z : Nat} (hz : z < W) (hg : 0 <= glue z) (hs : sn.getD z false = false) : sn.getD (glue z).toNat false = false := by
 obtain ⟨zW, ze, zg, zy⟩ := E.gW hz hg
 cases hq : sn.getD (glue z).toNat false with
 | false => rfl
 | true =>
   have := (h.seen _ zW hq).2.1
   rw [zg] at this
   simp only [Int.toNat_natCast] at this
   rw [this] at hs; cases hs
theorem Pst.in' {b : Int -> Int} {sn : List Bool} {c : Nat} {ex dn : Nat -> Prop} (h : Pst n W mt b0 arc glue hv b sn c ex dn) (hdn : ∀ x, x < W -> glue x < 0 -> dn x) {g v : Nat} (hg : g < W) (hv' : v < W) (hgg : 0 <= glue g) (hgs : sn.getD g false = false) (hb : b (hv v) = hv g) : 0 <= glue v /\ sn.getD v false = false := by
 have hgl : 0 <= glue v := by
  rcases Int.lt_or_le (glue v) 0 with h1 | h1
  ·obtain ⟨_, _, ys, e, _, _, q5, q6, _⟩ := h.dne v (hdn v hv' h1)
   rw [hb] at q6
   have := E.inj _ _ hg (h.dne e q5).1 q6
   have := (h.dne e q5).2.1
   subst_vars
   omega
  ·exact h1
 refine ⟨hgl, ?_⟩
 cases hq : sn.getD v false with
 | false => rfl
 | true =>
   obtain ⟨s1, s2, s3⟩ := h.seen v hv' hq
   rw [hb] at s3
   have := E.inj _ _ hg (E.gW hv' hgl).1 s3
   rw [← this, hgs] at s2; cases s2
theorem Pst.cyc {c z0 P : Nat} {dn : Nat -> Prop} (hdn : ∀ x, x < W -> glue x < 0 -> dn x) (hz0 : z0 < W) (hP : P < W) (hPa : arc P = z0) : ∀ (f : Nat) (b : Int -> Int) (sn : List Bool) (z : Nat), W < sn.count true + 2 * f -> z < W -> Pst n W mt b0 arc glue hv b sn c (fun v => v = P \/ v = z) dn -> b (hv z) = hv P -> b (hv P) = hv z -> 0 <= glue z -> sn.getD z false = false -> 0 <= glue P -> sn.getD P false = false -> (z = z0 \/ sn.getD z0 false = true) ->
  ∃ zs b', Cyc arc glue sn z zs /\ Pst n W mt b0 arc glue hv b' (zs.foldl (setP glue) sn) (c + 1) (fun _ => False) dn /\ (zs.foldl (setP glue) sn).count true = sn.count true + 2 * zs.length /\ (∀ v, sn.getD v false = true -> (zs.foldl (setP glue) sn).getD v false = true) /\ (zs.foldl (setP glue) sn).getD z false = true
 | 0, b, sn, z, hf, hz, h, _, _, _, _, _, _, _ => by have := h.le; omega
 | f + 1, b, sn, z, hf, hz, h, hb1, hb2, hgz, hzs, hgP, hPs, hz00 => by
   obtain ⟨gW, ge, gg, gz⟩ := E.gW hz hgz
   have hgs := h.mate E hz hgz hzs
   have zl : z < sn.length := by rw [h.sl]; exact hz
   have gl : (glue z).toNat < sn.length := by rw [h.sl]; exact gW
   have hget := fun j => yk4 (glue := glue) zl gl j
   have hcnt := yh3 (glue := glue) zl gl gz hzs hgs
   have hzP : z ≠ P := fun e => h.inv.jf _ (E.rng z hz) (by rw [hb1, e])
   by_cases hcl : (glue z).toNat = P
   ·refine ⟨[z], b, .step hzs hgz ?_, ⟨h.inv, h.off, by simp only [List.foldl_cons, List.foldl_nil, yh1]; exact h.sl, fun x hx hs => ?_, fun x hx hs _ hd => ?_, fun u hd => ?_, ?_⟩, ?_, fun v hvv => ?_, ?_⟩
    ·rw [hcl, hPa]
     refine .stop ?_
     rw [hget]
     rcases hz00 with rfl | h0
     ·rw [if_pos (.inl rfl)]
     ·split <;> first | rfl | exact h0
    ·simp only [List.foldl_cons, List.foldl_nil] at hs ⊢
     rw [hget] at hs
     by_cases e1 : x = z
     ·rw [e1]; exact ⟨hgz, by rw [hget, if_pos (.inr rfl)], by rw [hb1, hcl]⟩
     ·by_cases e2 : x = (glue z).toNat
      ·rw [e2, gg]
       refine ⟨by omega, by rw [hget, if_pos (.inl (by omega))], ?_⟩
       rw [hcl, hb2]; simp
      ·rw [if_neg (by rintro (g | g) <;> omega)] at hs
       obtain ⟨s1, s2, s3⟩ := h.seen x hx hs
       exact ⟨s1, by rw [hget]; split <;> first | rfl | exact s2, s3⟩
    ·simp only [List.foldl_cons, List.foldl_nil] at hs
     rw [hget] at hs
     by_cases e1 : x = z \/ x = (glue z).toNat
     ·rw [if_pos e1] at hs; cases hs
     ·rw [if_neg e1] at hs
      exact h.org x hx hs (by rintro (e | e); exact e1 (.inr (e.trans hcl.symm)); exact e1 (.inl e)) hd
    ·obtain ⟨q1, q2, ys, e, q3, q4, q5, q6, q7⟩ := h.dne u hd
     refine ⟨q1, q2, ys, e, q3, q4, q5, q6, fun y hy => ?_⟩
     simp only [List.foldl_cons, List.foldl_nil]
     exact ⟨by rw [hget]; split <;> first | rfl | exact (q7 y hy).1, by rw [hget]; split <;> first | rfl | exact (q7 y hy).2⟩
    ·simp only [List.foldl_cons, List.foldl_nil]
     have := h.cnt
     omega
    ·simp only [List.foldl_cons, List.foldl_nil, List.length_cons, List.length_nil]; omega
    ·simp only [List.foldl_cons, List.foldl_nil]; rw [hget]; split <;> first | rfl | exact hvv
    ·simp only [List.foldl_cons, List.foldl_nil]; rw [hget, if_pos (.inl rfl)]
   ·have hPd : ¬ dn P := fun hd => by have := (h.dne P hd).2.1; omega
    obtain ⟨s1, s2, s3, s4⟩ := h.step E hP hz hb1 hgz hzs (fun e => hcl e.symm) hPs hPd
    have aW := E.nod.ar _ gW
    have hPs' : (setP glue sn z).getD P false = false := by rw [hget, if_neg (by rintro (g | g) <;> omega)]; exact hPs
    obtain ⟨t1, t2⟩ := s1.in' E hdn hP aW hgP hPs' s4
    obtain ⟨zs, b', p1, p2, p3, p4, p5⟩ := Pst.cyc hdn hz0 hP hPa f _ _ (arc (glue z).toNat) (by omega) aW s1 s4 s2 t1 t2 hgP hPs' (.inr (by
     rcases hz00 with rfl | h0
     ·rw [hget, if_pos (.inl rfl)]
     ·rw [hget]; split <;> first | rfl | exact h0))
    refine ⟨z :: zs, b', .step hzs hgz p1, by rw [List.foldl_cons]; exact p2, by rw [List.foldl_cons, p3, hcnt, List.length_cons]; omega, fun v hvv => ?_, ?_⟩
    ·rw [List.foldl_cons]; exact p4 v (by rw [hget]; split <;> first | rfl | exact hvv)
    ·rw [List.foldl_cons]; exact p4 z (by rw [hget, if_pos (.inl rfl)])
theorem Pst.round {b : Int -> Int} {sn : List Bool} {c z0 : Nat} {dn : Nat -> Prop} (h : Pst n W mt b0 arc glue hv b sn c (fun _ => False) dn) (hdn : ∀ x, x < W -> glue x < 0 -> dn x) (hz0 : z0 < W) (hg : 0 <= glue z0) (hs : sn.getD z0 false = false) :
  ∃ zs b', Cyc arc glue sn z0 zs /\ zs.length <= W /\ Pst n W mt b0 arc glue hv b' (zs.foldl (setP glue) sn) (c + 1) (fun _ => False) dn /\ (∀ v, sn.getD v false = true -> (zs.foldl (setP glue) sn).getD v false = true) /\ (zs.foldl (setP glue) sn).getD z0 false = true := by
 have hd0 : ¬ dn z0 := fun hd => by have := (h.dne z0 hd).2.1; omega
 have hb := h.org z0 hz0 hs (fun h => h) hd0
 have aW := E.nod.ar z0 hz0
 have hb2 : b (hv (arc z0)) = hv z0 := by rw [← hb, h.inv.jj _ (E.rng z0 hz0)]
 obtain ⟨t1, t2⟩ := h.in' E hdn hz0 aW hg hs hb2
 have hst : Pst n W mt b0 arc glue hv b sn c (fun v => v = arc z0 \/ v = z0) dn := ⟨h.inv, h.off, h.sl, h.seen, fun x hx hs _ hd' => h.org x hx hs (fun h => h) hd', h.dne, h.cnt⟩
 obtain ⟨zs, b', p1, p2, p3, p4, p5⟩ := Pst.cyc E hdn hz0 aW (E.nod.aa z0 hz0) (W + 1) b sn z0 (by omega) hz0 hst hb hb2 hg hs t1 t2 (.inl rfl)
 have := p2.le
 exact ⟨zs, b', p1, by omega, p2, p4, p5⟩
theorem yny {b1 : Int -> Int} {dn : Nat -> Prop} (h : Pst n W mt b0 arc glue hv b1 (endN W arc glue W) 0 (fun _ => False) dn) (hdn : ∀ x, x < W -> glue x < 0 -> dn x) : ∀ k, k <= W -> ∃ b, Pst n W mt b0 arc glue hv b (cirN W arc glue (endN W arc glue W) k).1 (cirN W arc glue (endN W arc glue W) k).2 (fun _ => False) dn /\ ∀ x, x < k -> 0 <= glue x -> (cirN W arc glue (endN W arc glue W) k).1.getD x false = true
 | 0, _ => ⟨b1, h, fun x hx => by omega⟩
 | k + 1, hk => by
   obtain ⟨b, h1, h2⟩ := yny h hdn k (by omega)
   have hst : cirN W arc glue (endN W arc glue W) (k + 1) = if glue k < 0 \/ (cirN W arc glue (endN W arc glue W) k).1.getD k false = true then cirN W arc glue (endN W arc glue W) k else (cycN arc glue (W + 1) (cirN W arc glue (endN W arc glue W) k).1 k, (cirN W arc glue (endN W arc glue W) k).2 + 1) := rfl
   by_cases hc : glue k < 0 \/ (cirN W arc glue (endN W arc glue W) k).1.getD k false = true
   ·rw [hst, if_pos hc]
    refine ⟨b, h1, fun x hx hg => ?_⟩
    by_cases e : x = k
    ·subst e
     rcases hc with hc | hc
     ·omega
     ·exact hc
    ·exact h2 x (by omega) hg
   ·rw [hst, if_neg hc]
    have hg : 0 <= glue k := by
     rcases Int.lt_or_le (glue k) 0 with g | g
     ·exact absurd (.inl g) hc
     ·exact g
    have hs : (cirN W arc glue (endN W arc glue W) k).1.getD k false = false := by
     cases hq : (cirN W arc glue (endN W arc glue W) k).1.getD k false with
     | false => rfl
     | true => exact absurd (.inr hq) hc
    obtain ⟨zs, b', p1, p2, p3, p4, p5⟩ := h1.round E hdn (by omega) hg hs
    rw [yqq p1 (W + 1) (by omega)]
    refine ⟨b', p3, fun x hx hgx => ?_⟩
    by_cases e : x = k
    ·subst e; exact p5
    ·exact p4 x (h2 x (by omega) hgx)
theorem ylc : ∃ b, Inv2 n mt b /\ (∀ h, InR n h -> (∀ x, x < W -> h ≠ hv x) -> b h = b0 h) /\ (∀ x, x < W -> 0 <= glue x -> b (hv x) = mt (hv x)) /\
  (∀ x, x < W -> glue x < 0 -> ∃ ys e, Pth arc glue x ys e /\ ys.length <= W /\ e < W /\ glue e < 0 /\ b (hv x) = hv e) /\
  (∀ k, k < W -> 0 <= glue k -> (cirN W arc glue (endN W arc glue W) k).1.getD k false = false -> ∃ zs, Cyc arc glue (cirN W arc glue (endN W arc glue W) k).1 k zs /\ zs.length <= W) /\
  ∃ g : Nat, 2 * ncl n mt b + 2 * (cirN W arc glue (endN W arc glue W) W).2 = 2 * ncl n mt b0 + g /\ g = (cirN W arc glue (endN W arc glue W) W).1.count true /\ ∀ x, x < W -> ((cirN W arc glue (endN W arc glue W) W).1.getD x false = true ↔ 0 <= glue x) := by
 obtain ⟨b1, dn, h, hd⟩ := ytz E W (Nat.le_refl _)
 obtain ⟨b, h1, h2⟩ := yny E h hd W (Nat.le_refl _)
 refine ⟨b, h1.inv, h1.off, fun x hx hg => ?_, fun x hx hg => ?_, fun k hk hg hs => ?_, _, h1.cnt, rfl, fun x hx => ⟨fun hs => (h1.seen x hx hs).1, fun hg => h2 x hx hg⟩⟩
 ·rw [(h1.seen x hx (h2 x hx hg)).2.2, E.mtg x hx hg]
 ·obtain ⟨q1, q2, ys, e, q3, q4, q5, q6, q7⟩ := h1.dne x (hd x hx hg)
  exact ⟨ys, e, q3, q4, (h1.dne e q5).1, (h1.dne e q5).2.1, q6⟩
 ·obtain ⟨b', k1, _⟩ := yny E h hd k (by omega)
  obtain ⟨zs, _, p1, p2, _⟩ := k1.round E hd hk hg hs
  exact ⟨zs, p1, p2⟩
end
end Go.Proofs.YtebdkebfkpbmpaaGreatDoor
namespace Go.Proofs.YtebdkebfkpbmpaaGreatDoor
set_option linter.unusedVariables false
set_option linter.unusedSimpArgs false
set_option linter.unusedSectionVars false
structure yd4 (m : List Int) (n : Nat) (P : List Nat) (ends : List Int) : Prop where
 nd : ends.Nodup
 mem : ∀ h : Int, h ∈ ends ↔ InR n h /\ (h / 4).toNat ∈ P /\ ¬ (m.getD h.toNat 0 / 4).toNat ∈ P
structure yb4 (T : List Nat) (E : Nat) : Prop where
 len : T.length = E
 rng : ∀ x, x < E -> T.getD x 0 < E
 inv : ∀ x, x < E -> T.getD (T.getD x 0) 0 = x
 ne : ∀ x, x < E -> T.getD x 0 ≠ x
def bST (m : List Int) (P : List Nat) (ends : List Int) (T : List Nat) (ch : Nat -> Bool) (h : Int) : Int :=
 match ndF ends ends.length h with
 | some x => ends.getD (T.getD x.toNat 0) 0
 | none => if (h / 4).toNat ∈ P then m.getD h.toNat 0 else jnB (ch (h / 4).toNat) h
theorem ynz (hs : List Int) (h : Int) : ∀ k x, ndF hs k h = some x -> 0 <= x /\ x < k /\ hs.getD x.toNat 0 = h
 | 0, x, e => by cases e
 | k + 1, x, e => by
   simp only [ndF] at e
   split at e
   ·rename_i e1; cases e; exact ⟨by omega, by omega, e1.symm⟩
   ·obtain ⟨h1, h2, h3⟩ := ynz hs h k x e; exact ⟨h1, by omega, h3⟩
theorem yld (hs : List Int) (h : Int) : ∀ k, ndF hs k h = none -> ∀ x, x < k -> hs.getD x 0 ≠ h
 | 0, _, x, hx => by omega
 | k + 1, e, x, hx => by
   simp only [ndF] at e
   split at e
   ·cases e
   ·rename_i e1
    by_cases hk : x = k
    ·rw [hk]; exact fun g => e1 g.symm
    ·exact yld hs h k e x (by omega)
theorem yyp (hs : List Int) (h : Int) : ∀ k, (∀ x, x < k -> hs.getD x 0 ≠ h) -> ndF hs k h = none
 | 0, _ => rfl
 | k + 1, hx => by
   simp only [ndF]
   rw [if_neg fun e => hx k (by omega) e.symm]
   exact yyp hs h k fun x h1 => hx x (by omega)
theorem yce {l : List Int} {h : Int} : h ∈ l ↔ ∃ x, x < l.length /\ l.getD x 0 = h := by
 rw [List.mem_iff_getElem]
 constructor
 ·rintro ⟨x, hx, e⟩; exact ⟨x, hx, by simp [List.getD_eq_getElem?_getD, hx, e]⟩
 ·rintro ⟨x, hx, e⟩; exact ⟨x, hx, by simpa [List.getD_eq_getElem?_getD, hx] using e⟩
theorem ygm {l : List Int} (h : l.Nodup) {x y : Nat} (hx : x < l.length) (hy : y < l.length) (e : l.getD x 0 = l.getD y 0) : x = y := by
 simp only [List.getD_eq_getElem?_getD, List.getElem?_eq_getElem hx, List.getElem?_eq_getElem hy, Option.getD_some] at e
 exact (List.getElem_inj h).1 e
theorem yyq {hs : List Int} (h : hs.Nodup) {x : Nat} (hx : x < hs.length) : ndF hs hs.length (hs.getD x 0) = some (x : Int) := by
 cases hq : ndF hs hs.length (hs.getD x 0) with
 | none => exact absurd rfl (yld hs _ _ hq x hx)
 | some y =>
   obtain ⟨h1, h2, h3⟩ := ynz hs _ _ _ hq
   have := ygm h (by omega) hx h3
   congr 1; omega
theorem y6k {hs : List Int} {h : Int} (hn : h ∉ hs) : ndF hs hs.length h = none := yyp hs h _ fun x hx e => hn (yce.2 ⟨x, hx, e⟩)
def jL (b : Bool) : List Int := if b then [3, 2, 1, 0] else [1, 0, 3, 2]
theorem y3z (b : Bool) {t : Nat} (ht : t < 4) : 0 <= (jL b).getD t 0 /\ (jL b).getD t 0 <= 3 /\ (jL b).getD ((jL b).getD t 0).toNat 0 = t /\ (jL b).getD t 0 ≠ t := by
 have : t = 0 \/ t = 1 \/ t = 2 \/ t = 3 := by omega
 rcases this with rfl | rfl | rfl | rfl <;> cases b <;> decide
theorem y95 (b : Bool) (c : Nat) {t : Nat} (ht : t < 4) : jnB b (4 * (c : Int) + t) = 4 * c + (jL b).getD t 0 := by
 obtain ⟨h0, h1, h2, h3, g0, g1, g2, g3⟩ := y3t c
 have e0 : ((4 * c : Nat) : Int) = 4 * (c : Int) + (0 : Nat) := by omega
 have e1 : ((4 * c + 1 : Nat) : Int) = 4 * (c : Int) + (1 : Nat) := by omega
 have e2 : ((4 * c + 2 : Nat) : Int) = 4 * (c : Int) + (2 : Nat) := by omega
 have e3 : ((4 * c + 3 : Nat) : Int) = 4 * (c : Int) + (3 : Nat) := by omega
 rw [e0] at h0 g0
 rw [e1] at h1 g1
 rw [e2] at h2 g2
 rw [e3] at h3 g3
 have : t = 0 \/ t = 1 \/ t = 2 \/ t = 3 := by omega
 rcases this with rfl | rfl | rfl | rfl <;> cases b
 ·rw [g0]; simp [jL]
 ·rw [h0]; simp [jL]
 ·rw [g1]; simp [jL]
 ·rw [h1]; simp [jL]
 ·rw [g2]; simp [jL]
 ·rw [h2]; simp [jL]
 ·rw [g3]; simp [jL]
 ·rw [h3]; simp [jL]
def arN (cnt : Nat) (T : List Nat) (b : Bool) (x : Nat) : Nat := if x < cnt then T.getD x 0 else cnt + ((jL b).getD (x - cnt) 0).toNat
abbrev gluL (m ends : List Int) (c : Nat) : List Int := rowK (glS (hvL ends c) m) (ends.length + 4) (ends.length + 4)
abbrev idxL (m ends : List Int) (c : Nat) : List Int := rowK (idS (hvL ends c) m) (ends.length + 4) (ends.length + 4)
abbrev endL (m ends : List Int) (c : Nat) : List Int := endS (hvL ends c) m (ends.length + 4)
theorem yt0 {ends : List Int} (c : Int) {x : Nat} (hx : x < ends.length) : (hvL ends c).getD x 0 = ends.getD x 0 := by
 simp only [hvL, List.getD_eq_getElem?_getD, List.getElem?_append_left hx]
theorem yt1 (ends : List Int) (c : Int) {t : Nat} (ht : t < 4) : (hvL ends c).getD (ends.length + t) 0 = 4 * c + t := by
 simp only [hvL, List.getD_eq_getElem?_getD, List.getElem?_append_right (Nat.le_add_right _ _), Nat.add_sub_cancel_left]
 have : t = 0 \/ t = 1 \/ t = 2 \/ t = 3 := by omega
 rcases this with rfl | rfl | rfl | rfl <;> simp
section
variable {m : List Int} {n : Nat} {P : List Nat} {ends : List Int} {c : Nat} (hp : PmOk m n) (he : yd4 m n P ends) (hc : c < n) (hcP : c ∉ P)
include he
theorem yd4.at {x : Nat} (hx : x < ends.length) : InR n (ends.getD x 0) /\ (ends.getD x 0 / 4).toNat ∈ P /\ ¬ (m.getD (ends.getD x 0).toNat 0 / 4).toNat ∈ P := (he.mem _).1 (yce.2 ⟨x, hx, rfl⟩)
include hc hcP
theorem yv6 : (hvL ends c).Nodup := by
 unfold hvL
 rw [List.nodup_append]
 refine ⟨he.nd, by simp; omega, fun x hx y hy e => ?_⟩
 subst e
 have := ((he.mem x).1 hx).2.1
 have h4 : (x / 4).toNat = c := by
  simp only [List.mem_cons, List.not_mem_nil, or_false] at hy
  omega
 rw [h4] at this
 exact hcP this
theorem yi0 (h : Int) : h ∈ hvL ends c ↔ h ∈ ends \/ (0 <= h /\ h / 4 = c) := by
 unfold hvL
 simp only [List.mem_append, List.mem_cons, List.not_mem_nil, or_false]
 constructor
 ·rintro (h1 | h1)
  ·exact .inl h1
  ·right; omega
 ·rintro (h1 | ⟨h1, h2⟩)
  ·exact .inl h1
  ·right; omega
theorem yf3 {x : Nat} (hx : x < ends.length + 4) : InR n ((hvL ends c).getD x 0) /\ ((hvL ends c).getD x 0 / 4).toNat ∈ c :: P := by
 have hm : (hvL ends c).getD x 0 ∈ hvL ends c := yce.2 ⟨x, by rw [yb8]; exact hx, rfl⟩
 rcases (yi0 he hc hcP _).1 hm with h1 | ⟨h1, h2⟩
 ·obtain ⟨g1, g2, _⟩ := (he.mem _).1 h1
  exact ⟨g1, List.mem_cons_of_mem _ g2⟩
 ·exact ⟨⟨h1, by omega⟩, by rw [h2]; simp⟩
include hp
theorem yfn {x : Nat} (hx : x < ends.length + 4) {y : Int} (h : glO (hvL ends c) m x = some y) : 0 <= y /\ y < ends.length + 4 /\ (hvL ends c).getD y.toNat 0 = m.getD ((hvL ends c).getD x 0).toNat 0 := by
 unfold glO at h
 rw [yb8] at h
 have := ynz _ _ _ _ h
 exact ⟨this.1, by omega, this.2.2⟩
theorem y6l {x : Nat} (hx : x < ends.length + 4) (h : glO (hvL ends c) m x = none) : m.getD ((hvL ends c).getD x 0).toNat 0 ∉ hvL ends c := by
 unfold glO at h
 intro hm
 obtain ⟨y, hy, e⟩ := yce.1 hm
 exact yld _ _ _ h y hy e
theorem y8o {x y : Nat} (hx : x < ends.length + 4) (h : glO (hvL ends c) m x = some (y : Int)) : glO (hvL ends c) m y = some (x : Int) := by
 obtain ⟨h1, h2, h3⟩ := yfn hp he hc hcP hx h
 rw [Int.toNat_natCast] at h3
 have hr := (yf3 he hc hcP hx).1
 unfold InR at hr
 have := hp.inv ((hvL ends c).getD x 0).toNat (by omega)
 unfold glO
 rw [h3, this, Int.toNat_of_nonneg hr.1]
 exact yyq (yv6 he hc hcP) (by rw [yb8]; exact hx)
theorem yjt {x : Nat} (hx : x < ends.length + 4) : (gluL m ends c).getD x 0 = glS (hvL ends c) m x := yqu _ _ _ hx
theorem yeh {x : Nat} (hx : x < ends.length + 4) : (gluL m ends c).getD x 0 < 0 ↔ glO (hvL ends c) m x = none := by
 rw [yjt hp he hc hcP hx]
 unfold glS
 cases hq : glO (hvL ends c) m x with
 | none => simp
 | some y => have := yfn hp he hc hcP hx hq; simp; omega
theorem yg4 {x : Nat} (hx : x < ends.length + 4) (h : 0 <= (gluL m ends c).getD x 0) : ∃ y : Nat, y < ends.length + 4 /\ (gluL m ends c).getD x 0 = y /\ glO (hvL ends c) m x = some (y : Int) := by
 rw [yjt hp he hc hcP hx] at h ⊢
 unfold glS at h ⊢
 cases hq : glO (hvL ends c) m x with
 | none => rw [hq] at h; simp at h
 | some y =>
   have := yfn hp he hc hcP hx hq
   exact ⟨y.toNat, by omega, by simp; omega, by congr 1; omega⟩
end
section
variable {m : List Int} {n : Nat} {P : List Nat} {ends : List Int} {c : Nat} {T : List Nat} (hp : PmOk m n) (he : yd4 m n P ends) (hT : yb4 T ends.length)
include hp he hT
theorem yju (ch : Nat -> Bool) {x : Nat} (hx : x < ends.length) : bST m P ends T ch (ends.getD x 0) = ends.getD (T.getD x 0) 0 := by
 unfold bST
 rw [yyq he.nd hx]; simp
theorem yei (ch : Nat -> Bool) {h : Int} (hn : h ∉ ends) : bST m P ends T ch h = if (h / 4).toNat ∈ P then m.getD h.toNat 0 else jnB (ch (h / 4).toNat) h := by
 unfold bST
 rw [y6k hn]
theorem yn0 (ch : Nat -> Bool) : Inv2 n (fun x => m.getD x.toNat 0) (bST m P ends T ch) := by
 have hi := ydj hp.ok hp.inv hp.ne ch
 have key : ∀ x, InR n x -> InR n (bST m P ends T ch x) /\ bST m P ends T ch (bST m P ends T ch x) = x /\ bST m P ends T ch x ≠ x := by
  intro x hx
  by_cases hm : x ∈ ends
  ·obtain ⟨k, hk, rfl⟩ := yce.1 hm
   rw [yju hp he hT ch hk, yju hp he hT ch (hT.rng k hk), hT.inv k hk]
   exact ⟨(he.at (hT.rng k hk)).1, rfl, fun e => hT.ne k hk (ygm he.nd (hT.rng k hk) hk e)⟩
  ·rw [yei hp he hT ch hm]
   by_cases hP : (x / 4).toNat ∈ P
   ·rw [if_pos hP]
    have h1 : (m.getD x.toNat 0 / 4).toNat ∈ P := by
     rcases Classical.em ((m.getD x.toNat 0 / 4).toNat ∈ P) with h | h
     ·exact h
     ·exact absurd ((he.mem x).2 ⟨hx, hP, h⟩) hm
    have hxm : m.getD (m.getD x.toNat 0).toNat 0 = x := hi.mm x hx
    have hne : m.getD x.toNat 0 ≠ x := hi.mf x hx
    have hr : InR n (m.getD x.toNat 0) := hi.mr x hx
    refine ⟨hr, ?_, hne⟩
    have h2 : m.getD x.toNat 0 ∉ ends := fun h => by
     have := ((he.mem _).1 h).2.2
     rw [hxm] at this
     exact this hP
    rw [yei hp he hT ch h2, if_pos h1, hxm]
   ·rw [if_neg hP]
    have hr : InR n (jnB (ch (x / 4).toNat) x) := hi.jr x hx
    have hd := yed (ch (x / 4).toNat) x
    refine ⟨hr, ?_, yml _ x⟩
    have h2 : jnB (ch (x / 4).toNat) x ∉ ends := fun h => by
     have := ((he.mem _).1 h).2.1
     rw [hd] at this
     exact hP this
    rw [yei hp he hT ch h2, hd, if_neg hP]
    exact yjj _ x
 exact ⟨hi.mr, fun x hx => (key x hx).1, hi.mm, fun x hx => (key x hx).2.1, hi.mf, fun x hx => (key x hx).2.2⟩
variable (hc : c < n) (hcP : c ∉ P)
include hc hcP
theorem yjv (ch : Nat -> Bool) : Emb n (ends.length + 4) (fun x => m.getD x.toNat 0) (bST m P ends T ch) (arN ends.length T (ch c)) (fun x => (gluL m ends c).getD x 0) (fun x => (hvL ends c).getD x 0) := by
 have har : ∀ x, x < ends.length + 4 -> arN ends.length T (ch c) x < ends.length + 4 /\ arN ends.length T (ch c) (arN ends.length T (ch c) x) = x /\ arN ends.length T (ch c) x ≠ x := by
  intro x hx
  unfold arN
  by_cases h : x < ends.length
  ·have h1 := hT.rng x h
   rw [if_pos h, if_pos h1]
   exact ⟨by omega, hT.inv x h, hT.ne x h⟩
  ·have j := y3z (ch c) (t := x - ends.length) (by omega)
   rw [if_neg h, if_neg (by omega)]
   rw [Nat.add_sub_cancel_left]
   refine ⟨by omega, by omega, by omega⟩
 refine ⟨⟨fun x hx => (har x hx).1, fun x hx => (har x hx).2.1, fun x hx => (har x hx).2.2, fun x hx h => ?_, fun x hx h => ?_, fun x hx e => ?_⟩, yn0 hp he hT ch, fun x y hx hy e => ygm (yv6 he hc hcP) (by rw [yb8]; exact hx) (by rw [yb8]; exact hy) e, fun x hx => (yf3 he hc hcP hx).1, fun x hx h => ?_, fun x hx => ?_⟩
 ·obtain ⟨y, hy, e, _⟩ := yg4 hp he hc hcP hx h
  rw [e]; omega
 ·obtain ⟨y, hy, e, e2⟩ := yg4 hp he hc hcP hx h
  rw [e, Int.toNat_natCast, yjt hp he hc hcP hy]
  unfold glS
  rw [y8o hp he hc hcP hx e2]; rfl
 ·obtain ⟨y, hy, e1, e2⟩ := yg4 hp he hc hcP hx (by omega)
  rw [e1] at e
  have : y = x := by omega
  subst this
  have h3 := (yfn hp he hc hcP hx e2).2.2
  have hr := (yf3 he hc hcP hx).1
  unfold InR at hr
  have := hp.ne ((hvL ends c).getD y 0).toNat (by omega)
  rw [Int.toNat_natCast] at h3
  omega
 ·obtain ⟨y, hy, e1, e2⟩ := yg4 hp he hc hcP hx h
  rw [e1]
  exact (yfn hp he hc hcP hx e2).2.2.symm
 ·unfold arN
  by_cases h : x < ends.length
  ·rw [if_pos h, yt0 _ h, yt0 _ (hT.rng x h), yju hp he hT ch h]
  ·obtain ⟨t, rfl⟩ : ∃ t, x = ends.length + t := ⟨x - ends.length, by omega⟩
   have ht : t < 4 := by omega
   have j := y3z (ch c) ht
   have e4 : ((4 * (c : Int) + t) / 4).toNat = c := by omega
   rw [if_neg h, Nat.add_sub_cancel_left, yt1 _ _ ht, yt1 _ _ (by omega)]
   have hn : 4 * (c : Int) + t ∉ ends := fun g => by
    have := ((he.mem _).1 g).2.1
    rw [e4] at this
    exact hcP this
   rw [yei hp he hT ch hn, e4, if_neg hcP, y95 _ _ ht]
   omega
end
end Go.Proofs.YtebdkebfkpbmpaaGreatDoor
namespace Go.Proofs.YtebdkebfkpbmpaaGreatDoor
set_option linter.unusedVariables false
set_option linter.unusedSimpArgs false
set_option linter.unusedSectionVars false
theorem yre (hs m : List Int) (j : Nat) : ∀ d, ∃ r, endS hs m (j + d) = endS hs m j ++ r
 | 0 => ⟨[], by simp⟩
 | d + 1 => by
   obtain ⟨r, h⟩ := yre hs m j d
   rw [← Nat.add_assoc]
   simp only [endS]
   split
   ·exact ⟨r, h⟩
   ·exact ⟨r ++ [hs.getD (j + d) 0], by rw [h, List.append_assoc]⟩
theorem yb0 {hs m : List Int} {x k : Nat} (hx : x < k) (h : glO hs m x = none) : (endS hs m x).length < (endS hs m k).length /\ (endS hs m k).getD (endS hs m x).length 0 = hs.getD x 0 := by
 obtain ⟨d, rfl⟩ : ∃ d, k = x + 1 + d := ⟨k - x - 1, by omega⟩
 obtain ⟨r, e⟩ := yre hs m (x + 1) d
 have e1 : endS hs m (x + 1) = endS hs m x ++ [hs.getD x 0] := by simp only [endS]; rw [h]; rfl
 rw [e, e1]
 refine ⟨by simp only [List.length_append, List.length_cons, List.length_nil]; omega, ?_⟩
 simp [List.getD_eq_getElem?_getD]
theorem ydl {hs m : List Int} : ∀ (k j : Nat), j < (endS hs m k).length -> ∃ x, x < k /\ glO hs m x = none /\ (endS hs m x).length = j
 | 0, j, h => by simp [endS] at h
 | k + 1, j, h => by
   simp only [endS] at h
   split at h
   ·obtain ⟨x, h1, h2⟩ := ydl k j h
    exact ⟨x, by omega, h2⟩
   ·rename_i hg
    by_cases hj : j < (endS hs m k).length
    ·obtain ⟨x, h1, h2⟩ := ydl k j hj
     exact ⟨x, by omega, h2⟩
    ·refine ⟨k, by omega, by simpa using hg, ?_⟩
     simp only [List.length_append, List.length_cons, List.length_nil] at h
     omega
theorem yle {hs m : List Int} {x y : Nat} (hx : glO hs m x = none) (hy : glO hs m y = none) (h : (endS hs m x).length = (endS hs m y).length) : x = y := by
 rcases Nat.lt_trichotomy x y with h1 | h1 | h1
 ·have := (yb0 h1 hx).1; omega
 ·exact h1
 ·have := (yb0 h1 hy).1; omega
theorem yrf {hs m : List Int} {l : List Bool} : ∀ k, k <= l.length -> (∀ x, x < k -> (l.getD x false = true ↔ glO hs m x ≠ none)) -> (endS hs m k).length + (l.take k).count true = k
 | 0, _, _ => by simp [endS]
 | k + 1, hk, h => by
   have ih := yrf (l := l) k (by omega) fun x hx => h x (by omega)
   have hkl : k < l.length := by omega
   have h1 := h k (by omega)
   rw [List.take_add_one, List.getElem?_eq_getElem hkl, List.count_append]
   simp only [List.getD_eq_getElem?_getD, List.getElem?_eq_getElem hkl, Option.getD_some] at h1
   simp only [endS]
   cases hq : glO hs m k with
   | none =>
     rw [hq] at h1
     have : l[k] = false := by cases h2 : l[k] with
      | false => rfl
      | true => exact absurd rfl (h1.1 h2)
     simp [this]; omega
   | some y =>
     rw [hq] at h1
     have : l[k] = true := h1.2 (by simp)
     simp [this]; omega
theorem y2g {l : List Int} (h : ∀ i j, i < l.length -> j < l.length -> l.getD i 0 = l.getD j 0 -> i = j) : l.Nodup := by
 unfold List.Nodup
 rw [List.pairwise_iff_getElem]
 intro i j hi hj hij e
 have := h i j hi hj (by simp [List.getD_eq_getElem?_getD, hi, hj, e])
 omega
theorem yrg {n : Nat} {mt b b' : Int -> Int} (hi : Inv2 n mt b) (h : ∀ x, InR n x -> b x = b' x) {x y : Int} (hx : InR n x) (hc : Cir mt b x y) : Cir mt b' x y := by
 induction hc with
 | refl => exact .refl _
 | mate _ ih => exact .mate ih
 | @join y hc ih => rw [h y (hc.rng hi hx)]; exact .join ih
theorem yyr {n : Nat} {mt b b' : Int -> Int} (hi : Inv2 n mt b) (hi' : Inv2 n mt b') (h : ∀ x, InR n x -> b x = b' x) : ncl n mt b = ncl n mt b' := by
 have h1 := ygj hi'
 exact yf0 (ygj hi) ⟨h1.rep, fun x y hx hy => (h1.iff x y hx hy).trans ⟨yrg hi' (fun z hz => (h z hz).symm) (by unfold InR; omega), yrg hi h (by unfold InR; omega)⟩⟩
theorem yrh {arc : Nat -> Nat} {glue index : Nat -> Int} {W E : Nat} {en : Nat -> Nat} : ∀ k, (∀ x, x < k -> 0 <= index x -> (pthN arc glue (W + 1) [] (arc x)).2 = en x) -> (∀ x y, x < k -> y < k -> 0 <= index x -> index x = index y -> x = y) ->
  ∀ x, x < k -> 0 <= index x -> (index x).toNat < E -> (txN arc glue index W E k).getD (index x).toNat 0 = 97 + index (en x)
 | 0, _, _, x, hx, _, _ => by omega
 | k + 1, h1, h2, x, hx, h0, hE => by
   have ih := yrh (E := E) k (fun x hx => h1 x (by omega)) (fun x y hx hy => h2 x y (by omega) (by omega))
   simp only [txN]
   split
   ·rename_i hk
    have : x ≠ k := fun e => by rw [e] at h0; omega
    exact ih x (by omega) h0 hE
   ·rename_i hk
    by_cases e : x = k
    ·subst e
     rw [List.getD_eq_getElem?_getD, List.getElem?_set, if_pos rfl, if_pos (by rw [yef]; exact hE), h1 x (by omega) h0]; rfl
    ·have hne : (index k).toNat ≠ (index x).toNat := fun e2 => e (h2 x k hx (by omega) h0 (by omega))
     rw [List.getD_eq_getElem?_getD, List.getElem?_set, if_neg hne, ← List.getD_eq_getElem?_getD]
     exact ih x (by omega) h0 hE
theorem yow {W : Nat} {arc : Nat -> Nat} {glue : Nat -> Int} : ∀ k, (∀ x, x < k -> 0 <= glue x) -> endN W arc glue k = List.replicate W false
 | 0, _ => rfl
 | k + 1, h => by simp only [endN]; rw [if_pos (h k (by omega))]; exact yow k fun x hx => h x (by omega)
theorem yri {W : Nat} {arc : Nat -> Nat} {glue : Nat -> Int} (h0 : 0 <= glue 0) : ∀ k, 1 <= (cirN W arc glue (List.replicate W false) (k + 1)).2
 | 0 => by
   have hc : ¬ (glue 0 < 0 \/ (cirN W arc glue (List.replicate W false) 0).1.getD 0 false = true) := by
    rintro (h | h)
    ·omega
    ·simp only [cirN] at h
     by_cases hW : 0 < W <;> simp [List.getD_eq_getElem?_getD, hW] at h
   rw [cirN, if_neg hc]
   exact Nat.le_add_left _ _
 | k + 1 => by
   have ih := yri (W := W) (arc := arc) h0 k
   rw [cirN]
   split
   ·exact ih
   ·omega
section
variable {m : List Int} {n : Nat} {P : List Nat} {ends : List Int} {c : Nat} (hp : PmOk m n) (he : yd4 m n P ends) (hc : c < n) (hcP : c ∉ P)
include hp he hc hcP
theorem yjw (h : Int) : h ∈ endL m ends c ↔ ∃ x, x < ends.length + 4 /\ glO (hvL ends c) m x = none /\ h = (hvL ends c).getD x 0 := by
 rw [yce]
 constructor
 ·rintro ⟨j, hj, rfl⟩
  obtain ⟨x, hx, gx, rfl⟩ := ydl _ j hj
  exact ⟨x, hx, gx, (yb0 hx gx).2⟩
 ·rintro ⟨x, hx, gx, rfl⟩
  exact ⟨_, (yb0 hx gx).1, (yb0 hx gx).2⟩
theorem y30 {h : Int} (h1 : InR n h) (h2 : (h / 4).toNat ∈ c :: P) (h3 : ¬ (m.getD h.toNat 0 / 4).toNat ∈ P \/ h / 4 = c) : h ∈ hvL ends c := by
 rw [yi0 he hc hcP]
 unfold InR at h1
 rcases List.mem_cons.1 h2 with e | e
 ·right; exact ⟨h1.1, by omega⟩
 ·rcases h3 with h3 | h3
  ·left; exact (he.mem h).2 ⟨by unfold InR; omega, e, h3⟩
  ·right; exact ⟨h1.1, h3⟩
theorem yys : yd4 m n (c :: P) (endL m ends c) := by
 have hi := ydj hp.ok hp.inv hp.ne (fun _ => false)
 refine ⟨y2g fun i j hi hj e => ?_, fun h => ?_⟩
 ·obtain ⟨x, hx, gx, rfl⟩ := ydl _ i hi
  obtain ⟨y, hy, gy, rfl⟩ := ydl _ j hj
  rw [(yb0 hx gx).2, (yb0 hy gy).2] at e
  rw [ygm (yv6 he hc hcP) (by rw [yb8]; exact hx) (by rw [yb8]; exact hy) e]
 ·rw [yjw hp he hc hcP]
  constructor
  ·rintro ⟨x, hx, gx, rfl⟩
   obtain ⟨h1, h2⟩ := yf3 he hc hcP hx
   refine ⟨h1, h2, fun h3 => ?_⟩
   have h4 := y6l hp he hc hcP hx gx
   have hr : InR n (m.getD ((hvL ends c).getD x 0).toNat 0) := hi.mr _ h1
   have hmm : m.getD (m.getD ((hvL ends c).getD x 0).toNat 0).toNat 0 = (hvL ends c).getD x 0 := hi.mm _ h1
   refine h4 (y30 hp he hc hcP hr h3 ?_)
   rw [hmm]
   by_cases h5 : ((hvL ends c).getD x 0 / 4).toNat ∈ P
   ·right
    have hm : (hvL ends c).getD x 0 ∈ hvL ends c := yce.2 ⟨x, by rw [yb8]; exact hx, rfl⟩
    rcases (yi0 he hc hcP _).1 hm with h6 | ⟨h6, h7⟩
    ·have h8 := ((he.mem _).1 h6).2.2
     rcases List.mem_cons.1 h3 with e | e
     ·unfold InR at hr; omega
     ·exact absurd e h8
    ·rw [h7] at h5; exact absurd h5 hcP
   ·exact .inl h5
  ·rintro ⟨h1, h2, h3⟩
   have hm : h ∈ hvL ends c := y30 hp he hc hcP h1 h2 (.inl fun g => h3 (List.mem_cons_of_mem _ g))
   obtain ⟨x, hx, rfl⟩ := yce.1 hm
   rw [yb8] at hx
   refine ⟨x, hx, ?_, rfl⟩
   cases hq : glO (hvL ends c) m x with
   | none => rfl
   | some y =>
     obtain ⟨g1, g2, g3⟩ := yfn hp he hc hcP hx hq
     have := (yf3 he hc hcP (x := y.toNat) (by omega)).2
     rw [g3] at this
     exact absurd this h3
theorem yrj {x : Nat} (hx : x < ends.length + 4) : (idxL m ends c).getD x 0 = if (glO (hvL ends c) m x).isSome then -1 else ((endS (hvL ends c) m x).length : Int) := yqu _ _ _ hx
theorem ycs {x : Nat} (hx : x < ends.length + 4) (h : glO (hvL ends c) m x = none) : (idxL m ends c).getD x 0 = (endS (hvL ends c) m x).length := by rw [yrj hp he hc hcP hx, h]; rfl
theorem yt2 {x : Nat} (hx : x < ends.length + 4) : (idxL m ends c).getD x 0 < 0 ↔ glO (hvL ends c) m x ≠ none := by
 rw [yrj hp he hc hcP hx]
 cases glO (hvL ends c) m x <;> simp
theorem yt3 : (endL m ends c).length <= ends.length + 4 := yk5 _ _ _
end
def nxT (m ends : List Int) (c : Nat) (T : List Nat) (b : Bool) : List Nat :=
 (txN (arN ends.length T b) (fun x => (gluL m ends c).getD x 0) (fun x => (idxL m ends c).getD x 0) (ends.length + 4) (endL m ends c).length (ends.length + 4)).map fun t => (t - 97).toNat
def ccN (m ends : List Int) (c : Nat) (T : List Nat) (b : Bool) : Nat :=
 (cirN (ends.length + 4) (arN ends.length T b) (fun x => (gluL m ends c).getD x 0) (endN (ends.length + 4) (arN ends.length T b) (fun x => (gluL m ends c).getD x 0) (ends.length + 4)) (ends.length + 4)).2
theorem yi1 (m ends : List Int) (c : Nat) (T : List Nat) (b : Bool) : ccN m ends c T b <= ends.length + 4 := yno _ _ _ _ _
theorem y6m (m ends : List Int) (c : Nat) (T : List Nat) (b : Bool) : (nxT m ends c T b).length = (endL m ends c).length := by unfold nxT; rw [List.length_map, yef]
section
variable {m : List Int} {n : Nat} {P : List Nat} {ends : List Int} {c : Nat} {T : List Nat} (hp : PmOk m n) (he : yd4 m n P ends) (hT : yb4 T ends.length) (hc : c < n) (hcP : c ∉ P)
include hp he hT hc hcP
theorem yyt (ch : Nat -> Bool) : (∀ k, k < ends.length + 4 -> (gluL m ends c).getD k 0 < 0 -> ∃ ys e, Pth (arN ends.length T (ch c)) (fun x => (gluL m ends c).getD x 0) k ys e /\ ys.length <= ends.length + 4) /\
  (∀ k, k < ends.length + 4 -> 0 <= (gluL m ends c).getD k 0 -> (cirN (ends.length + 4) (arN ends.length T (ch c)) (fun x => (gluL m ends c).getD x 0) (endN (ends.length + 4) (arN ends.length T (ch c)) (fun x => (gluL m ends c).getD x 0) (ends.length + 4)) k).1.getD k false = false ->
   ∃ zs, Cyc (arN ends.length T (ch c)) (fun x => (gluL m ends c).getD x 0) (cirN (ends.length + 4) (arN ends.length T (ch c)) (fun x => (gluL m ends c).getD x 0) (endN (ends.length + 4) (arN ends.length T (ch c)) (fun x => (gluL m ends c).getD x 0) (ends.length + 4)) k).1 k zs /\ zs.length <= ends.length + 4) := by
 obtain ⟨b, _, _, _, h4, h5, _⟩ := ylc (yjv hp he hT hc hcP ch)
 exact ⟨fun k hk hg => let ⟨ys, e, q1, q2, _⟩ := h4 k hk hg; ⟨ys, e, q1, q2⟩, h5⟩
theorem y96 (b : Bool) (j : Nat) (hj : j < (endL m ends c).length) : 97 <= (txN (arN ends.length T b) (fun x => (gluL m ends c).getD x 0) (fun x => (idxL m ends c).getD x 0) (ends.length + 4) (endL m ends c).length (ends.length + 4)).getD j 0 := by
 obtain ⟨_, _, _, _, h4, _⟩ := ylc (yjv hp he hT hc hcP fun _ => b)
 obtain ⟨x, hx, hg, rfl⟩ := ydl _ j hj
 have hix0 : ∀ x, x < ends.length + 4 -> 0 <= (idxL m ends c).getD x 0 -> glO (hvL ends c) m x = none := fun x hx h0 => by
  cases hq : glO (hvL ends c) m x with
  | none => rfl
  | some y => have := (yt2 hp he hc hcP hx).2 (by rw [hq]; simp); omega
 obtain ⟨ys, e, q1, q2, q3, q4, q5⟩ := h4 x hx ((yeh hp he hc hcP hx).2 hg)
 have hi := ycs hp he hc hcP hx hg
 have he2 := ycs hp he hc hcP q3 ((yeh hp he hc hcP q3).1 q4)
 have := yrh (arc := arN ends.length T b) (glue := fun x => (gluL m ends c).getD x 0) (index := fun x => (idxL m ends c).getD x 0) (W := ends.length + 4) (E := (endL m ends c).length) (en := fun x => (pthN (arN ends.length T b) (fun x => (gluL m ends c).getD x 0) (ends.length + 4 + 1) [] (arN ends.length T b x)).2) (ends.length + 4) (fun _ _ _ => rfl) (fun x y hx hy h0 e => by
  have gx := hix0 x hx h0
  have gy := hix0 y hy (by omega)
  rw [ycs hp he hc hcP hx gx, ycs hp he hc hcP hy gy] at e
  exact yle gx gy (by omega)) x hx (by omega) (by rw [hi, Int.toNat_natCast]; exact hj)
 rw [yee q1 _ [] (by omega), hi, he2, Int.toNat_natCast] at this
 omega
theorem yct (ch : Nat -> Bool) : yb4 (nxT m ends c T (ch c)) (endL m ends c).length /\
  2 * ncl n (fun x => m.getD x.toNat 0) (bST m (c :: P) (endL m ends c) (nxT m ends c T (ch c)) ch) + 2 * ccN m ends c T (ch c) + (endL m ends c).length = 2 * ncl n (fun x => m.getD x.toNat 0) (bST m P ends T ch) + ends.length + 4 := by
 have E := yjv hp he hT hc hcP ch
 obtain ⟨b, h1, h2, h3, h4, _, g, h6, h7, h8⟩ := ylc E
 have he' := yys hp he hc hcP
 have hgn := fun {x : Nat} (hx : x < ends.length + 4) => yeh hp he hc hcP hx
 have hend : ∀ x, x < ends.length + 4 -> glO (hvL ends c) m x = none -> ∃ e, e < ends.length + 4 /\ glO (hvL ends c) m e = none /\ (pthN (arN ends.length T (ch c)) (fun x => (gluL m ends c).getD x 0) (ends.length + 4 + 1) [] (arN ends.length T (ch c) x)).2 = e /\ b ((hvL ends c).getD x 0) = (hvL ends c).getD e 0 := fun x hx hg => by
  obtain ⟨ys, e, q1, q2, q3, q4, q5⟩ := h4 x hx ((hgn hx).2 hg)
  exact ⟨e, q3, (hgn q3).1 q4, by rw [yee q1 _ [] (by omega)], q5⟩
 have hix0 : ∀ x, x < ends.length + 4 -> 0 <= (idxL m ends c).getD x 0 -> glO (hvL ends c) m x = none := fun x hx h0 => by
  cases hq : glO (hvL ends c) m x with
  | none => rfl
  | some y => have := (yt2 hp he hc hcP hx).2 (by rw [hq]; simp); omega
 have htx : ∀ x, x < ends.length + 4 -> glO (hvL ends c) m x = none -> ∃ e, e < ends.length + 4 /\ glO (hvL ends c) m e = none /\ b ((hvL ends c).getD x 0) = (hvL ends c).getD e 0 /\ (nxT m ends c T (ch c)).getD (endS (hvL ends c) m x).length 0 = (endS (hvL ends c) m e).length := fun x hx hg => by
  obtain ⟨e, q1, q2, q3, q4⟩ := hend x hx hg
  have hi := ycs hp he hc hcP hx hg
  have he2 := ycs hp he hc hcP q1 q2
  have hl := (yb0 hx hg).1
  refine ⟨e, q1, q2, q4, ?_⟩
  have := yrh (arc := arN ends.length T (ch c)) (glue := fun x => (gluL m ends c).getD x 0) (index := fun x => (idxL m ends c).getD x 0) (W := ends.length + 4) (E := (endL m ends c).length) (en := fun x => (pthN (arN ends.length T (ch c)) (fun x => (gluL m ends c).getD x 0) (ends.length + 4 + 1) [] (arN ends.length T (ch c) x)).2) (ends.length + 4) (fun _ _ _ => rfl) (fun x y hx hy h0 e => by
   have gx := hix0 x hx h0
   have gy := hix0 y hy (by omega)
   rw [ycs hp he hc hcP hx gx, ycs hp he hc hcP hy gy] at e
   exact yle gx gy (by omega)) x hx (by omega) (by rw [hi, Int.toNat_natCast]; exact hl)
  rw [q3, hi, he2, Int.toNat_natCast] at this
  unfold nxT
  rw [List.getD_eq_getElem?_getD, List.getElem?_map]
  rw [List.getD_eq_getElem?_getD] at this
  have hlt : (endS (hvL ends c) m x).length < (txN (arN ends.length T (ch c)) (fun x => (gluL m ends c).getD x 0) (fun x => (idxL m ends c).getD x 0) (ends.length + 4) (endL m ends c).length (ends.length + 4)).length := by rw [yef]; exact hl
  rw [List.getElem?_eq_getElem hlt] at this ⊢
  simp only [Option.getD_some, Option.map_some] at this ⊢
  rw [this]; omega
 have hrg := fun {x : Nat} (hx : x < ends.length + 4) => (yf3 he hc hcP hx).1
 have hpair : yb4 (nxT m ends c T (ch c)) (endL m ends c).length := by
  refine ⟨y6m _ _ _ _ _, fun j hj => ?_, fun j hj => ?_, fun j hj e => ?_⟩
  ·obtain ⟨x, hx, gx, rfl⟩ := ydl _ j hj
   obtain ⟨e, q1, q2, q3, q4⟩ := htx x hx gx
   rw [q4]; exact (yb0 q1 q2).1
  ·obtain ⟨x, hx, gx, rfl⟩ := ydl _ j hj
   obtain ⟨e, q1, q2, q3, q4⟩ := htx x hx gx
   obtain ⟨e', p1, p2, p3, p4⟩ := htx e q1 q2
   rw [q4, p4]
   rw [← q3, h1.jj _ (hrg hx)] at p3
   rw [E.inj x e' hx p1 p3]
  ·obtain ⟨x, hx, gx, rfl⟩ := ydl _ j hj
   obtain ⟨e', q1, q2, q3, q4⟩ := htx x hx gx
   rw [q4] at e
   have := yle q2 gx e
   rw [this] at q3
   exact h1.jf _ (hrg hx) q3
 refine ⟨hpair, ?_⟩
 have hb : ∀ h, InR n h -> bST m (c :: P) (endL m ends c) (nxT m ends c T (ch c)) ch h = b h := fun h hr => by
  by_cases hm : h ∈ endL m ends c
  ·obtain ⟨x, hx, gx, rfl⟩ := (yjw hp he hc hcP h).1 hm
   obtain ⟨e, q1, q2, q3, q4⟩ := htx x hx gx
   have g1 := yb0 hx gx
   have := yju hp he' hpair ch g1.1
   rw [g1.2, q4, (yb0 q1 q2).2] at this
   rw [this, q3]
  ·rw [yei hp he' hpair ch hm]
   by_cases hh : h ∈ hvL ends c
   ·obtain ⟨x, hx, rfl⟩ := yce.1 hh
    rw [yb8] at hx
    rw [if_pos (yf3 he hc hcP hx).2]
    refine (h3 x hx ?_).symm
    rcases Int.lt_or_le ((gluL m ends c).getD x 0) 0 with q | q
    ·exact absurd ((yjw hp he hc hcP _).2 ⟨x, hx, (hgn hx).1 q, rfl⟩) hm
    ·exact q
   ·have h9 : b h = bST m P ends T ch h := h2 h hr fun x hx e => hh (yce.2 ⟨x, by rw [yb8]; exact hx, e.symm⟩)
    have h10 : h ∉ ends := fun g => hh ((yi0 he hc hcP h).2 (.inl g))
    have h11 : (h / 4).toNat ≠ c := fun e => hh ((yi0 he hc hcP h).2 (.inr ⟨hr.1, by have := hr.1; omega⟩))
    rw [h9, yei hp he hT ch h10]
    by_cases h12 : (h / 4).toNat ∈ P
    ·rw [if_pos h12, if_pos (List.mem_cons_of_mem _ h12)]
    ·rw [if_neg h12, if_neg fun g => by rcases List.mem_cons.1 g with e | e; exact h11 e; exact h12 e]
 rw [yyr (yn0 hp he' hpair ch) h1 hb]
 have hsl : (cirN (ends.length + 4) (arN ends.length T (ch c)) (fun x => (gluL m ends c).getD x 0) (endN (ends.length + 4) (arN ends.length T (ch c)) (fun x => (gluL m ends c).getD x 0) (ends.length + 4)) (ends.length + 4)).1.length = ends.length + 4 := by rw [yh5, yh4]
 have hcnt := yrf (hs := hvL ends c) (m := m) (l := (cirN (ends.length + 4) (arN ends.length T (ch c)) (fun x => (gluL m ends c).getD x 0) (endN (ends.length + 4) (arN ends.length T (ch c)) (fun x => (gluL m ends c).getD x 0) (ends.length + 4)) (ends.length + 4)).1) (ends.length + 4) (by omega) fun x hx => by
  rw [h8 x hx]
  constructor
  ·intro h e; have := (hgn hx).2 e; omega
  ·intro h
   rcases Int.lt_or_le ((gluL m ends c).getD x 0) 0 with q | q
   ·exact absurd ((hgn hx).1 q) h
   ·exact q
 rw [List.take_of_length_le (by omega), ← h7] at hcnt
 unfold ccN
 have : (endL m ends c).length + g = ends.length + 4 := hcnt
 omega
theorem yyu (b : Bool) (h0 : endL m ends c = []) : 1 <= ccN m ends c T b := by
 have hg : ∀ x, x < ends.length + 4 -> 0 <= (gluL m ends c).getD x 0 := fun x hx => by
  rcases Int.lt_or_le ((gluL m ends c).getD x 0) 0 with q | q
  ·have := (yjw hp he hc hcP _).2 ⟨x, hx, (yeh hp he hc hcP hx).1 q, rfl⟩
   rw [h0] at this; simp at this
  ·exact q
 unfold ccN
 rw [yow _ hg]
 exact yri (hg 0 (by omega)) (ends.length + 3)
end
theorem yjx {m : List Int} {n : Nat} {P : List Nat} {ends : List Int} (hp : PmOk m n) (he : yd4 m n P ends) (hP : ∀ c, c < n -> c ∈ P) : ends = [] := by
 match ends, he with
 | [], _ => rfl
 | h :: t, he =>
   obtain ⟨h1, _, h3⟩ := (he.mem h).1 (List.mem_cons_self ..)
   have hr : InR n (m.getD h.toNat 0) := (ydj hp.ok hp.inv hp.ne (fun _ => false)).mr _ h1
   unfold InR at hr
   exact absurd (hP _ (by omega)) h3
end Go.Proofs.YtebdkebfkpbmpaaGreatDoor
namespace Go.Proofs.YtebdkebfkpbmpaaGreatDoor
set_option linter.unusedVariables false
set_option linter.unusedSimpArgs false
set_option linter.unusedSectionVars false
theorem ydy {f g : Int -> Int} (h : ∀ e, f e = g e) (e : Int) : dml f e = dml g e := by simp only [dml, h]
theorem ybt {f g : Int -> Int} (h : ∀ e, f e = g e) : ∀ i e, dmn i f e = dmn i g e
 | 0, e => h e
 | i + 1, e => ydy (ybt h i) e
theorem ylf (f : Int -> Int) (j : Nat) : ∀ i e, dmn i (dmn j f) e = dmn (i + j) f e
 | 0, e => by rw [Nat.zero_add]; rfl
 | i + 1, e => by rw [Nat.add_right_comm]; exact ydy (ylf f j i) e
theorem yox (f : Int -> Int) (a : Int) : ∀ i e, dmn i (fun x => f (x - a)) e = dmn i f (e - a)
 | 0, e => rfl
 | i + 1, e => by
   simp only [dmn, dml, yox f a i]
   rw [show e + 2 - a = e - a + 2 by omega, show e - 2 - a = e - a - 2 by omega]
theorem yrk : ∀ i e, dmn i (fun _ => 0) e = 0
 | 0, _ => rfl
 | i + 1, e => by simp only [dmn, dml, yrk i]; rfl
theorem yjy : ∀ i e, dmn i (fun x => if x = 0 then 1 else 0) e = dpw i e
 | 0, _ => rfl
 | i + 1, e => ydy (yjy i) e
def upB (ch : Nat -> Bool) (c : Nat) (b : Bool) : Nat -> Bool := fun x => if x = c then b else ch x
def psm (F : (Nat -> Bool) -> Int) : List Nat -> (Nat -> Bool) -> Int
 | [], ch => F ch
 | c :: r, ch => psm F r (upB ch c false) + psm F r (upB ch c true)
theorem yoy {F G : (Nat -> Bool) -> Int} : ∀ (r : List Nat) (ch : Nat -> Bool), (∀ ch', (∀ x, x ∉ r -> ch' x = ch x) -> F ch' = G ch') -> psm F r ch = psm G r ch
 | [], ch, h => h ch fun _ _ => rfl
 | c :: r, ch, h => by
   have key : ∀ b, psm F r (upB ch c b) = psm G r (upB ch c b) := fun b => yoy r _ fun ch' h' => h ch' fun x hx => by
    rw [h' x fun g => hx (List.mem_cons_of_mem _ g)]
    exact if_neg fun (e : x = c) => hx (by rw [e]; exact List.mem_cons_self ..)
   simp only [psm, key]
theorem yia (ch : Nat -> Bool) {x y : Nat} (h : x ≠ y) (a b : Bool) : upB (upB ch y a) x b = upB (upB ch x b) y a := by
 funext z
 unfold upB
 by_cases e1 : z = x
 ·subst e1; simp [h]
 ·simp [e1]
theorem y2h (F : (Nat -> Bool) -> Int) {l k : List Nat} (h : l.Perm k) : ∀ ch, psm F l ch = psm F k ch := by
 induction h with
 | nil => exact fun _ => rfl
 | cons x _ ih => exact fun ch => by simp only [psm, ih]
 | swap x y l =>
   intro ch
   by_cases e : x = y
   ·rw [e]
   ·simp only [psm]
    rw [yia ch e false false, yia ch e false true, yia ch e true false, yia ch e true true]
    omega
 | trans _ _ h1 h2 => exact fun ch => (h1 ch).trans (h2 ch)
def dtL : Nat -> List Nat
 | 0 => []
 | n + 1 => n :: dtL n
theorem yg5 {c : Nat} : ∀ {n : Nat}, c ∈ dtL n ↔ c < n
 | 0 => by simp [dtL]
 | n + 1 => by simp only [dtL, List.mem_cons, yg5 (n := n)]; omega
theorem yyv : ∀ n, (dtL n).Nodup
 | 0 => by simp [dtL]
 | n + 1 => by
   simp only [dtL, List.nodup_cons]
   exact ⟨fun h => by have := yg5.1 h; omega, yyv n⟩
theorem yt4 : ∀ n, (dtL n).length = n
 | 0 => rfl
 | n + 1 => by simp [dtL, yt4 n]
theorem yrl (F : (Nat -> Bool) -> Int) : ∀ (i : Nat) (ch : Nat -> Bool), psm F (dtL i) ch = sm (fun k => F (fun c => if c < i then chB k c else ch c)) (2 ^ i)
 | 0, ch => by simp only [dtL, psm, Nat.pow_zero, sm, Int.zero_add]; congr 1
 | i + 1, ch => by
   simp only [dtL, psm]
   rw [yrl F i, yrl F i, Nat.pow_succ, Nat.mul_two, yq4]
   congr 1
   ·refine ya9 fun k hk => ?_
    congr 1; funext c
    by_cases e : c = i
    ·subst e; rw [if_neg (by omega), if_pos (by omega), y8n hk]; simp [upB]
    ·by_cases e2 : c < i
     ·rw [if_pos e2, if_pos (by omega)]
     ·rw [if_neg e2, if_neg (by omega)]; simp [upB, e]
   ·refine ya9 fun k hk => ?_
    congr 1; funext c
    by_cases e : c = i
    ·subst e; rw [if_neg (by omega), if_pos (by omega), y6j hk]; simp [upB]
    ·by_cases e2 : c < i
     ·rw [if_pos e2, if_pos (by omega), y6i e2]
     ·rw [if_neg e2, if_neg (by omega)]; simp [upB, e]
theorem yt5 {l : List Nat} {n : Nat} (hn : l.Nodup) (hl : l.length = n) (hr : ∀ c ∈ l, c < n) : l.Perm (dtL n) := by
 refine (List.perm_ext_iff_of_nodup hn (yyv n)).2 fun a => ⟨fun h => yg5.2 (hr a h), fun h => ?_⟩
 by_cases hm : a ∈ l
 ·exact hm
 ·exfalso
  have h2 := ya4 (l := a :: l) (k := dtL n) (List.nodup_cons.2 ⟨hm, hn⟩) fun y hy => by
   rcases List.mem_cons.1 hy with rfl | hy
   ·exact h
   ·exact yg5.2 (hr y hy)
  rw [yt4] at h2
  simp at h2
  omega
def bsg (b : Bool) : Int := if b then -1 else 1
def wL (r : List Nat) (ch : Nat -> Bool) : Int := (r.map fun c => bsg (ch c)).sum
theorem y6n {l k : List Nat} (h : l.Perm k) (ch : Nat -> Bool) : wL l ch = wL k ch := yk8 (h.map _)
theorem y31 (ch : Nat -> Bool) : ∀ n, wL (dtL n) ch = n - 2 * (difS false ch n : Int)
 | 0 => rfl
 | n + 1 => by
   have := y31 ch n
   have e : wL (dtL (n + 1)) ch = bsg (ch n) + wL (dtL n) ch := rfl
   rw [e, this]
   simp only [difS, bsg]
   cases ch n <;> simp <;> omega
def spN : List Nat -> Nat
 | [] => 1
 | _ :: _ => 0
def finR (m : List Int) : List Nat -> List Int -> List Nat -> (Int -> Int) -> Int -> Int
 | [], _, _, f => f
 | c :: r, ends, T, f => fun e =>
   finR m r (endL m ends c) (nxT m ends c T false) (dmn (ccN m ends c T false - spN r) (fun e => f (e - 1))) e +
   finR m r (endL m ends c) (nxT m ends c T true) (dmn (ccN m ends c T true - spN r) (fun e => f (e - -1))) e
theorem ybs (m : List Int) : ∀ (r : List Nat) (ends : List Int) (T : List Nat) {f g : Int -> Int}, (∀ e, f e = g e) -> ∀ e, finR m r ends T f e = finR m r ends T g e
 | [], _, _, f, g, h, e => h e
 | c :: r, ends, T, f, g, h, e => by
   simp only [finR]
   rw [ybs m r _ _ (ybt (fun x => h (x - 1)) _), ybs m r _ _ (ybt (fun x => h (x - -1)) _)]
theorem ylg (m : List Int) : ∀ (r : List Nat) (ends : List Int) (T : List Nat) (f g : Int -> Int) (e : Int), finR m r ends T (fun x => f x + g x) e = finR m r ends T f e + finR m r ends T g e
 | [], _, _, f, g, e => rfl
 | c :: r, ends, T, f, g, e => by
   simp only [finR]
   rw [ybs m r _ _ (yjr (fun x => f (x - 1)) (fun x => g (x - 1)) _), ybs m r _ _ (yjr (fun x => f (x - -1)) (fun x => g (x - -1)) _), ylg m r, ylg m r]
   omega
def kRm (m : List Int) (n : Nat) (P : List Nat) (ends : List Int) (T : List Nat) (r : List Nat) (ch : Nat -> Bool) : Nat := (2 * ncl n (fun x => m.getD x.toNat 0) (bST m P ends T ch) + ends.length + 4 * r.length - 4 * n) / 2
theorem y8p {n : Nat} {mt b : Int -> Int} (hi : Inv2 n mt b) (h : ∀ x, InR n x -> b x = mt x) : ncl n mt b = 2 * n := by
 have hR := ygj hi
 unfold ncl
 generalize crN mt b (4 * n) (4 * n) = R at *
 have hc : ∀ (x y : Int), InR n x -> Cir mt b x y -> y = x \/ y = mt x := fun x y hx hc => by
  induction hc with
  | refl => exact .inl rfl
  | mate _ ih => rcases ih with e | e <;> rw [e]; exact .inr rfl; exact .inl (hi.mm _ hx)
  | join hc ih =>
    rw [h _ (hc.rng hi hx)]
    rcases ih with e | e <;> rw [e]; exact .inr rfl; exact .inl (hi.mm _ hx)
 have hir : ∀ x : Nat, x < 4 * n -> InR n x := fun x hx => by unfold InR; omega
 have hmr : ∀ x : Nat, x < 4 * n -> (mt x).toNat < 4 * n /\ ((mt x).toNat : Int) = mt x := fun x hx => by have := hi.mr _ (hir x hx); unfold InR at this; omega
 have hsum : ∀ x : Nat, x < 4 * n -> (if R.getD x 0 == (x : Int) then (1 : Int) else 0) + (if R.getD (mt x).toNat 0 == ((mt x).toNat : Int) then 1 else 0) = 1 := fun x hx => by
  obtain ⟨a1, a2⟩ := hmr x hx
  have hxm : R.getD (mt x).toNat 0 = R.getD x 0 := by
   refine (hR.iff _ _ a1 hx).2 ?_
   rw [a2]
   have := Cir.mate (mt := mt) (jn := b) (Cir.refl (mt x))
   rw [hi.mm _ (hir x hx)] at this
   exact this
  have hrr := hR.rep.rng x hx
  have hid := hR.rep.idem x hx
  have h1 := hc x _ (hir x hx) ((hR.iff x (R.getD x 0).toNat hx (by omega)).1 hid.symm)
  have hne := hi.mf _ (hir x hx)
  rw [Int.toNat_of_nonneg hrr.1] at h1
  rw [hxm, a2]
  rcases h1 with e | e
  ·rw [e, if_pos (by simp), if_neg (by simp; exact fun e => hne e.symm)]; rfl
  ·rw [e, if_neg (by simp; exact hne), if_pos (by simp)]; rfl
 unfold roots
 rw [hR.rep.len]
 have h2 := yiz (fun x => R.getD x 0 == (x : Int)) (4 * n)
 have h3 := yjp (fun x => if R.getD x 0 == (x : Int) then (1 : Int) else 0) (N := 4 * n) (fun x => (mt x).toNat) (fun x hx => (hmr x hx).1) fun x y hx hy e => by
  have h1 := hmr x hx
  have h2 := hmr y hy
  have : mt x = mt y := by have e' : (mt x).toNat = (mt y).toNat := e; omega
  have := congrArg mt this
  rw [hi.mm _ (hir x hx), hi.mm _ (hir y hy)] at this
  omega
 have h4 := ye1 (fun x => if R.getD x 0 == (x : Int) then (1 : Int) else 0) (fun x => if R.getD (mt x).toNat 0 == ((mt x).toNat : Int) then (1 : Int) else 0) (4 * n)
 rw [ya9 (g := fun _ => 1) hsum, ycd] at h4
 omega
structure Stg (m : List Int) (n : Nat) (P : List Nat) (ends : List Int) (r : List Nat) : Prop where
 he : yd4 m n P ends
 nd : r.Nodup
 dj : ∀ c ∈ r, c ∉ P /\ c < n
 al : ∀ c, c < n -> c ∈ P \/ c ∈ r
section
variable {m : List Int} {n : Nat} (hp : PmOk m n)
include hp
theorem Stg.step {P : List Nat} {ends : List Int} {c : Nat} {r : List Nat} (h : Stg m n P ends (c :: r)) : Stg m n (c :: P) (endL m ends c) r := by
 have h1 := h.dj c (List.mem_cons_self ..)
 have h2 := List.nodup_cons.1 h.nd
 refine ⟨yys hp h.he h1.2 h1.1, h2.2, fun x hx => ?_, fun x hx => ?_⟩
 ·have h3 := h.dj x (List.mem_cons_of_mem _ hx)
  refine ⟨fun g => ?_, h3.2⟩
  rcases List.mem_cons.1 g with e | e
  ·rw [e] at hx; exact h2.1 hx
  ·exact h3.1 e
 ·rcases h.al x hx with g | g
  ·exact .inl (List.mem_cons_of_mem _ g)
  ·rcases List.mem_cons.1 g with e | e
   ·rw [e]; exact .inl (List.mem_cons_self ..)
   ·exact .inr e
omit hp in
theorem Stg.init {r : List Nat} (hn : r.Nodup) (hl : r.length = n) (hr : ∀ c ∈ r, c < n) : Stg m n [] [] r :=
 ⟨⟨by simp, by simp⟩, hn, fun c hc => ⟨by simp, hr c hc⟩, fun c hc => .inr ((yt5 hn hl hr).mem_iff.2 (yg5.2 hc))⟩
theorem yej : ∀ (r : List Nat) (P : List Nat) (ends : List Int) (T : List Nat), Stg m n P ends r -> yb4 T ends.length -> ∀ ch : Nat -> Bool,
  2 * kRm m n P ends T r ch + 4 * n = 2 * ncl n (fun x => m.getD x.toNat 0) (bST m P ends T ch) + ends.length + 4 * r.length /\ (r ≠ [] -> 1 <= kRm m n P ends T r ch) /\ (r = [] -> kRm m n P ends T r ch = 0) /\
  ∀ c r', r = c :: r' -> kRm m n P ends T r ch = kRm m n (c :: P) (endL m ends c) (nxT m ends c T (ch c)) r' ch + ccN m ends c T (ch c)
 | [], P, ends, T, h, hT, ch => by
   have h0 := yjx hp h.he fun c hc => by rcases h.al c hc with g | g; exact g; simp at g
   subst h0
   have h1 := y8p (yn0 hp h.he hT ch) fun x hx => by
    rw [yei hp h.he hT ch (by simp)]
    exact if_pos (by
     rcases h.al (x / 4).toNat (by unfold InR at hx; omega) with g | g
     ·exact g
     ·simp at g)
   unfold kRm
   rw [h1]
   refine ⟨by simp only [List.length_nil]; omega, fun h => absurd rfl h, fun _ => by simp only [List.length_nil]; omega, fun c r' e => by simp at e⟩
 | c :: r, P, ends, T, h, hT, ch => by
   have h1 := h.dj c (List.mem_cons_self ..)
   have hs := h.step hp
   obtain ⟨q1, q2⟩ := yct hp h.he hT h1.2 h1.1 ch
   obtain ⟨k1, k2, k3, _⟩ := yej r _ _ _ hs q1 ch
   have key : 2 * ncl n (fun x => m.getD x.toNat 0) (bST m P ends T ch) + ends.length + 4 * (c :: r).length = 2 * (kRm m n (c :: P) (endL m ends c) (nxT m ends c T (ch c)) r ch + ccN m ends c T (ch c)) + 4 * n := by
    simp only [List.length_cons]; omega
   have e : kRm m n P ends T (c :: r) ch = kRm m n (c :: P) (endL m ends c) (nxT m ends c T (ch c)) r ch + ccN m ends c T (ch c) := by
    conv => lhs; unfold kRm
    rw [key]; omega
   refine ⟨by rw [key, e], fun _ => ?_, fun h => by simp at h, fun c' r' e' => by cases e'; exact e⟩
   cases r with
   | nil =>
     have h0 := yjx hp hs.he fun c hc => by rcases hs.al c hc with g | g; exact g; simp at g
     have := yyu hp h.he hT h1.2 h1.1 (ch c) h0
     omega
   | cons x r => have := k2 (by simp); omega
def spR : List Nat -> Nat
 | [] => 0
 | _ :: _ => 1
theorem yrm : ∀ (r : List Nat) (P : List Nat) (ends : List Int) (T : List Nat), Stg m n P ends r -> yb4 T ends.length -> ∀ (f : Int -> Int) (e : Int) (ch0 : Nat -> Bool),
  finR m r ends T f e = psm (fun ch => dmn (kRm m n P ends T r ch - spR r) f (e - wL r ch)) r ch0
 | [], P, ends, T, h, hT, f, e, ch0 => by
   have := (yej hp [] P ends T h hT ch0).2.2.1 rfl
   simp only [finR, psm, spR, this, wL, List.map_nil, List.sum_nil, Int.sub_zero]
   rfl
 | c :: r, P, ends, T, h, hT, f, e, ch0 => by
   have h1 := h.dj c (List.mem_cons_self ..)
   have hs := h.step hp
   have hcr := (List.nodup_cons.1 h.nd).1
   simp only [finR, psm]
   have key : ∀ b : Bool, finR m r (endL m ends c) (nxT m ends c T b) (dmn (ccN m ends c T b - spN r) (fun x => f (x - bsg b))) e = psm (fun ch => dmn (kRm m n P ends T (c :: r) ch - spR (c :: r)) f (e - wL (c :: r) ch)) r (upB ch0 c b) := fun b => by
    have q1 := (yct hp h.he hT h1.2 h1.1 (fun _ => b)).1
    rw [yrm r _ _ _ hs q1 _ e (upB ch0 c b)]
    refine yoy r _ fun ch hch => ?_
    have hcb : ch c = b := by rw [hch c hcr]; exact if_pos rfl
    have e1 := (yej hp (c :: r) P ends T h hT ch).2.2.2 c r rfl
    obtain ⟨_, k2, k3, _⟩ := yej hp r _ _ _ hs q1 ch
    rw [hcb] at e1
    have hw : wL (c :: r) ch = bsg b + wL r ch := by simp only [wL, List.map_cons, List.sum_cons, hcb]
    rw [ylf, yox, e1, hw]
    rw [show e - wL r ch - bsg b = e - (bsg b + wL r ch) by omega]
    congr 1
    cases r with
    | nil =>
      have h0 := yjx hp hs.he fun c hc => by rcases hs.al c hc with g | g; exact g; simp at g
      have := yyu hp h.he hT h1.2 h1.1 b h0
      have := k3 rfl
      simp only [spN, spR]; omega
    | cons x r => have := k2 (by simp); simp only [spN, spR]; omega
   have kf := key false
   have kt := key true
   simp only [bsg, Bool.false_eq_true, if_false, if_true] at kf kt
   rw [kf, kt]
theorem yrn (ch : Nat -> Bool) {r : List Nat} (h : Stg m n [] [] r) (hl : r.length = n) : kRm m n [] [] [] r ch = cirS m n ch := by
 have h1 := (yej hp r [] [] [] h ⟨rfl, fun x hx => by simp at hx, fun x hx => by simp at hx, fun x hx => by simp at hx⟩ ch).1
 have h2 : ncl n (fun x => m.getD x.toNat 0) (bST m [] [] [] ch) = cirS m n ch := by
  have hi := ydj hp.ok hp.inv hp.ne ch
  have e : bST m [] [] [] ch = fun x => jnB (ch (x / 4).toNat) x := by
   funext x
   simp [bST, ndF]
  rw [e]
  exact yf0 (ygj hi) (yv2 hp.ok hp.inv hp.ne)
 rw [h2, hl] at h1
 simp only [List.length_nil] at h1
 omega
theorem y6o {r : List Nat} (hn : r.Nodup) (hl : r.length = n) (hr : ∀ c ∈ r, c < n) (hn0 : 0 < n) (e : Int) : finR m r [] [] (fun x => if x = 0 then 1 else 0) e = brT m n 0 1 e := by
 have hS := Stg.init (m := m) hn hl hr
 have hp' := yt5 hn hl hr
 rw [yrm hp r [] [] [] hS ⟨rfl, fun x hx => by simp at hx, fun x hx => by simp at hx, fun x hx => by simp at hx⟩ _ e (fun _ => false)]
 rw [y2h _ hp', yrl]
 unfold brT hrT
 refine ya9 fun k hk => ?_
 rw [yrn hp _ hS hl, y6n hp', y31, yjy]
 have hsp : spR r = 1 := by cases r with
  | nil => simp at hl; omega
  | cons _ _ => rfl
 have e1 : cirS m n (fun c => if c < n then chB k c else false) = cirS m n (chB k) := by unfold cirS; rw [ygl fun c hc => if_pos hc]
 have e2 : difS false (fun c => if c < n then chB k c else false) n = cntB k n := by rw [ylb]; exact ymy fun c hc => if_pos hc
 have := yla hp (chB k) hn0
 rw [hsp, e1, e2]
 unfold cN wB
 rw [if_pos (by omega), Nat.add_zero]
def nmR (m : List Int) : List Nat -> List Int -> List Nat -> Nat
 | [], _, _ => 1
 | c :: r, ends, T => 2 ^ ccN m ends c T false * nmR m r (endL m ends c) (nxT m ends c T false) + 2 ^ ccN m ends c T true * nmR m r (endL m ends c) (nxT m ends c T true)
omit hp in
theorem yjz (m : List Int) : ∀ (r : List Nat) (ends : List Int) (T : List Nat), 1 <= nmR m r ends T
 | [], _, _ => Nat.le_refl _
 | c :: r, ends, T => by
   have h1 := yjz m r (endL m ends c) (nxT m ends c T false)
   have h2 : 1 <= 2 ^ ccN m ends c T false := Nat.one_le_two_pow
   have := Nat.mul_le_mul h2 h1
   simp only [nmR]; omega
omit hp in
theorem y8q (P : List Nat) (ends : List Int) (T : List Nat) (ch : Nat -> Bool) (c : Nat) (b : Bool) (h : c ∈ P) : bST m P ends T (upB ch c b) = bST m P ends T ch := by
 funext x
 unfold bST
 split
 ·rfl
 ·split
  ·rfl
  ·rename_i hn
   have : (x / 4).toNat ≠ c := fun e => hn (e ▸ h)
   simp only [upB, if_neg this]
theorem yyw : ∀ (r : List Nat) (P : List Nat) (ends : List Int) (T : List Nat), Stg m n P ends r -> yb4 T ends.length -> ∀ M : Nat, (∀ ch, kRm m n P ends T r ch <= M) -> nmR m r ends T <= 2 ^ (r.length + M)
 | [], P, ends, T, h, hT, M, hM => Nat.one_le_two_pow
 | c :: r, P, ends, T, h, hT, M, hM => by
   have h1 := h.dj c (List.mem_cons_self ..)
   have hs := h.step hp
   have key : ∀ b : Bool, 2 ^ ccN m ends c T b * nmR m r (endL m ends c) (nxT m ends c T b) <= 2 ^ (r.length + M) := fun b => by
    have q1 := (yct hp h.he hT h1.2 h1.1 (fun _ => b)).1
    have hk : ∀ ch, kRm m n (c :: P) (endL m ends c) (nxT m ends c T b) r ch + ccN m ends c T b <= M := fun ch => by
     have e1 := (yej hp (c :: r) P ends T h hT (upB ch c b)).2.2.2 c r rfl
     have e2 : upB ch c b c = b := if_pos rfl
     have e3 : kRm m n (c :: P) (endL m ends c) (nxT m ends c T b) r (upB ch c b) = kRm m n (c :: P) (endL m ends c) (nxT m ends c T b) r ch := by
      unfold kRm; rw [y8q _ _ _ _ _ _ (List.mem_cons_self ..)]
     rw [e2, e3] at e1
     have := hM (upB ch c b)
     omega
    have hM0 := hk (fun _ => false)
    have ih := yyw r _ _ _ hs q1 (M - ccN m ends c T b) fun ch => by have := hk ch; omega
    refine Nat.le_trans (Nat.mul_le_mul_left _ ih) ?_
    rw [← Nat.pow_add]
    exact Nat.pow_le_pow_right (by omega) (by omega)
   have kf := key false
   have kt := key true
   simp only [nmR, List.length_cons]
   have : 2 ^ (r.length + 1 + M) = 2 ^ (r.length + M) + 2 ^ (r.length + M) := by rw [Nat.add_right_comm, Nat.pow_succ]; omega
   omega
theorem y2i {r : List Nat} (hn : r.Nodup) (hl : r.length = n) (hr : ∀ c ∈ r, c < n) : nmR m r [] [] <= 2 ^ (3 * n) := by
 have hS := Stg.init (m := m) hn hl hr
 have := yyw hp r [] [] [] hS ⟨rfl, fun x hx => by simp at hx, fun x hx => by simp at hx, fun x hx => by simp at hx⟩ (2 * n) fun ch => by
  rw [yrn hp ch hS hl]; exact ydb hp ch
 rw [hl] at this
 rwa [show 3 * n = n + 2 * n by omega]
end
end Go.Proofs.YtebdkebfkpbmpaaGreatDoor
