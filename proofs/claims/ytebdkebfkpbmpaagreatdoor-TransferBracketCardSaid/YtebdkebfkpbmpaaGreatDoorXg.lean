/- Layer 1: contracts of the program's functions on diagrams. -/
import Derived.Test.YtebdkebfkpbmpaaGreatDoorTy
import Derived.Test.YtebdkebfkpbmpaaGreatDoorPl
set_option linter.unusedSimpArgs false
set_option linter.unusedVariables false
namespace Go.Proofs.YtebdkebfkpbmpaaGreatDoor
open Go Go.RowKit
set_option maxRecDepth 100000
abbrev roI (l : List Int) : AV := .ro 1 l.length (.ints l)
abbrev roB (l : List Bool) : AV := .ro 1 l.length (.bools l)
abbrev dgA (s m : List Int) (L : Int) : AV := .agg [roI s, roI m, I L]
attribute [go_sem] roI roB dgA
def roF (l : List Int) : AV := .ro 1 l.length (.ints l)
abbrev roLL (ls : List (List Int)) : AV := .ro 1 ls.length (.lst (ls.map roF))
theorem yx7 (H : Hp) (l : List Int) : s3 H (roF l) = true := rfl
theorem yv0 (H : Hp) (ls : List (List Int)) : ls.all (s3 H ∘ roF) = true := by simp [yx7]
theorem y5z (n : Nat) : cutV n ∘ roF = roF := by funext l; rfl
theorem y12 (H : Hp) (n : Nat) : snap H (n + 1) ∘ roF = roF := by funext l; rfl
theorem ygi (H : Hp) (n : Nat) (ls : List (List Int)) : ∀ x ∈ ls.map roF, yao H (n + 1) x := fun x hx => by
 obtain ⟨l, _, rfl⟩ := List.mem_map.1 hx; trivial
theorem y13 (ls : List (List Int)) (i : Nat) (h : i < ls.length) : (ls.map roF).getD i .any = roI (ls.getD i []) := by simp [h, roF]
attribute [go_sem] yx7 yv0 y5z y12
theorem yjk {a b : Int} (h : 0 <= a) : a.tmod b = a % b := Int.tmod_eq_emod_of_nonneg h
theorem ydi {a b : Int} (h : 0 <= a) : a.tdiv b = a / b := Int.tdiv_eq_ediv_of_nonneg h
theorem y50 (h b : Int) (h0 : 0 <= h) (h1 : h <= 100000) : Fn Tryz.prog 123 [I h, I b] (I (h - h % 4 + (h % 4 + b.tmod 4 + 4) % 4)) := by
 have e1 : h.tmod 4 = h % 4 := Int.tmod_eq_emod_of_nonneg h0
 have e2 : -4 < b.tmod 4 /\ b.tmod 4 < 4 := ⟨Int.lt_tmod_of_pos b (by decide), Int.tmod_lt_of_pos b (by decide)⟩
 have e3 : (h % 4 + b.tmod 4 + 4).tmod 4 = (h % 4 + b.tmod 4 + 4) % 4 := Int.tmod_eq_emod_of_nonneg (by omega)
 refine Fn.intro [.tmp 4] Tryz.func123 rfl rfl (by decide) (by simp [Tryz.ntmps123]) ?_; rw [Tryz.ntmps123]
 repeat' (first | omega | ((try apply yaa); simp only [go_sem, sevalprocAttr]) | (apply yad <;> (intro h_; (try simp only [h_]); revert h_)) | apply yac | apply yab | apply gspI | apply And.intro | with_reducible intro h_ | trivial | (simp only [go_sem, la2]; omega))
 all_goals try simp only [e1, e3]
 all_goals try omega
theorem ykm (s m : List Int) (L h : Int) (h0 : 0 <= h) (h1 : h < 4 * s.length) (hs : s.length <= 1000) : Fn Tryz.prog 111 [dgA s m L, I h] (.bool (outB s h)) := by
 have e1 : h.tmod 4 = h % 4 := Int.tmod_eq_emod_of_nonneg h0
 have e2 : h.tdiv 4 = h / 4 := Int.tdiv_eq_ediv_of_nonneg h0
 refine Fn.intro [.tmp 4] Tryz.func111 rfl rfl (by decide) (by simp [Tryz.ntmps111]) ?_; rw [Tryz.ntmps111]
 repeat' (first | omega | ((try apply yaa); simp only [go_sem, sevalprocAttr]) | (apply yad <;> (intro h_; (try simp only [h_]); revert h_)) | apply yac | apply yab | apply gspI | apply And.intro | with_reducible intro h_ | trivial | (simp only [go_sem, la2]; omega))
 all_goals try simp only [e1, e2] at *
 all_goals try omega
 all_goals simp_all [outB]
theorem y14 (s m : List Int) (L : Int) (hs : s.length <= 1000) (hm : ya6 m s.length) : Fn Tryz.prog 146 [dgA s m L] (.tup [roI (yap m s.length).1, I (yap m s.length).2]) := by
 refine Fn.intro [.tmp 2, .tmp 3] Tryz.func146 rfl rfl (by decide) (by simp [Tryz.ntmps146]) ?_; rw [Tryz.ntmps146]
 repeat' (first | omega | ((try apply yaa); simp only [go_sem, sevalprocAttr]) | (apply yad <;> (intro h_; (try simp only [h_]); revert h_)) | apply yac | apply yab | apply gspI | apply And.intro | with_reducible intro h_ | trivial | (simp only [go_sem, la2]; omega))
 refine yah.intro (fun n fr H => ∃ k : Nat, k <= s.length /\ n = s.length - k /\ fr = [(18, I k), (17, I s.length), (4, .sl 1 1 0 s.length), (1, .ptr 0 0)] /\ H = [(1, .cells 3 (.ints (List.replicate k (-1) ++ List.replicate (s.length - k) 0))), (0, .cells 24 (.lst [roI s, roI m, I L]))]) ?_ ?_
 ·refine ⟨_, _, _, ?_, 0, by omega, rfl, rfl, rfl⟩
  refine Wk.sub ?_ ?_ <;> simp only [go_sem, sevalprocAttr]
  simp
 rintro n fr H ⟨k, hk, rfl, rfl, rfl⟩
 repeat' (first | omega | ((try apply yaa); simp only [go_sem, sevalprocAttr]) | (apply yad <;> (intro h_; (try simp only [h_]); revert h_)) | apply yac | apply yab | apply gspI | apply And.intro | with_reducible intro h_ | trivial | (simp only [go_sem, la2]; omega))
 ·refine ⟨_, _, _, ?_, ?_, ⟨k + 1, by omega, rfl, rfl, rfl⟩⟩
  ·omega
  ·refine Wk.sub ?_ ?_ <;> simp only [go_sem, sevalprocAttr]
   exact y1y _ _ _ _ (by omega)
 obtain rfl : k = s.length := by omega
 refine yah.intro (fun n fr H => ∃ k : Nat, k <= s.length /\ n = s.length - k /\ fr = [(27, I k), (26, I s.length), (6, I (lbN m s.length k).2), (4, .sl 1 1 0 s.length), (1, .ptr 0 0)] /\ H = [(1, .cells 3 (.ints (lbN m s.length k).1)), (0, .cells 24 (.lst [roI s, roI m, I L]))]) ?_ ?_
 ·refine ⟨_, _, _, ?_, 0, by omega, rfl, rfl, rfl⟩
  refine Wk.sub ?_ ?_ <;> simp only [go_sem, sevalprocAttr]
  ·simp [lbN]
  ·simp [lbN]
 rintro n fr H ⟨k, hk, rfl, rfl, rfl⟩
 obtain ⟨hp1, hp2, hp3⟩ := yir hm k hk
 have hpl := hp1.1
 repeat' (first | omega | ((try apply yaa); simp only [go_sem, sevalprocAttr]) | (apply yad <;> (intro h_; (try simp only [h_]); revert h_)) | apply yac | apply yab | apply gspI | apply And.intro | with_reducible intro h_ | trivial | (simp only [go_sem, la2]; omega))
 ·refine ⟨_, _, _, ?_, ?_, ⟨k + 1, by omega, rfl, rfl, rfl⟩⟩
  ·omega
  ·have e : lbN m s.length (k + 1) = lbN m s.length k := by simp only [lbN, lbC]; rw [if_pos (by assumption)]
   refine Wk.sub ?_ ?_ <;> (simp only [go_sem, sevalprocAttr]; rw [e])
 ·have hneg : (lbN m s.length k).1.getD k 0 < 0 := by assumption
  have hkn : k < s.length := by omega
  have eN : lbN m s.length (k + 1) = (bfs m (lbN m s.length k).2 (2 * s.length + 1) ((lbN m s.length k).1.set k (lbN m s.length k).2) [(k : Int)], (lbN m s.length k).2 + 1) := by simp only [lbN, lbC]; rw [if_neg (by omega)]
  have hn0 := yhz (i := k) (by omega) hneg hp2
  have hnl := ynj (lbN m s.length k).1
  have hp0 : pOk s.length (lbN m s.length k).2 ((lbN m s.length k).1.set k (lbN m s.length k).2) := ⟨by simp [hpl], fun i hi => by
   by_cases e : k = i
   ·subst e; rw [yax (by omega)]; omega
   ·rw [yaq e]; exact hp1.2 i hi⟩
  generalize (lbN m s.length k).1.set k (lbN m s.length k).2 = part0 at *
  refine yah.intro (fun f fr H => ∃ (part q cq : List Int) (off : Nat), 2 * negs part + q.length <= f /\ f <= 2 * s.length + 1 /\ pOk s.length (lbN m s.length k).2 part /\ qOk s.length q /\ off + q.length = cq.length /\ cq.drop off = q /\ bfs m (lbN m s.length k).2 f part q = bfs m (lbN m s.length k).2 (2 * s.length + 1) part0 [(k : Int)] /\
   fr = [(8, .sl 1 2 off q.length), (27, I k), (26, I s.length), (6, I (lbN m s.length k).2), (4, .sl 1 1 0 s.length), (1, .ptr 0 0)] /\ H = [(2, .cells 3 (.ints cq)), (1, .cells 3 (.ints part)), (0, .cells 24 (.lst [roI s, roI m, I L]))]) ?_ ?_
  ·refine ⟨_, _, _, ?_, part0, [(k : Int)], [(k : Int)], 0, ?_, Nat.le_refl _, hp0, fun x hx => by simp at hx; omega, rfl, rfl, rfl, rfl, rfl⟩
   ·refine Wk.sub ?_ ?_ <;> simp only [go_sem, sevalprocAttr]
   ·simp only [List.length_singleton]; omega
  rintro f fr H ⟨part, q, cq, off, hf, hf2, hpp, hqq, hoc, hdr, hbf, rfl, rfl⟩
  have hppl := hpp.1
  repeat' (first | omega | ((try apply yaa); simp only [go_sem, sevalprocAttr]) | (apply yad <;> (intro h_; (try simp only [h_]); revert h_)) | apply yac | apply yab | apply gspI | apply And.intro | with_reducible intro h_ | trivial | (simp only [go_sem, la2]; omega))
  ·-- the four neighbours
   have hq0 : 0 < q.length := by omega
   obtain ⟨c, q', rfl⟩ : ∃ c q', q = c :: q' := by
    cases q with
    | nil => simp at hq0
    | cons c q' => exact ⟨c, q', rfl⟩
   have hcg : cq.getD off 0 = c := by
    have := congrArg (fun l => l.getD 0 0) hdr
    simpa using this
   have hdr' : cq.drop (off + 1) = q' := by
    have := congrArg List.tail hdr
    simpa using this
   have hcr := hqq c (by simp)
   have hqq' : qOk s.length q' := fun x hx => hqq x (by simp [hx])
   simp only [List.length_cons] at hf hoc
   rw [hcg]
   refine yah.intro (fun j fr H => ∃ (i : Nat) (cq off' : _), j = 4 - i /\ i <= 4 /\ off' + (lb4 m c (lbN m s.length k).2 (part, q') i).2.length = (cq : List Int).length /\ cq.drop off' = (lb4 m c (lbN m s.length k).2 (part, q') i).2 /\
    fr = [(49, I i), (8, .sl 1 2 off' (lb4 m c (lbN m s.length k).2 (part, q') i).2.length), (9, I c), (27, I k), (26, I s.length), (6, I (lbN m s.length k).2), (4, .sl 1 1 0 s.length), (1, .ptr 0 0)] /\ H = [(2, .cells 3 (.ints cq)), (1, .cells 3 (.ints (lb4 m c (lbN m s.length k).2 (part, q') i).1)), (0, .cells 24 (.lst [roI s, roI m, I L]))]) ?_ ?_
   ·refine ⟨_, _, _, ?_, 0, cq, off + 1, rfl, by omega, by simp only [lb4]; omega, by simp only [lb4]; exact hdr', rfl, rfl⟩
    refine Wk.sub ?_ ?_ <;> simp only [go_sem, sevalprocAttr]
    ·simp [lb4]
    ·simp [lb4]
   rintro j fr H ⟨i, cq, off', rfl, hi, hol, hod, rfl, rfl⟩
   obtain ⟨g1, g2, g3, g5⟩ := ymf hm hcr hp2 (st := (part, q')) hpp hqq' i hi
   have g1l := g1.1
   simp only at g3 g5
   by_cases hi4 : i < 4
   ·have hmr := hm.2 (4 * c + i).toNat (by omega)
    have hml := hm.1
    have e2 : (m.getD (4 * c + i).toNat 0).tdiv 4 = m.getD (4 * c + i).toNat 0 / 4 := ydi hmr.1
    have hto : 0 <= m.getD (4 * c + i).toNat 0 / 4 /\ m.getD (4 * c + i).toNat 0 / 4 < s.length := by omega
    have eL : lb4 m c (lbN m s.length k).2 (part, q') (i + 1) = lb1 m c (lbN m s.length k).2 i (lb4 m c (lbN m s.length k).2 (part, q') i) := rfl
    repeat' (first | omega | ((try apply yaa); simp only [go_sem, sevalprocAttr, e2]) | (apply yad <;> (intro h_; (try simp only [h_]); revert h_)) | apply yac | apply yab | apply gspI | apply And.intro | with_reducible intro h_ | trivial | (simp only [go_sem, la2]; omega))
    ·have hng : (lb4 m c (lbN m s.length k).2 (part, q') i).1.getD (m.getD (4 * c + i).toNat 0 / 4).toNat 0 < 0 := by assumption
     have eB : lb4 m c (lbN m s.length k).2 (part, q') (i + 1) = ((lb4 m c (lbN m s.length k).2 (part, q') i).1.set (m.getD (4 * c + i).toNat 0 / 4).toNat (lbN m s.length k).2, (lb4 m c (lbN m s.length k).2 (part, q') i).2 ++ [m.getD (4 * c + i).toNat 0 / 4]) := by
      rw [eL]; unfold lb1; simp only; rw [if_pos hng]
     refine ⟨_, _, _, ?_, ?_, ⟨i + 1, cq.drop off' ++ [m.getD (4 * c + i).toNat 0 / 4], 0, rfl, by omega, ?_, ?_, rfl, rfl⟩⟩
     ·omega
     ·refine Wk.sub ?_ ?_ <;> (rw [eB]; simp only [go_sem, sevalprocAttr])
     ·rw [eB, hod]; simp
     ·rw [eB, hod]; simp
    ·have hng : 0 <= (lb4 m c (lbN m s.length k).2 (part, q') i).1.getD (m.getD (4 * c + i).toNat 0 / 4).toNat 0 := by assumption
     have eB : lb4 m c (lbN m s.length k).2 (part, q') (i + 1) = lb4 m c (lbN m s.length k).2 (part, q') i := by
      rw [eL]; unfold lb1; simp only; rw [if_neg (by omega)]
     refine ⟨_, _, _, ?_, ?_, ⟨i + 1, cq, off', rfl, by omega, ?_, ?_, rfl, rfl⟩⟩
     ·omega
     ·refine Wk.sub ?_ ?_ <;> (rw [eB]; simp only [go_sem, sevalprocAttr])
     ·rw [eB]; exact hol
     ·rw [eB]; exact hod
   ·obtain rfl : i = 4 := by omega
    repeat' (first | omega | ((try apply yaa); simp only [go_sem, sevalprocAttr]) | (apply yad <;> (intro h_; (try simp only [h_]); revert h_)) | apply yac | apply yab | apply gspI | apply And.intro | with_reducible intro h_ | trivial | (simp only [go_sem, la2]; omega))
    obtain ⟨f', rfl⟩ : ∃ f', f = f' + 1 := ⟨f - 1, by omega⟩
    refine ⟨f', _, _, ?_, ?_, ⟨(lb4 m c (lbN m s.length k).2 (part, q') 4).1, (lb4 m c (lbN m s.length k).2 (part, q') 4).2, cq, off', ?_, ?_, g1, g2, hol, hod, ?_, rfl, rfl⟩⟩
    ·omega
    ·refine Wk.sub ?_ ?_ <;> simp only [go_sem, sevalprocAttr]
    ·omega
    ·omega
    ·rw [← hbf]; rfl
  ·obtain rfl : q = [] := List.eq_nil_of_length_eq_zero (by omega)
   have eP : bfs m (lbN m s.length k).2 f part [] = part := by unfold bfs; rfl
   rw [eP] at hbf
   refine ⟨_, _, _, ?_, ?_, ⟨k + 1, by omega, rfl, rfl, rfl⟩⟩
   ·omega
   ·refine Wk.sub ?_ ?_ <;> (rw [eN]; simp only [go_sem, sevalprocAttr])
    exact hbf
 ·obtain rfl : k = s.length := by omega
  exact hpl.symm
 ·obtain rfl : k = s.length := by omega
  exact List.take_of_length_le (by omega)
 ·obtain rfl : k = s.length := by omega
  rfl
end Go.Proofs.YtebdkebfkpbmpaaGreatDoor
set_option linter.unusedSimpArgs false
set_option linter.unusedVariables false
namespace Go.Proofs.YtebdkebfkpbmpaaGreatDoor
open Go Go.RowKit
set_option maxRecDepth 100000
theorem y51 (h b : Int) (h0 : 0 <= h) (h1 : h <= 100000) : Fn Tryz.prog 123 [I h, I b] (I (yb5 h b)) := y50 h b h0 h1
theorem yqi (s m : List Int) (L : Int) (hs : s.length <= 1000) (hm : ya6 m s.length) : Fn Tryz.prog 112 [dgA s m L] (.bool (sphM m s.length)) := by
 obtain ⟨p1, p2, p3, p4⟩ := yit hm
 have hml := hm.1
 refine Fn.intro [.tmp 2] Tryz.func112 rfl rfl (by decide) (by simp [Tryz.ntmps112]) ?_; rw [Tryz.ntmps112]
 repeat' (first | omega | ((try apply yaa); simp only [go_sem, sevalprocAttr]) | (apply yad <;> (intro h_; (try simp only [h_]); revert h_)) | apply yac | apply yab | apply gspI | apply And.intro | with_reducible intro h_ | trivial | (simp only [go_sem, la2]; omega))
 refine ⟨yaf.fn rfl (y14 s m L hs hm) ?_⟩
 repeat' (first | omega | ((try apply yaa); simp only [go_sem, sevalprocAttr]) | (apply yad <;> (intro h_; (try simp only [h_]); revert h_)) | apply yac | apply yab | apply gspI | apply And.intro | with_reducible intro h_ | trivial | (simp only [go_sem, la2]; omega))
 generalize hpt : (yap m s.length).1 = part at *
 generalize hnp : (yap m s.length).2 = np at *
 refine yah.intro (fun n fr H => ∃ k : Nat, k <= part.length /\ n = part.length - k /\ fr = [(22, I k), (21, I part.length), (20, roI part), (5, .sl 1 1 0 np.toNat), (3, roI part), (1, .ptr 0 0)] /\ H = [(1, .cells 3 (.ints (decs part np.toNat k))), (0, .cells 24 (.lst [roI s, roI m, I L]))]) ?_ ?_
 ·refine ⟨_, _, _, ?_, 0, by omega, rfl, rfl, rfl⟩
  refine Wk.sub ?_ ?_ <;> simp only [go_sem, sevalprocAttr]
  simp [decs]
 rintro n fr H ⟨k, hk, rfl, rfl, rfl⟩
 obtain ⟨d1, d2⟩ := yjh part np.toNat k
 by_cases hkl : k < part.length
 ·have q4 := p4 k (by omega)
  have d3 := d2 (part.getD k 0).toNat
  repeat' (first | omega | ((try apply yaa); simp only [go_sem, sevalprocAttr]) | (apply yad <;> (intro h_; (try simp only [h_]); revert h_)) | apply yac | apply yab | apply gspI | apply And.intro | with_reducible intro h_ | trivial | (simp only [go_sem, la2]; omega))
  refine ⟨_, _, _, ?_, ?_, ⟨k + 1, by omega, rfl, rfl, rfl⟩⟩
  ·omega
  ·refine Wk.sub ?_ ?_ <;> simp only [go_sem, sevalprocAttr]
   rfl
 obtain rfl : k = part.length := by omega
 repeat' (first | omega | ((try apply yaa); simp only [go_sem, sevalprocAttr]) | (apply yad <;> (intro h_; (try simp only [h_]); revert h_)) | apply yac | apply yab | apply gspI | apply And.intro | with_reducible intro h_ | trivial | (simp only [go_sem, la2]; omega))
 refine yah.intro (fun n fr H => ∃ h : Nat, h <= m.length /\ n = m.length - h /\ fr = [(40, I h), (39, I m.length), (8, .sl 1 2 0 m.length), (5, .sl 1 1 0 np.toNat), (3, roI part), (1, .ptr 0 0)] /\ H = [(2, .cells 4 (.bools (sphN m part np.toNat h).2)), (1, .cells 3 (.ints (sphN m part np.toNat h).1)), (0, .cells 24 (.lst [roI s, roI m, I L]))]) ?_ ?_
 ·refine ⟨_, _, _, ?_, 0, by omega, rfl, rfl, rfl⟩
  refine Wk.sub ?_ ?_ <;> simp only [go_sem, sevalprocAttr]
  all_goals simp [sphN]
 rintro n fr H ⟨h, hh, rfl, rfl, rfl⟩
 obtain ⟨e1, e2, e3⟩ := yfj m part np.toNat h
 by_cases hhl : h < m.length
 ·have q4 := p4 (h / 4) (by omega)
  have e4 := e3 (part.getD (h / 4) 0).toNat
  have e5 : (h : Int).tdiv 4 = (h / 4 : Nat) := by rw [ydi (by omega)]; omega
  have e6 : ((h : Int).toNat) = h := by omega
  repeat' (first | omega | ((try apply yaa); simp only [go_sem, sevalprocAttr, e5]) | (apply yad <;> (intro h_; (try simp only [h_]); revert h_)) | apply yac | apply yab | apply gspI | apply And.intro | with_reducible intro h_ | trivial | (simp only [go_sem, la2]; omega))
  ·have eS : sphN m part np.toNat (h + 1) = sphN m part np.toNat h := by
    simp only [sphN, sph1]; rw [if_pos (by assumption)]
   refine ⟨_, _, _, ?_, ?_, ⟨h + 1, by omega, rfl, rfl, rfl⟩⟩
   ·omega
   ·refine Wk.sub ?_ ?_ <;> (rw [eS]; simp only [go_sem, sevalprocAttr])
  ·have hf : (sphN m part np.toNat h).2.getD h false = false := by assumption
   have eS : sphN m part np.toNat (h + 1) = ((sphN m part np.toNat h).1.set (part.getD (h / 4) 0).toNat ((sphN m part np.toNat h).1.getD (part.getD (h / 4) 0).toNat 0 + 1), mark m (m.length + 1) (sphN m part np.toNat h).2 h) := by
    simp only [sphN, sph1]; rw [if_neg (nbt hf)]
   have hu := y8a (sphN m part np.toNat h).2
   generalize (sphN m part np.toNat h).2 = seen0 at *
   generalize (sphN m part np.toNat h).1.set (part.getD (h / 4) 0).toNat ((sphN m part np.toNat h).1.getD (part.getD (h / 4) 0).toNat 0 + 1) = exc at *
   refine yah.intro (fun f fr H => ∃ (seen : List Bool) (g : Int), unm seen < f /\ seen.length = m.length /\ 0 <= g /\ g < 4 * s.length /\ mark m f seen g = mark m (m.length + 1) seen0 h /\
    fr = [(10, I g), (40, I h), (39, I m.length), (8, .sl 1 2 0 m.length), (5, .sl 1 1 0 np.toNat), (3, roI part), (1, .ptr 0 0)] /\ H = [(2, .cells 4 (.bools seen)), (1, .cells 3 (.ints exc)), (0, .cells 24 (.lst [roI s, roI m, I L]))]) ?_ ?_
   ·refine ⟨m.length + 1, _, _, ?_, seen0, h, by omega, e2, by omega, by omega, rfl, rfl, rfl⟩
    refine Wk.sub ?_ ?_ <;> simp only [go_sem, sevalprocAttr]
   rintro f fr H ⟨seen, g, hf1, hf2, hg0, hg1, hmk, rfl, rfl⟩
   obtain ⟨f', rfl⟩ : ∃ f', f = f' + 1 := ⟨f - 1, by omega⟩
   have hmr := hm.2 g.toNat (by omega)
   repeat' (first | omega | ((try apply yaa); simp only [go_sem, sevalprocAttr]) | (apply yad <;> (intro h_; (try simp only [h_]); revert h_)) | apply yac | apply yab | apply gspI | apply And.intro | with_reducible intro h_ | trivial | (simp only [go_sem, la2]; omega))
   ·refine ⟨yaf.fn rfl (y51 _ _ hmr.1 (by omega)) ?_⟩
    repeat' (first | omega | ((try apply yaa); simp only [go_sem, sevalprocAttr]) | (apply yad <;> (intro h_; (try simp only [h_]); revert h_)) | apply yac | apply yab | apply gspI | apply And.intro | with_reducible intro h_ | trivial | (simp only [go_sem, la2]; omega))
    have hsg : seen.getD g.toNat false = false := by assumption
    have hus := y5u (l := seen) (i := g.toNat) (by omega) hsg
    have htr := ygo (b := -1) hmr.1 hmr.2
    refine ⟨f', _, _, ?_, ?_, ⟨seen.set g.toNat true, yb5 (m.getD g.toNat 0) (-1), by omega, by simp [hf2], htr.1, htr.2, ?_, rfl, rfl⟩⟩
    ·omega
    ·refine Wk.sub ?_ ?_ <;> simp only [go_sem, sevalprocAttr]
    ·rw [← hmk]; simp only [mark]; rw [if_neg (nbt hsg)]
   ·have hsg : seen.getD g.toNat false = true := by assumption
    have hmk2 : seen = mark m (m.length + 1) seen0 h := by rw [← hmk]; simp only [mark]; rw [if_pos hsg]
    refine ⟨_, _, _, ?_, ?_, ⟨h + 1, by omega, rfl, rfl, rfl⟩⟩
    ·omega
    ·refine Wk.sub ?_ ?_ <;> (rw [eS]; simp only [go_sem, sevalprocAttr])
     exact hmk2
 obtain rfl : h = m.length := by omega
 repeat' (first | omega | ((try apply yaa); simp only [go_sem, sevalprocAttr]) | (apply yad <;> (intro h_; (try simp only [h_]); revert h_)) | apply yac | apply yab | apply gspI | apply And.intro | with_reducible intro h_ | trivial | (simp only [go_sem, la2]; omega))
 refine yah.intro (fun n fr H => ∃ k : Nat, k <= np.toNat /\ n = np.toNat - k /\ (∀ i, i < k -> (sphN m part np.toNat m.length).1.getD i 0 = 2) /\ fr = [(75, I k), (74, I np.toNat), (73, .sl 1 1 0 np.toNat)] /\ H = [(1, .cells 3 (.ints (sphN m part np.toNat m.length).1))]) ?_ ?_
 ·refine ⟨_, _, _, ?_, 0, by omega, rfl, by omega, rfl, rfl⟩
  refine Wk.sub ?_ ?_ <;> simp only [go_sem, sevalprocAttr]
 rintro n fr H ⟨k, hk, rfl, hall, rfl, rfl⟩
 repeat' (first | omega | ((try apply yaa); simp only [go_sem, sevalprocAttr]) | (apply yad <;> (intro h_; (try simp only [h_]); revert h_)) | apply yac | apply yab | apply gspI | apply And.intro | with_reducible intro h_ | trivial | (simp only [go_sem, la2]; omega))
 ·unfold sphM
  rw [hpt, hnp]
  exact (yvx (k := k) (by rw [(yfj m part np.toNat m.length).1]; omega) (by assumption)).symm
 ·refine ⟨_, _, _, ?_, ?_, ⟨k + 1, by omega, rfl, fun i hi => ?_, rfl, rfl⟩⟩
  ·omega
  ·refine Wk.sub ?_ ?_ <;> simp only [go_sem, sevalprocAttr]
  ·rcases Nat.lt_or_ge i k with g | g
   ·exact hall i g
   ·rw [show i = k by omega]; assumption
 ·unfold sphM
  rw [hpt, hnp]
  exact (yxs (fun i hi => hall i (by rw [(yfj m part np.toNat m.length).1] at hi; omega))).symm
end Go.Proofs.YtebdkebfkpbmpaaGreatDoor
set_option linter.unusedSimpArgs false
set_option linter.unusedVariables false
namespace Go.Proofs.YtebdkebfkpbmpaaGreatDoor
open Go Go.RowKit
set_option maxRecDepth 100000
set_option maxHeartbeats 4000000
def yx8 : Tr := .node [(0, .node [(1, .node [(2, .node [(3, .node [(4, .node [(5, .node [(6, .done)])])]), (4, .node [(3, .node [(5, .node [(6, .done)])])])]), (3, .node [(2, .node [(4, .node [(5, .node [(6, .done)])])]), (4, .node [(2, .node [(5, .node [(6, .done)])])])]), (4, .node [(2, .node [(3, .node [(5, .node [(6, .done)])])]), (3, .node [(2, .node [(5, .node [(6, .done)])])])])]), (3, .node [(1, .node [(2, .node [(4, .node [(5, .node [(6, .done)])])]), (4, .node [(2, .node [(5, .node [(6, .done)])])])]), (4, .node [(1, .node [(2, .node [(5, .node [(6, .done)])])])])]), (4, .node [(1, .node [(2, .node [(3, .node [(5, .node [(6, .done)])])]), (3, .node [(2, .node [(5, .node [(6, .done)])])])]), (3, .node [(1, .node [(2, .node [(5, .node [(6, .done)])])])])])]), (1, .node [(0, .node [(2, .node [(3, .node [(4, .node [(5, .node [(6, .done)])])]), (4, .node [(3, .node [(5, .node [(6, .done)])])])]), (3, .node [(2, .node [(4, .node [(5, .node [(6, .done)])])]), (4, .node [(2, .node [(5, .node [(6, .done)])])])]), (4, .node [(2, .node [(3, .node [(5, .node [(6, .done)])])]), (3, .node [(2, .node [(5, .node [(6, .done)])])])])]), (3, .node [(0, .node [(2, .node [(4, .node [(5, .node [(6, .done)])])]), (4, .node [(2, .node [(5, .node [(6, .done)])])])]), (4, .node [(0, .node [(2, .node [(5, .node [(6, .done)])])])])]), (4, .node [(0, .node [(2, .node [(3, .node [(5, .node [(6, .done)])])]), (3, .node [(2, .node [(5, .node [(6, .done)])])])]), (3, .node [(0, .node [(2, .node [(5, .node [(6, .done)])])])])])]), (3, .node [(0, .node [(1, .node [(2, .node [(4, .node [(5, .node [(6, .done)])])]), (4, .node [(2, .node [(5, .node [(6, .done)])])])]), (4, .node [(1, .node [(2, .node [(5, .node [(6, .done)])])])])]), (1, .node [(0, .node [(2, .node [(4, .node [(5, .node [(6, .done)])])]), (4, .node [(2, .node [(5, .node [(6, .done)])])])]), (4, .node [(0, .node [(2, .node [(5, .node [(6, .done)])])])])]), (4, .node [(0, .node [(1, .node [(2, .node [(5, .node [(6, .done)])])])]), (1, .node [(0, .node [(2, .node [(5, .node [(6, .done)])])])])])]), (4, .node [(0, .node [(1, .node [(2, .node [(3, .node [(5, .node [(6, .done)])])]), (3, .node [(2, .node [(5, .node [(6, .done)])])])]), (3, .node [(1, .node [(2, .node [(5, .node [(6, .done)])])])])]), (1, .node [(0, .node [(2, .node [(3, .node [(5, .node [(6, .done)])])]), (3, .node [(2, .node [(5, .node [(6, .done)])])])]), (3, .node [(0, .node [(2, .node [(5, .node [(6, .done)])])])])]), (3, .node [(0, .node [(1, .node [(2, .node [(5, .node [(6, .done)])])])]), (1, .node [(0, .node [(2, .node [(5, .node [(6, .done)])])])])])])]
theorem yqj (s m : List Int) (L : Int) : Fn Tryz.prog 63 [dgA s m L] (.bool (ya3 s m L)) := by
 refine Fn.intro [.tmp 2] Tryz.func63 rfl rfl (by decide) (by simp [Tryz.ntmps63]) ?_; rw [Tryz.ntmps63]
 repeat' (first | omega | ((try apply yaa); simp only [go_sem, sevalprocAttr]) | (apply yad <;> (intro h_; (try simp only [h_]); revert h_)) | apply yac | apply yab | apply gspI | apply And.intro | with_reducible intro h_ | trivial | (simp only [go_sem, la2]; omega))
 ·exact vbF (by omega)
 rotate_left
 ·exact vbF (by omega)
 ·exact vbF (by omega)
 ·exact vbF (by omega)
 refine yah.intro (fun n fr H => ∃ k : Nat, k <= s.length /\ n = s.length - k /\ yc3 s k /\ fr = [(34, I k), (33, I s.length), (32, roI s), (3, I s.length), (1, .ptr 0 0)] /\ H = [(0, .cells 24 (.lst [roI s, roI m, I L]))]) ?_ ?_
 ·refine ⟨_, _, _, ?_, 0, by omega, rfl, (fun i hi => by omega), rfl, rfl⟩
  refine Wk.sub ?_ ?_ <;> simp only [go_sem, sevalprocAttr]
 rintro n fr H ⟨k, hk, rfl, hso, rfl, rfl⟩
 repeat' (first | omega | ((try apply yaa); simp only [go_sem, sevalprocAttr]) | (apply yad <;> (intro h_; (try simp only [h_]); revert h_)) | apply yac | apply yab | apply gspI | apply And.intro | with_reducible intro h_ | trivial | (simp only [go_sem, la2]; omega))
 ·exact vbF fun hv => by have := hv.2.2.2.2.1 k (by omega); omega
 ·refine ⟨_, _, _, ?_, ?_, ⟨k + 1, by omega, rfl, yfx hso (by omega), rfl, rfl⟩⟩
  ·omega
  ·refine Wk.sub ?_ ?_ <;> simp only [go_sem, sevalprocAttr]
 ·refine ⟨_, _, _, ?_, ?_, ⟨k + 1, by omega, rfl, yfx hso (by omega), rfl, rfl⟩⟩
  ·omega
  ·refine Wk.sub ?_ ?_ <;> simp only [go_sem, sevalprocAttr]
 obtain rfl : k = s.length := by omega
 refine yah.intro (fun n fr H => ∃ k : Nat, k <= m.length /\ n = m.length - k /\ yc4 s m k /\ fr = [(48, I k), (47, I m.length), (46, roI m), (3, I s.length), (1, .ptr 0 0)] /\ H = [(0, .cells 24 (.lst [roI s, roI m, I L]))]) ?_ ?_
 ·refine ⟨_, _, _, ?_, 0, by omega, rfl, (fun i hi => by omega), rfl, rfl⟩
  refine Wk.sub ?_ ?_ <;> simp only [go_sem, sevalprocAttr]
 rintro n fr H ⟨h, hh, rfl, hmo, rfl, rfl⟩
 repeat' (first | omega | ((first | apply yaa | (refine yae.intro (id := 15) [[76,78,79],[75,78,79],[78,79],[75,76,77,79],[75,76,77,78],[],[]] [[],[0],[],[0,1,2],[0,1,2,3],[],[]] (by decide +kernel) mixed ?_) | (refine yae.introT (id := 15) (yx8) (by decide +kernel) mixed ?_) | skip); simp only [go_sem, sevalprocAttr, ↓reduceIte, reduceCtorEq, yx8]) | (apply yad <;> (intro h_; (try simp only [h_]); revert h_)) | apply yac | apply yab | apply gspI | apply And.intro | with_reducible intro h_ | trivial | (simp only [go_sem, la2]; omega))
 ·exact vbF fun hv => by have := hv.2.2.2.2.2 h (by omega); omega
 ·have h4 : m.getD h 0 < 4 * s.length := by assumption
  refine ⟨yau.fn rfl (ykm s m L h (by omega) (by omega) (by omega)) ?_⟩
  repeat' (first | omega | ((try apply yaa); simp only [go_sem, sevalprocAttr]) | (apply yad <;> (intro h_; (try simp only [h_]); revert h_)) | apply yac | apply yab | apply gspI | apply And.intro | with_reducible intro h_ | trivial | (simp only [go_sem, la2]; omega))
  refine ⟨yau.fn rfl (ykm s m L (m.getD h 0) (by assumption) h4 (by omega)) ?_⟩
  repeat' (first | omega | ((try apply yaa); simp only [go_sem, sevalprocAttr]) | (apply yad <;> (intro h_; (try simp only [h_]); revert h_)) | apply yac | apply yab | apply gspI | apply And.intro | with_reducible intro h_ | trivial | (simp only [go_sem, la2]; omega))
  ·exact vbF fun hv => by have := hv.2.2.2.2.2 h (by omega); simp_all
  ·refine ⟨_, _, _, ?_, ?_, ⟨h + 1, by omega, rfl, yiu hmo ⟨by assumption, h4, by assumption, by assumption, by assumption⟩, rfl, rfl⟩⟩
   ·omega
   ·refine Wk.sub ?_ ?_ <;> simp only [go_sem, sevalprocAttr]
 ·exact vbF fun hv => by have := hv.2.2.2.2.2 h (by omega); omega
 ·exact vbF fun hv => by have := hv.2.2.2.2.2 h (by omega); omega
 ·exact vbF fun hv => by have := hv.2.2.2.2.2 h (by omega); omega
 ·have hm : m.length = 4 * s.length := by omega
  obtain rfl : h = 4 * s.length := by omega
  refine ⟨yaf.fn rfl (yqi s m L (by omega) ⟨hm, fun i hi => ⟨(hmo i hi).1, (hmo i hi).2.1⟩⟩) ?_⟩
  repeat' (first | omega | ((try apply yaa); simp only [go_sem, sevalprocAttr]) | (apply yad <;> (intro h_; (try simp only [h_]); revert h_)) | apply yac | apply yab | apply gspI | apply And.intro | with_reducible intro h_ | trivial | (simp only [go_sem, la2]; omega))
  exact vbT ⟨by omega, hm, by assumption, by assumption, hso, hmo⟩
abbrev dgC (s m : List Int) (L : Int) : Cs := .lst [roI s, roI m, I L]
attribute [go_sem] dgC
end Go.Proofs.YtebdkebfkpbmpaaGreatDoor
