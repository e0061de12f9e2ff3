/- Layer 17: follow: the new pairing, and the circles that are closed. -/
import Derived.Test.YtebdkebfkpbmpaaGreatDoorTw1
import Derived.Test.YtebdkebfkpbmpaaGreatDoorXa
import Derived.Test.YtebdkebfkpbmpaaGreatDoorGd
set_option linter.unusedSimpArgs false
set_option linter.unusedVariables false
namespace Go.Proofs.YtebdkebfkpbmpaaGreatDoor
open Go Go.RowKit
set_option maxRecDepth 100000
set_option maxHeartbeats 8000000
abbrev arcF (cnt : Nat) (T : List Nat) (J : List Int) (x : Nat) : Nat := (arcV cnt T J x).toNat
abbrev gluF (glue : List Int) (x : Nat) : Int := glue.getD x 0
theorem y59 (n : Nat) : (List.replicate n [AV.int .u8 0]).flatten = (List.replicate n (0 : Int)).map (AV.int .u8) := by
 induction n with
 | zero => rfl
 | succ n ih => rw [List.replicate_succ, List.flatten_cons, ih, List.replicate_succ]; rfl
theorem yyc {ts : List Int} {x : AV} (h : x ∈ ts.map (AV.int .u8)) : ∃ n, x = .int .u8 n := by
 obtain ⟨n, _, rfl⟩ := List.mem_map.1 h; exact ⟨n, rfl⟩
theorem y3v (ts : List Int) : (ts.map (AV.int .u8)).all p1 = true := List.all_eq_true.2 fun x hx => by obtain ⟨n, rfl⟩ := yyc hx; rfl
theorem yd3 (H : Hp) (ts : List Int) : (ts.map (AV.int .u8)).all (s3 H) = true := List.all_eq_true.2 fun x hx => by obtain ⟨n, rfl⟩ := yyc hx; rfl
theorem y8i (H : Hp) (n : Nat) (ts : List Int) : (ts.map (AV.int .u8)).map (frzV H (n + 1)) = ts.map (AV.int .u8) := yyb (y3v ts) H n
theorem y6a (H : Hp) (n : Nat) (ts : List Int) : (∀ x ∈ ts.map (AV.int .u8), frzP H (n + 1) x) = True := yto (y3v ts) H n
theorem yyd (ts : List Int) (i : Nat) (v : Int) : (ts.map (AV.int .u8)).set i (.int .u8 v) = (ts.set i v).map (AV.int .u8) := List.map_set.symm
structure y3w (cnt : Nat) (glue index : List Int) (E : Nat) (T : List Nat) (J : List Int) : Prop where
 gl : glue.length = cnt + 4
 il : index.length = cnt + 4
 hT : T.length = cnt
 hb : ∀ i ∈ T, i < 100
 hJ : J.length = 4
 hJr : ∀ i, 0 <= J.getD i 0 /\ J.getD i 0 <= 3
 hc : cnt <= 90
 hE : E <= 99
 gr : ∀ x, x < cnt + 4 -> -1 <= glue.getD x 0 /\ glue.getD x 0 < cnt + 4
 ix : ∀ x, x < cnt + 4 -> (0 <= glue.getD x 0 -> index.getD x 0 = -1) /\ (glue.getD x 0 < 0 -> 0 <= index.getD x 0 /\ index.getD x 0 < E)
 ar : ∀ x, x < cnt + 4 -> 0 <= arcV cnt T J x /\ arcV cnt T J x < cnt + 4
 hP : ∀ k, k < cnt + 4 -> glue.getD k 0 < 0 -> ∃ ys e, Pth (arcF cnt T J) (gluF glue) k ys e /\ ys.length <= cnt + 4
 hC : ∀ k, k < cnt + 4 -> 0 <= glue.getD k 0 -> (cirN (cnt + 4) (arcF cnt T J) (gluF glue) (endN (cnt + 4) (arcF cnt T J) (gluF glue) (cnt + 4)) k).1.getD k false = false -> ∃ zs, Cyc (arcF cnt T J) (gluF glue) (cirN (cnt + 4) (arcF cnt T J) (gluF glue) (endN (cnt + 4) (arcF cnt T J) (gluF glue) (cnt + 4)) k).1 k zs /\ zs.length <= cnt + 4
theorem Pth.endW {arc : Nat -> Nat} {glue : Nat -> Int} {W : Nat} (har : ∀ x, x < W -> arc x < W) (hgr : ∀ x, x < W -> 0 <= glue x -> (glue x).toNat < W) {u e : Nat} {ys : List Nat} (h : Pth arc glue u ys e) : u < W -> e < W /\ glue e < 0 := by
 induction h with
 | nil h => exact fun hu => ⟨har _ hu, h⟩
 | cons h k ih => exact fun hu => ih (hgr _ (har _ hu) h)
theorem yye (cnt : Nat) (glue index ends : List Int) (T : List Nat) (J : List Int) (h : y3w cnt glue index ends.length T J) :
  Fn Tryz.prog 134 [.agg [I cnt, roI glue, roI index, roI ends], .str (pS T), .agg (J.map (AV.int .i64))]
   (.tup [.str (strB (txN (arcF cnt T J) (gluF glue) (fun x => index.getD x 0) (cnt + 4) ends.length (cnt + 4))), I (cirN (cnt + 4) (arcF cnt T J) (gluF glue) (endN (cnt + 4) (arcF cnt T J) (gluF glue) (cnt + 4)) (cnt + 4)).2]) := by
 obtain ⟨j0, j1, j2, j3, rfl⟩ : ∃ j0 j1 j2 j3, J = [j0, j1, j2, j3] := by
  have := h.hJ
  match J, this with
  | [a, b, c, d], _ => exact ⟨a, b, c, d, rfl⟩
 have hA := fun x (hx : x < cnt + 4) => y8f cnt x glue index ends T [j0, j1, j2, j3] h.hT h.hb h.hJ h.hJr hx (by have := h.hc; omega)
 have hAn : ∀ x, x < cnt + 4 -> arcV cnt T [j0, j1, j2, j3] x = (arcF cnt T [j0, j1, j2, j3] x : Int) /\ arcF cnt T [j0, j1, j2, j3] x < cnt + 4 := fun x hx => by have := h.ar x hx; unfold arcF; exact ⟨by omega, by omega⟩
 obtain ⟨hgl, hil, _, _, _, _, hc90, hE99, hgr, hix, _, hP, hC⟩ := h
 have hA2 : ∀ x, x < cnt + 4 -> Fn Tryz.prog 157 [I x, .rp (.lst [I cnt, roI glue, roI index, roI ends]) 0, .rp (.lst [.str (pS T)]) 0, .rp (.lst [I j0, I j1, I j2, I j3]) 0] (I (arcF cnt T [j0, j1, j2, j3] x : Nat)) := fun x hx => by
  have := hA x hx
  rw [(hAn x hx).1] at this
  exact this
 have hAl := fun x hx => (hAn x hx).2
 clear hA hAn
 generalize arcF cnt T [j0, j1, j2, j3] = arc at *
 have hW94 : cnt + 4 <= 94 := by omega
 generalize hWd : cnt + 4 = W at *
 obtain ⟨S, hS⟩ : ∃ S, S = Cs.lst [I cnt, roI glue, roI index, roI ends] := ⟨_, rfl⟩
 have hgW : ∀ x, x < W -> 0 <= gluF glue x -> (gluF glue x).toNat < W /\ ((gluF glue x).toNat : Int) = gluF glue x := fun x hx h0 => by
  have := hgr x hx
  unfold gluF at *
  exact ⟨by omega, by omega⟩
 refine Fn.introL [.tmp 6, .tmp 7] Tryz.func134 rfl rfl (by decide) (by simp [Tryz.ntmps134]) ?_; rw [Tryz.ntmps134]
 repeat' (first | omega | ((try apply yaa); simp only [go_sem, sevalprocAttr, y59, Int.toNat_natCast]) | (apply yad <;> (intro h_; (try simp only [h_]); revert h_)) | apply yac | apply yab | apply gspI | apply And.intro | with_reducible intro h_ | trivial | (simp only [go_sem, la2]; omega))
 refine yah.intro (fun n fr H => ∃ k : Nat, k <= W /\ n = W - k /\ fr = [(31, I k), (30, I index.length), (29, roI index), (10, .sl 1 4 0 ends.length), (9, .sl 1 3 0 glue.length), (8, .fn 157 [.rp (.lst [I cnt, roI glue, roI index, roI ends]) 0, .rp (.lst [.str (pS T)]) 0, .rp (.lst [I j0, I j1, I j2, I j3]) 0]), (3, .rp (.lst [I cnt, roI glue, roI index, roI ends]) 0)] /\ H = [(4, .cells 5 (.lst ((txN arc (gluF glue) (fun x => index.getD x 0) W ends.length k).map (AV.int .u8)))), (3, .cells 4 (.bools (endN W arc (gluF glue) k)))]) ?_ ?_
 ·refine ⟨_, _, _, ?_, 0, by omega, rfl, rfl, rfl⟩
  refine Wk.trans (Wk.frz [0, 1, 2] ?_ ?_ rfl rfl) (Wk.sub ?_ ?_)
  all_goals (simp only [go_sem, sevalprocAttr, txN, endN, hgl, Int.toNat_natCast, yd3, y8i, y6a])
 rintro n fr H ⟨k, hk, rfl, rfl, rfl⟩
 have tl := yef arc (gluF glue) (fun x => index.getD x 0) W ends.length k
 have sl := yh4 W arc (gluF glue) k
 by_cases hkW : k < W
 ·have bk : decide ((k : Int) < index.length) = true := by simp; omega
  have hixk := hix k hkW
  by_cases hg : 0 <= glue.getD k 0
  ·have h1 := hixk.1 hg
   have b1 : decide (index.getD k 0 < 0) = true := by rw [decide_eq_true_eq]; omega
   have e1 : txN arc (gluF glue) (fun x => index.getD x 0) W ends.length (k + 1) = txN arc (gluF glue) (fun x => index.getD x 0) W ends.length k := by simp only [txN]; rw [if_pos (by omega)]
   have e2 : endN W arc (gluF glue) (k + 1) = endN W arc (gluF glue) k := by simp only [endN]; rw [if_pos (show 0 <= gluF glue k from hg)]
   repeat' (first | omega | ((try apply yaa); simp only [go_sem, sevalprocAttr, bk, b1]) | (apply yad <;> (intro h_; (try simp only [h_]); revert h_)) | apply yac | apply yab | apply gspI | apply And.intro | with_reducible intro h_ | trivial | (simp only [go_sem, la2]; omega))
   refine ⟨_, _, _, ?_, ?_, ⟨k + 1, by omega, rfl, rfl, rfl⟩⟩
   ·omega
   ·rw [e1, e2]
    refine Wk.sub ?_ ?_ <;> (simp only [go_sem, sevalprocAttr, yd3])
  ·have h1 := hixk.2 (by omega)
   have b1 : decide (index.getD k 0 < 0) = false := by rw [decide_eq_false_iff_not]; omega
   obtain ⟨ys, e, hp, hpl⟩ := hP k hkW (by omega)
   have hrun := yee hp (W + 1) (endN W arc (gluF glue) k) (by omega)
   have hrun0 := yee hp (W + 1) [] (by omega)
   obtain ⟨heW, heg⟩ := hp.endW hAl (fun x hx h0 => (hgW x hx h0).1) hkW
   have e1 : txN arc (gluF glue) (fun x => index.getD x 0) W ends.length (k + 1) = (txN arc (gluF glue) (fun x => index.getD x 0) W ends.length k).set (index.getD k 0).toNat (97 + index.getD e 0) := by
    simp only [txN]; rw [if_neg (by omega), hrun0]
   have e2 : endN W arc (gluF glue) (k + 1) = ys.foldl (setP (gluF glue)) (endN W arc (gluF glue) k) := by
    simp only [endN]; rw [if_neg (show ¬ 0 <= gluF glue k from hg), hrun]
   generalize txN arc (gluF glue) (fun x => index.getD x 0) W ends.length k = ts at *
   generalize endN W arc (gluF glue) k = sn0 at *
   have hAk := hA2 k hkW
   repeat' (first | omega | ((try apply yaa); simp only [go_sem, sevalprocAttr, bk, b1]) | (apply yad <;> (intro h_; (try simp only [h_]); revert h_)) | apply yac | apply yab | apply gspI | apply And.intro | with_reducible intro h_ | trivial | (simp only [go_sem, la2]; omega))
   refine ⟨yaf.fn rfl hAk ?_⟩
   repeat' (first | omega | ((try apply yaa); simp only [go_sem, sevalprocAttr, bk, b1]) | (apply yad <;> (intro h_; (try simp only [h_]); revert h_)) | apply yac | apply yab | apply gspI | apply And.intro | with_reducible intro h_ | trivial | (simp only [go_sem, la2]; omega))
   refine yah.intro (fun n fr H => ∃ (u : Nat) (zs : List Nat) (sn : List Bool), n = zs.length /\ u < W /\ Pth arc (gluF glue) u zs e /\ sn.length = W /\ zs.foldl (setP (gluF glue)) sn = ys.foldl (setP (gluF glue)) sn0 /\ fr = [(13, I (arc u : Nat)), (12, I (index.getD k 0)), (31, I k), (30, I index.length), (29, roI index), (10, .sl 1 4 0 ends.length), (9, .sl 1 3 0 glue.length), (8, .fn 157 [.rp (.lst [I cnt, roI glue, roI index, roI ends]) 0, .rp (.lst [.str (pS T)]) 0, .rp (.lst [I j0, I j1, I j2, I j3]) 0]), (3, .rp (.lst [I cnt, roI glue, roI index, roI ends]) 0)] /\ H = [(4, .cells 5 (.lst (ts.map (AV.int .u8)))), (3, .cells 4 (.bools sn))]) ?_ ?_
   ·refine ⟨_, _, _, ?_, k, ys, sn0, rfl, hkW, hp, sl, rfl, rfl, rfl⟩
    refine Wk.sub ?_ ?_ <;> (simp only [go_sem, sevalprocAttr, yd3])
   rintro n fr H ⟨u, zs, sn, rfl, hu, hpz, hsl, hfold, rfl, rfl⟩
   have hau := hAl u hu
   cases hpz with
   | nil hn =>
     have b2 : decide (0 <= glue.getD (arc u) 0) = false := by have : gluF glue (arc u) = glue.getD (arc u) 0 := rfl; rw [decide_eq_false_iff_not]; omega
     have hie := (hix (arc u) hau).2 hn
     have w1 : IntKind.u8.wrap (97 + index.getD (arc u) 0) = 97 + index.getD (arc u) 0 := IntWalk.u8_in _ (by omega)
     simp only [List.foldl_nil] at hfold
     rw [← hfold] at e2
     repeat' (first | omega | ((try apply yaa); simp only [go_sem, sevalprocAttr, b2, w1, yyd, List.length_map, Int.toNat_natCast]) | (apply yad <;> (intro h_; (try simp only [h_]); revert h_)) | apply yac | apply yab | apply gspI | apply And.intro | with_reducible intro h_ | trivial | (simp only [go_sem, la2]; omega))
     refine ⟨_, _, _, ?_, ?_, ⟨k + 1, by omega, rfl, rfl, rfl⟩⟩
     ·omega
     ·rw [e1, e2]
      refine Wk.sub ?_ ?_ <;> (simp only [go_sem, sevalprocAttr, yd3, yyd])
   | @cons _ _ ys' hc hk2 =>
     obtain ⟨zW, ze⟩ := hgW (arc u) hau hc
     have b2 : decide (0 <= glue.getD (arc u) 0) = true := by have : gluF glue (arc u) = glue.getD (arc u) 0 := rfl; rw [decide_eq_true_eq]; omega
     have hz : glue.getD (arc u) 0 = ((gluF glue (arc u)).toNat : Int) := ze.symm
     have hAz := hA2 _ zW
     rw [List.foldl_cons] at hfold
     have hsp : setP (gluF glue) sn (arc u) = (sn.set (arc u) true).set (gluF glue (arc u)).toNat true := rfl
     generalize (gluF glue (arc u)).toNat = z at *
     repeat' (first | omega | ((try apply yaa); simp only [go_sem, sevalprocAttr, b2, hz, List.length_set, Int.toNat_natCast]) | (apply yad <;> (intro h_; (try simp only [h_]); revert h_)) | apply yac | apply yab | apply gspI | apply And.intro | with_reducible intro h_ | trivial | (simp only [go_sem, la2]; omega))
     refine ⟨yaf.fn rfl hAz ?_⟩
     repeat' (first | omega | ((try apply yaa); simp only [go_sem, sevalprocAttr, b2, hz]) | (apply yad <;> (intro h_; (try simp only [h_]); revert h_)) | apply yac | apply yab | apply gspI | apply And.intro | with_reducible intro h_ | trivial | (simp only [go_sem, la2]; omega))
     refine ⟨_, _, _, ?_, ?_, z, ys', _, rfl, zW, hk2, ?_, hfold, rfl, rfl⟩
     ·simp
     ·rw [hsp]
      refine Wk.sub ?_ ?_ <;> (simp only [go_sem, sevalprocAttr, yd3])
     ·rw [yh1]; exact hsl
 obtain rfl : k = W := by omega
 have bk : decide ((k : Int) < index.length) = false := by simp; omega
 generalize hts : txN arc (gluF glue) (fun x => index.getD x 0) k ends.length k = ts at *
 have hcl := fun j => yh5 k arc (gluF glue) (endN k arc (gluF glue) k) j
 have hcle := fun j => yno k arc (gluF glue) (endN k arc (gluF glue) k) j
 have hc0 : cirN k arc (gluF glue) (endN k arc (gluF glue) k) 0 = (endN k arc (gluF glue) k, 0) := rfl
 have hcs : ∀ j, cirN k arc (gluF glue) (endN k arc (gluF glue) k) (j + 1) = if gluF glue j < 0 \/ (cirN k arc (gluF glue) (endN k arc (gluF glue) k) j).1.getD j false = true then cirN k arc (gluF glue) (endN k arc (gluF glue) k) j else (cycN arc (gluF glue) (k + 1) (cirN k arc (gluF glue) (endN k arc (gluF glue) k) j).1 j, (cirN k arc (gluF glue) (endN k arc (gluF glue) k) j).2 + 1) := fun j => rfl
 generalize cirN k arc (gluF glue) (endN k arc (gluF glue) k) = C at *
 generalize endN k arc (gluF glue) k = sn0 at *
 have hbi : ts.length = ends.length := tl
 repeat' (first | omega | ((try apply yaa); simp only [go_sem, sevalprocAttr, bk]) | (apply yad <;> (intro h_; (try simp only [h_]); revert h_)) | apply yac | apply yab | apply gspI | apply And.intro | with_reducible intro h_ | trivial | (simp only [go_sem, la2]; omega))
 refine yah.intro (fun n fr H => ∃ j : Nat, j <= k /\ n = k - j /\ fr = [(75, I j), (74, I glue.length), (73, roI glue), (15, I (C j).2), (10, .sl 1 4 0 ends.length), (9, .sl 1 3 0 glue.length), (8, .fn 157 [.rp (.lst [I cnt, roI glue, roI index, roI ends]) 0, .rp (.lst [.str (pS T)]) 0, .rp (.lst [I j0, I j1, I j2, I j3]) 0]), (3, .rp (.lst [I cnt, roI glue, roI index, roI ends]) 0)] /\ H = [(4, .cells 5 (.lst (ts.map (AV.int .u8)))), (3, .cells 4 (.bools (C j).1))]) ?_ ?_
 ·refine ⟨_, _, _, ?_, 0, by omega, rfl, rfl, rfl⟩
  rw [hc0]
  refine Wk.sub ?_ ?_ <;> (simp only [go_sem, sevalprocAttr, yd3])
 rintro n fr H ⟨j, hj, rfl, rfl, rfl⟩
 by_cases hjk : j < k
 ·have bj : decide ((j : Int) < glue.length) = true := by simp; omega
  have hl := hcl j
  have hle := hcle j
  have hs := hcs j
  have hCj := hC j hjk
  generalize hCe : C j = C0 at *
  obtain ⟨sn, c⟩ := C0
  simp only at hl hle hs hCj
  by_cases hg : glue.getD j 0 < 0
  ·have b1 : decide (glue.getD j 0 < 0) = true := by rw [decide_eq_true_eq]; exact hg
   rw [if_pos (.inl hg)] at hs
   repeat' (first | omega | ((try apply yaa); simp only [go_sem, sevalprocAttr, bj, b1]) | (apply yad <;> (intro h_; (try simp only [h_]); revert h_)) | apply yac | apply yab | apply gspI | apply And.intro | with_reducible intro h_ | trivial | (simp only [go_sem, la2]; omega))
   refine ⟨_, _, _, ?_, ?_, ⟨j + 1, by omega, rfl, rfl, rfl⟩⟩
   ·omega
   ·rw [hs]
    refine Wk.sub ?_ ?_ <;> (simp only [go_sem, sevalprocAttr, yd3])
  ·have b1 : decide (glue.getD j 0 < 0) = false := by rw [decide_eq_false_iff_not]; exact hg
   cases hsj : sn.getD j false with
   | true =>
     rw [if_pos (.inr hsj)] at hs
     repeat' (first | omega | ((try apply yaa); simp only [go_sem, sevalprocAttr, bj, b1, hsj]) | (apply yad <;> (intro h_; (try simp only [h_]); revert h_)) | apply yac | apply yab | apply gspI | apply And.intro | with_reducible intro h_ | trivial | (simp only [go_sem, la2]; omega))
     refine ⟨_, _, _, ?_, ?_, ⟨j + 1, by omega, rfl, rfl, rfl⟩⟩
     ·omega
     ·rw [hs]
      refine Wk.sub ?_ ?_ <;> (simp only [go_sem, sevalprocAttr, yd3])
   | false =>
     rw [if_neg (by rw [hsj]; simp; exact Int.not_lt.1 hg)] at hs
     obtain ⟨zs, hcy, hzl⟩ := hCj (Int.not_lt.1 hg) hsj
     have hcr := yqq hcy (k + 1) (by omega)
     rw [hcr] at hs
     repeat' (first | omega | ((try apply yaa); simp only [go_sem, sevalprocAttr, bj, b1, hsj]) | (apply yad <;> (intro h_; (try simp only [h_]); revert h_)) | apply yac | apply yab | apply gspI | apply And.intro | with_reducible intro h_ | trivial | (simp only [go_sem, la2]; omega))
     refine yah.intro (fun n fr H => ∃ (z : Nat) (zs' : List Nat) (s1 : List Bool), n = zs'.length /\ z < k /\ Cyc arc (gluF glue) s1 z zs' /\ s1.length = k /\ zs'.foldl (setP (gluF glue)) s1 = zs.foldl (setP (gluF glue)) sn /\ fr = [(18, I z), (75, I j), (74, I glue.length), (73, roI glue), (15, I ((c : Int) + 1)), (10, .sl 1 4 0 ends.length), (9, .sl 1 3 0 glue.length), (8, .fn 157 [.rp (.lst [I cnt, roI glue, roI index, roI ends]) 0, .rp (.lst [.str (pS T)]) 0, .rp (.lst [I j0, I j1, I j2, I j3]) 0]), (3, .rp (.lst [I cnt, roI glue, roI index, roI ends]) 0)] /\ H = [(4, .cells 5 (.lst (ts.map (AV.int .u8)))), (3, .cells 4 (.bools s1))]) ?_ ?_
     ·refine ⟨_, _, _, ?_, j, zs, sn, rfl, hjk, hcy, by omega, rfl, rfl, rfl⟩
      refine Wk.sub ?_ ?_ <;> (simp only [go_sem, sevalprocAttr, yd3])
     rintro n fr H ⟨z, zs', s1, rfl, hz, hcz, hsl1, hfold, rfl, rfl⟩
     cases hcz with
     | stop hst =>
       simp only [List.foldl_nil] at hfold
       repeat' (first | omega | ((try apply yaa); simp only [go_sem, sevalprocAttr, hst]) | (apply yad <;> (intro h_; (try simp only [h_]); revert h_)) | apply yac | apply yab | apply gspI | apply And.intro | with_reducible intro h_ | trivial | (simp only [go_sem, la2]; omega))
       refine ⟨_, _, _, ?_, ?_, ⟨j + 1, by omega, rfl, rfl, rfl⟩⟩
       ·omega
       ·rw [hs, hfold]
        have ec : ((c + 1 : Nat) : Int) = (c : Int) + 1 := by omega
        refine Wk.sub ?_ ?_ <;> (simp only [go_sem, sevalprocAttr, yd3, ec])
     | @step _ _ zs2 hst hgz hk2 =>
       obtain ⟨gW, ge⟩ := hgW z hz hgz
       have hgz2 : glue.getD z 0 = ((gluF glue z).toNat : Int) := ge.symm
       have hAz := hA2 _ gW
       rw [List.foldl_cons] at hfold
       have hsp : setP (gluF glue) s1 z = (s1.set z true).set (gluF glue z).toNat true := rfl
       have haz := hAl _ gW
       generalize (gluF glue z).toNat = y at *
       repeat' (first | omega | ((try apply yaa); simp only [go_sem, sevalprocAttr, hst, hgz2, List.length_set, Int.toNat_natCast]) | (apply yad <;> (intro h_; (try simp only [h_]); revert h_)) | apply yac | apply yab | apply gspI | apply And.intro | with_reducible intro h_ | trivial | (simp only [go_sem, la2]; omega))
       refine ⟨yaf.fn rfl hAz ?_⟩
       repeat' (first | omega | ((try apply yaa); simp only [go_sem, sevalprocAttr, hst, hgz2]) | (apply yad <;> (intro h_; (try simp only [h_]); revert h_)) | apply yac | apply yab | apply gspI | apply And.intro | with_reducible intro h_ | trivial | (simp only [go_sem, la2]; omega))
       refine ⟨_, _, _, ?_, ?_, arc y, zs2, _, rfl, haz, hk2, ?_, hfold, rfl, rfl⟩
       ·simp
       ·rw [hsp]
        refine Wk.sub ?_ ?_ <;> (simp only [go_sem, sevalprocAttr, yd3])
       ·rw [yh1]; exact hsl1
 ·obtain rfl : j = k := by omega
  have bj : decide ((j : Int) < glue.length) = false := by simp; omega
  have hle := hcle j
  generalize (C j).1 = snf at *
  generalize (C j).2 = cf at *
  repeat' (first | omega | ((try apply yaa); simp only [go_sem, sevalprocAttr, bj]) | (apply yad <;> (intro h_; (try simp only [h_]); revert h_)) | apply yac | apply yab | apply gspI | apply And.intro | with_reducible intro h_ | trivial | (simp only [go_sem, la2]; omega))
  refine SpL.b2s (e := 5) (ts := ts) (t := 5) rfl rfl (by simp only [go_sem, sevalprocAttr]) (by simp only [go_sem, sevalprocAttr]) (by simp only [go_sem, sevalprocAttr]) (by rw [hbi]; rfl) rfl ?_
  repeat' (first | omega | ((try apply yaa); simp only [go_sem, sevalprocAttr]) | (apply yad <;> (intro h_; (try simp only [h_]); revert h_)) | apply yac | apply yab | apply gspI | apply And.intro | with_reducible intro h_ | trivial | (simp only [go_sem, la2]; omega))
  all_goals exact LeA.refl _
end Go.Proofs.YtebdkebfkpbmpaaGreatDoor
