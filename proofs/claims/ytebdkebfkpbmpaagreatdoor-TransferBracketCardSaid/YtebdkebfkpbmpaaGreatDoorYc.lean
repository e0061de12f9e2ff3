/- The reference of layer 12: Of. -/
import Derived.Test.YtebdkebfkpbmpaaGreatDoorRt1
import Derived.Test.YtebdkebfkpbmpaaGreatDoorXo
set_option linter.unusedSimpArgs false
set_option linter.unusedVariables false
namespace Go.Proofs.YtebdkebfkpbmpaaGreatDoor
open Go Go.RowKit
set_option maxRecDepth 100000
set_option maxHeartbeats 8000000
def ycz : List (List Nat) := [[45,46,47,48,49,50,51,52,53],[45,46,47,48,49,50,51,52,53],[43,44,46,48,49,50,51],[43,44,45,48,49,50,51],[43,44,48,49,50,51],[43,44,45,46,47,49],[43,44,45,46,47,48],[43,44,45,46,47],[43,44,45,46,47],[43,44],[43,44],[],[],[]]
def yc0 : List (List Nat) := [[],[],[0,1],[0,1,2],[0,1],[0,1,2,3,4],[0,1,2,3,4,5],[0,1,2,3,4],[0,1,2,3,4],[0,1],[0,1],[],[],[]]
theorem ysb : ∀ (q : List Int) (i : Int) (a : Int), Sp.tmsF i (q ++ [a]) = Sp.tmsF i q ++ (if a = 0 then [] else [(i + q.length, a)])
 | [], i, a => by simp only [List.nil_append, Sp.tmsF, List.length_nil]; split <;> simp
 | b :: q, i, a => by
   have := ysb q (i + 1) a
   simp only [List.cons_append, Sp.tmsF, List.length_cons]
   rw [this]
   rw [show i + 1 + (q.length : Int) = i + ((q.length + 1 : Nat) : Int) by omega]
   split <;> rfl
theorem ypo (i j k : Nat) (p : List (Int × Int)) : (tmC p).map (swV i j (k + 1)) = tmC p := by
 rw [List.map_congr_left (g := id) (fun x hx => by obtain ⟨n, rfl⟩ := yg9 hx; rfl), List.map_id]
theorem yoc (lo : Int) (hlo : -100000 <= lo /\ lo <= 100000) (q : List Int) (hq : ∀ x ∈ q, -1125899906842624 <= x /\ x <= 1125899906842624) (hql : q.length <= 100) :
  Fn Tryz.prog 57 [I lo, roI q] (rpA (Sp.tmsF lo q)) := by
 have hqg : ∀ i, -1125899906842624 <= q.getD i 0 /\ q.getD i 0 <= 1125899906842624 := fun i => by
  rw [List.getD_eq_getElem?_getD]
  cases e : q[i]? with
  | none => simp
  | some x => exact hq x (List.mem_of_getElem? e)
 refine Fn.introL [.cell 4 38] Tryz.func57 rfl rfl (by decide) (by simp [Tryz.ntmps57]) ?_; rw [Tryz.ntmps57]
 repeat' (first | omega | ((try apply yaa); simp only [go_sem, sevalprocAttr]) | (apply yad <;> (intro h_; (try simp only [h_]); revert h_)) | apply yac | apply yab | apply gspI | apply And.intro | with_reducible intro h_ | trivial | (simp only [go_sem, la2]; omega))
 refine yah.intro (fun n fr H => ∃ i : Nat, i <= q.length /\ n = q.length - i /\ fr = [(6, I i), (5, .ptr 1 0), (4, .ptr 0 0), (1, roI q), (0, I lo)] /\ ((Sp.tmsF lo (q.take i) = [] /\ H = [(1, .cells 38 (.lst [.nils, .bool false])), (0, .cells 38 (.lst [.nils, .bool false]))]) \/ H = [(3, .cells 82 (.lst (tmC (Sp.tmsF lo (q.take i))))), (1, .cells 38 (.lst [.sl 2 3 0 (Sp.tmsF lo (q.take i)).length, .bool false])), (0, .cells 38 (.lst [.nils, .bool false]))])) ?_ ?_
 ·refine ⟨_, _, _, ?_, 0, by omega, rfl, rfl, .inl ⟨rfl, rfl⟩⟩
  refine Wk.sub ?_ ?_ <;> simp only [go_sem, sevalprocAttr]
 rintro n fr H ⟨i, hi, rfl, rfl, hcase⟩
 have hg := hqg i
 have hll := Sp.tmsF_len (q.take i) lo
 have htl : (q.take i).length = i := by rw [List.length_take]; omega
 by_cases hil : i < q.length
 ·have bi : decide ((i : Int) < q.length) = true := by simp; omega
  have hsn : q.take (i + 1) = q.take i ++ [q.getD i 0] := by rw [List.take_add_one, List.getD_eq_getElem?_getD, List.getElem?_eq_getElem hil]; rfl
  have hts := ysb (q.take i) lo (q.getD i 0)
  rw [← hsn, htl] at hts
  have c1 : decide (q.getD i 0 < -1125899906842624) = false := by rw [decide_eq_false_iff_not]; omega
  have c2 : decide (1125899906842624 < q.getD i 0) = false := by rw [decide_eq_false_iff_not]; omega
  have c3 : decide (lo + (i : Int) < -1048576) = false := by rw [decide_eq_false_iff_not]; omega
  have c4 : decide (1048576 < lo + (i : Int)) = false := by rw [decide_eq_false_iff_not]; omega
  by_cases h0 : q.getD i 0 = 0
  ·have b0 : (q.getD i 0 == 0) = true := by simpa using h0
   rw [if_pos h0, List.append_nil] at hts
   rcases hcase with ⟨hnil, rfl⟩ | rfl
   ·repeat' (first | omega | ((first | apply yaa | (refine yae.intro (id := 8) ycz yc0 (by decide +kernel) mixed ?_) | skip); simp only [go_sem, sevalprocAttr, bi, b0, ↓reduceIte, reduceCtorEq, ycz, yc0]) | (apply yad <;> (intro h_; (try simp only [h_]); revert h_)) | apply yac | apply yab | apply gspI | apply And.intro | with_reducible intro h_ | trivial | (simp only [go_sem, la2]; omega))
    refine ⟨_, _, _, ?_, ?_, ⟨i + 1, by omega, rfl, rfl, .inl ⟨by rw [hts]; exact hnil, rfl⟩⟩⟩
    ·omega
    ·refine Wk.sub ?_ ?_ <;> simp only [go_sem, sevalprocAttr]
   ·repeat' (first | omega | ((first | apply yaa | (refine yae.intro (id := 8) ycz yc0 (by decide +kernel) mixed ?_) | skip); simp only [go_sem, sevalprocAttr, bi, b0, ↓reduceIte, reduceCtorEq, ycz, yc0]) | (apply yad <;> (intro h_; (try simp only [h_]); revert h_)) | apply yac | apply yab | apply gspI | apply And.intro | with_reducible intro h_ | trivial | (simp only [go_sem, la2]; omega))
    refine ⟨_, _, _, ?_, ?_, ⟨i + 1, by omega, rfl, rfl, .inr rfl⟩⟩
    ·omega
    ·rw [hts]
     refine Wk.sub ?_ ?_ <;> simp only [go_sem, sevalprocAttr]
  ·have b0 : (q.getD i 0 == 0) = false := by simpa using h0
   rw [if_neg h0] at hts
   rcases hcase with ⟨hnil, rfl⟩ | rfl
   ·rw [hnil, List.nil_append] at hts
    have e5 : tmC [(lo + (i : Int), q.getD i 0)] = [I (lo + i), I (q.getD i 0)] := rfl
    repeat' (first | omega | ((first | apply yaa | (refine yae.intro (id := 8) ycz yc0 (by decide +kernel) mixed ?_) | skip); simp only [go_sem, sevalprocAttr, bi, b0, c1, c2, c3, c4, ↓reduceIte, reduceCtorEq, ycz, yc0]) | (apply yad <;> (intro h_; (try simp only [h_]); revert h_)) | apply yac | apply yab | apply gspI | apply And.intro | with_reducible intro h_ | trivial | (simp only [go_sem, la2]; omega))
    all_goals (refine ⟨_, _, _, ?_, ?_, ⟨i + 1, by omega, rfl, rfl, .inr rfl⟩⟩)
    all_goals first | omega | skip
    all_goals rw [hts]
    all_goals (refine Wk.subS 3 13 (fr1 := [(6, I ((i + 1 : Nat) : Int)), (5, .ptr 1 0), (4, .ptr 0 0), (1, roI q), (0, I lo)]) (H1 := [(13, .cells 82 (.lst (tmC [(lo + (i : Int), q.getD i 0)]))), (1, .cells 38 (.lst [.sl 2 13 0 [(lo + (i : Int), q.getD i 0)].length, .bool false])), (0, .cells 38 (.lst [.nils, .bool false]))]) rfl rfl rfl rfl ?_ ?_ <;> (simp only [go_sem, sevalprocAttr, e5]))
   ·have e5 := yib (Sp.tmsF lo (q.take i)) (lo + i) (q.getD i 0)
    have e6 : (Sp.tmsF lo (q.take i) ++ [(lo + (i : Int), q.getD i 0)]).length = (Sp.tmsF lo (q.take i)).length + 1 := by simp
    have e7 := ybh (Sp.tmsF lo (q.take i))
    repeat' (first | omega | ((first | apply yaa | (refine yae.intro (id := 8) ycz yc0 (by decide +kernel) mixed ?_) | skip); simp only [go_sem, sevalprocAttr, bi, b0, c1, c2, c3, c4, ↓reduceIte, reduceCtorEq, ycz, yc0]) | (apply yad <;> (intro h_; (try simp only [h_]); revert h_)) | apply yac | apply yab | apply gspI | apply And.intro | with_reducible intro h_ | trivial | (simp only [go_sem, la2]; omega))
    all_goals (refine ⟨_, _, _, ?_, ?_, ⟨i + 1, by omega, rfl, rfl, .inr rfl⟩⟩)
    all_goals first | omega | skip
    all_goals rw [hts]
    all_goals (refine Wk.subS 3 15 (fr1 := [(6, I ((i + 1 : Nat) : Int)), (5, .ptr 1 0), (4, .ptr 0 0), (1, roI q), (0, I lo)]) (H1 := [(15, .cells 82 (.lst (tmC (Sp.tmsF lo (q.take i) ++ [(lo + (i : Int), q.getD i 0)])))), (1, .cells 38 (.lst [.sl 2 15 0 (Sp.tmsF lo (q.take i) ++ [(lo + (i : Int), q.getD i 0)]).length, .bool false])), (0, .cells 38 (.lst [.nils, .bool false]))]) rfl (by simp only [swH, swO, List.map_cons, List.map_nil, ypo]; rfl) rfl (by simp only [swH, swO, List.map_cons, List.map_nil, ypo]; rfl) ?_ ?_ <;> (simp only [go_sem, sevalprocAttr, e5, e6]))
 ·obtain rfl : i = q.length := by omega
  have bi : decide ((q.length : Int) < q.length) = false := by simp
  rw [List.take_length] at hcase hll
  rcases hcase with ⟨hnil, rfl⟩ | rfl
  ·rw [hnil]
   repeat' (first | omega | ((first | apply yaa | (refine yae.intro (id := 8) ycz yc0 (by decide +kernel) mixed ?_) | skip); simp only [go_sem, sevalprocAttr, bi, ↓reduceIte, reduceCtorEq, ycz, yc0]) | (apply yad <;> (intro h_; (try simp only [h_]); revert h_)) | apply yac | apply yab | apply gspI | apply And.intro | with_reducible intro h_ | trivial | (simp only [go_sem, la2]; omega))
   all_goals exact LeA.aggL (.cons (LeA.nils (by omega) rfl) (.cons (LeA.refl _) .nil))
  ·have e := ybh (Sp.tmsF lo q)
   repeat' (first | omega | ((first | apply yaa | (refine yae.intro (id := 8) ycz yc0 (by decide +kernel) mixed ?_) | skip); simp only [go_sem, sevalprocAttr, bi, ↓reduceIte, reduceCtorEq, ycz, yc0]) | (apply yad <;> (intro h_; (try simp only [h_]); revert h_)) | apply yac | apply yab | apply gspI | apply And.intro | with_reducible intro h_ | trivial | (simp only [go_sem, la2]; omega))
   all_goals (rw [List.take_of_length_le (by omega)]; exact LeA.refl _)
theorem y3c (p : List (Int × Int)) (nm : List UInt8) (hr : cok p) (hn : nm.length <= 1000) (hpl : p.length <= 1000) :
  Fn Tryz.prog 14 [rpA p, .str ⟨nm.toArray⟩] (.str ⟨(txtB nm p).toArray⟩) := by
 unfold txtB
 split
 ·obtain rfl : p = [] := List.eq_nil_of_length_eq_zero (by assumption)
  exact yzs _
 ·exact yzt p nm (by omega) hr hn hpl
end Go.Proofs.YtebdkebfkpbmpaaGreatDoor
set_option linter.unusedSimpArgs false
set_option linter.unusedVariables false
namespace Go.Proofs.YtebdkebfkpbmpaaGreatDoor
open Go Go.RowKit
set_option maxRecDepth 100000
set_option maxHeartbeats 8000000
def yzu : List (List Nat) := [[45,46,47,48,49,50,51,52,53],[45,46,47,48,49,50,51,52,53],[43,44,46,48,49,50,51],[43,44,45,48,49,50,51],[43,44,48,49,50,51],[43,44,45,46,47,49],[43,44,45,46,47,48],[43,44,45,46,47],[43,44,45,46,47],[43,44],[43,44],[],[],[]]
def yzv : List (List Nat) := [[],[],[0,1],[0,1,2],[0,1],[0,1,2,3,4],[0,1,2,3,4,5],[0,1,2,3,4],[0,1,2,3,4],[0,1],[0,1],[],[],[]]
theorem y7i : Fn Tryz.prog 57 [I 0, .nils] (rpA []) :=
 (yoc 0 (by decide) [] (fun x h => by cases h) (by decide)).args (.cons (LeA.refl _) (.cons (LeA.nils (by decide) rfl) .nil))
theorem FnN.ofT {P : Program} {f : Nat} {args : List AV} {n t id : Nat} {l : List AV} (h : FnO P f args (.agg [.sl 2 id 0 n, .bool false]) [(id, .cells t (.lst l))]) (hn : l.length = n * 2) (hI : ∀ x ∈ l, ∃ k, x = I k) : FnN P f args (.agg [.ro 2 n (.lst l), .bool false]) := by
 refine ⟨h.1, fun w Mx vs h1 h2 h3 => (h.2 w Mx vs h1 h2 h3).mono ?_⟩
 rintro e w' ⟨v, ρ', rfl, hs, hv⟩
 refine ⟨v, rfl, hs.below, ?_⟩
 have hr := hs.objs id _ (show hget [(id, AObj.cells t (.lst l))] id = some (.cells t (.lst l)) by simp [hget])
 have ho := hs.own id _ (show hget [(id, AObj.cells t (.lst l))] id = some (.cells t (.lst l)) by simp [hget]) rfl
 have hlt := hr.lt rfl
 obtain ⟨g1, arr, g2, g3, g4⟩ := hr
 obtain ⟨x, k1, k2⟩ := yin (My := fun b => b < w.heap.size) (ρ0 := ρ0) (c := .lst l) (c' := .lst l) g1 g2 g3 rfl fun j hj => by
  obtain ⟨u, q1, q2⟩ := g4 j hj
  refine ⟨u, q1, ?_⟩
  have hjl : j < l.length := by simpa [Cs.len] using hj
  obtain ⟨k, hk⟩ := hI l[j] (List.getElem_mem hjl)
  have e : (Cs.lst l).get j = I k := by simp only [Cs.get, List.getD_eq_getElem?_getD, List.getElem?_eq_getElem hjl, Option.getD_some, hk]
  rw [e] at q2 ⊢
  cases q2
  exact .int _ _
 cases hv with
 | agg vs xs hl hx =>
   refine .agg vs _ hl fun i v' x' hi hx' => ?_
   match i, hx' with
   | 0, hx' =>
     cases hx'
     have hv0 := hx 0 v' _ hi rfl
     cases hv0 with
     | sl _ _ _ _ cap hd hc arr' t' ad ha hb hr' =>
       refine .ro 2 n (.lst l) (some ad) cap x (by simp [Cs.len]; omega) hc (by decide) (fun h0 => ⟨ad, rfl, ?_⟩) fun j hj => k2 j (by simpa [Cs.len] using hj)
       have e := ha (by omega)
       rw [show (ρ' id).add 0 = ρ' id from rfl] at e
       subst e
       exact ⟨hlt, fun hb => by omega, fun j hj => k1 j (by simpa [Cs.len] using hj)⟩
   | 1, hx' =>
     cases hx'
     have hv1 := hx 1 v' _ hi rfl
     cases hv1
     exact .bool _
   | i + 2, hx' => cases hx'
theorem y3d (lo k : Int) (hlo : -100000 <= lo /\ lo <= 100000) (hk : 0 < k /\ k <= 1125899906842624) : FnN Tryz.prog 57 [I lo, roI [k]] (rpA [(lo, k)]) := by
 have h : FnO Tryz.prog 57 [I lo, roI [k]] (.agg [.sl 2 13 0 1, .bool false]) [(13, .cells 82 (.lst [I lo, I k]))] := by
  have b0 : (k == 0) = false := by rw [beq_eq_false_iff_ne]; omega
  have c1 : decide (k < -1125899906842624) = false := by rw [decide_eq_false_iff_not]; omega
  have c2 : decide (1125899906842624 < k) = false := by rw [decide_eq_false_iff_not]; omega
  have c3 : decide (lo < -1048576) = false := by rw [decide_eq_false_iff_not]; omega
  have c4 : decide (1048576 < lo) = false := by rw [decide_eq_false_iff_not]; omega
  have ez : lo + 0 = lo := by omega
  refine FnO.intro [.cell 4 38] Tryz.func57 rfl rfl (by decide) (by simp [Tryz.ntmps57]) ?_; rw [Tryz.ntmps57]
  repeat' (first | omega | ((try apply yaa); simp only [go_sem, sevalprocAttr]) | (apply yad <;> (intro h_; (try simp only [h_]); revert h_)) | apply yac | apply yab | apply gspI | apply And.intro | with_reducible intro h_ | trivial | (simp only [go_sem, la2]; omega))
  refine yah.intro (fun n fr H => (n = 1 /\ fr = [(6, I 0), (5, .ptr 1 0), (4, .ptr 0 0), (1, roI [k]), (0, I lo)] /\ H = [(1, .cells 38 (.lst [.nils, .bool false])), (0, .cells 38 (.lst [.nils, .bool false]))]) \/ (n = 0 /\ fr = [(6, I 1), (5, .ptr 1 0), (4, .ptr 0 0), (1, roI [k]), (0, I lo)] /\ H = [(13, .cells 82 (.lst [I lo, I k])), (1, .cells 38 (.lst [.sl 2 13 0 1, .bool false])), (0, .cells 38 (.lst [.nils, .bool false]))])) ?_ ?_
  ·refine ⟨_, _, _, ?_, .inl ⟨rfl, rfl, rfl⟩⟩
   refine Wk.sub ?_ ?_ <;> simp only [go_sem, sevalprocAttr]
  rintro n fr H (⟨rfl, rfl, rfl⟩ | ⟨rfl, rfl, rfl⟩)
  ·repeat' (first | omega | ((first | apply yaa | (refine yae.intro (id := 8) yzu yzv (by decide +kernel) mixed ?_) | skip); simp only [go_sem, sevalprocAttr, b0, c1, c2, c3, c4, ez, ↓reduceIte, reduceCtorEq, yzu, yzv]) | (apply yad <;> (intro h_; (try simp only [h_]); revert h_)) | apply yac | apply yab | apply gspI | apply And.intro | with_reducible intro h_ | trivial | (simp only [go_sem, la2]; omega))
   all_goals (refine ⟨_, _, _, ?_, ?_, .inr ⟨rfl, rfl, rfl⟩⟩)
   all_goals first | omega | skip
   all_goals (refine Wk.sub ?_ ?_ <;> (simp only [go_sem, sevalprocAttr, b0]))
  ·repeat' (first | omega | ((try apply yaa); simp only [go_sem, sevalprocAttr, b0]) | (apply yad <;> (intro h_; (try simp only [h_]); revert h_)) | apply yac | apply yab | apply gspI | apply And.intro | with_reducible intro h_ | trivial | (simp only [go_sem, la2]; omega))
 have h2 := FnN.ofT h rfl fun x hx => by
  simp only [List.mem_cons, List.not_mem_nil, or_false] at hx
  rcases hx with rfl | rfl <;> exact ⟨_, rfl⟩
 exact h2
end Go.Proofs.YtebdkebfkpbmpaaGreatDoor
