/- A statement that adds two integers of any size: the sum is any integer. -/
import Derived.Test.YtmfdclbiljpmgaaDoorGb
import Derived.Test.YtmfdclbiljpmgaaDoorLa1
import Derived.Test.YtmfdclbiljpmgaaDoorBr2
import Derived.Test.YtmfdclbiljpmgaaDoorLa3
import Derived.Test.YtmfdclbiljpmgaaDoorHb
import Derived.Test.YtmfdclbiljpmgaaDoorKb4
import Derived.Test.YtmfdclbiljpmgaaDoorKb5
set_option linter.unusedSimpArgs false
set_option linter.unusedVariables false
namespace Go.Proofs.YtmfdclbiljpmgaaDoor
open Go Go.RowKit
section
variable {P : Program} {B : Nat} {w0 : Outer} {Mx : Nat → Prop} {N : Nat}
theorem awL_seg {ops : Array Oper} {Q : Exit → Act → World → Prop} {K : Fr → Hp → Prop} : ∀ (n k m : Nat) (w : World) (ρ : Nat → Addr) (fr : Fr) (H : Hp) (a : Act), k + n ≤ ops.size → awL P N ops ((ops.toList.drop k).take n) fr H K → Sim B w0 Mx N w ρ fr H a →
    (∀ (ρ' : Nat → Addr) (fr' : Fr) (H' : Hp) (a' : Act) (w' : World), K fr' H' → Sim B w0 Mx N w' ρ' fr' H' a' → wpOps P ops Q (List.range' (k + n) m) a' w') → wpOps P ops Q (List.range' k (n + m)) a w
  | 0, k, m, w, ρ, fr, H, a, hk, hq, hs, hr => by
    simp only [List.take_zero, awL] at hq
    rw [Nat.zero_add]
    exact hr _ _ _ _ _ hq hs
  | n + 1, k, m, w, ρ, fr, H, a, hk, hq, hs, hr => by
    have hlt : k < ops.size := by omega
    rw [List.drop_eq_getElem_cons (by simpa using hlt), List.take_succ_cons] at hq
    simp only [awL, Array.getElem_toList] at hq
    rw [show n + 1 + m = (n + m) + 1 by omega, List.range'_succ]
    simp only [wpOps, Array.getElem?_eq_getElem hlt]
    have hmono : ∀ {K' : Fr → Hp → Prop}, (∀ fr' H', K' fr' H' → awL P N ops ((ops.toList.drop (k + 1)).take n) fr' H' K) → ∀ (a' : Act) (w' : World), (∃ ρ' fr' H', K' fr' H' ∧ Sim B w0 Mx N w' ρ' fr' H' a') →
        wpOps P ops Q (List.range' (k + 1) (n + m)) a' w' := fun hK a' w' ⟨ρ', fr', H', h1, h2⟩ => awL_seg n (k + 1) m w' ρ' fr' H' a' (by omega) (hK _ _ h1) h2 (fun ρ2 f2 H2 a2 w2 g1 g2 => by have := hr ρ2 f2 H2 a2 w2 g1 g2; rwa [show k + (n + 1) = k + 1 + n by omega] at this)
    have hrest : ∀ (w : World) (ρ : Nat → Addr) (fr : Fr) (H : Hp) (a : Act), awL P N ops ((ops.toList.drop (k + 1)).take n) fr H K → Sim B w0 Mx N w ρ fr H a → wpOps P ops Q (List.range' (k + 1) (n + m)) a w := fun w ρ fr H a g1 g2 => hmono (K' := fun fr' H' => fr' = fr ∧ H' = H) (fun fr' H' ⟨e1, e2⟩ => e1 ▸ e2 ▸ g1) a w ⟨ρ, fr, H, ⟨rfl, rfl⟩, g2⟩
    split at hq
    · rename_i hg
      have hw : Region.wanted ops[k] (yielded ops a.tmps) = true := by simp [Region.wanted, hg]
      rw [if_pos hw]
      exact .inl (Oper.wp_mono (hmono fun _ _ h => h) (awO_sound hs hq _))
    · rename_i j b hg
      split at hq
      · rename_i c hc
        have hy := yielded_of hs hc
        by_cases hcb : c = b
        · have hw : Region.wanted ops[k] (yielded ops a.tmps) = true := by simp [Region.wanted, hg, hy, hcb]
          rw [if_pos hw]
          exact .inl (Oper.wp_mono (hmono fun _ _ h => h) (awO_sound (hs.gput (hcb ▸ hc)) (hq.1 hcb) _))
        · have hw : ¬ Region.wanted ops[k] (yielded ops a.tmps) = true := by simp [Region.wanted, hg, hy, hcb]
          rw [if_neg hw]
          have hcb' : c = !b := by cases c <;> cases b <;> simp_all
          obtain ⟨hd, hq⟩ := hq.2 hcb'
          exact hrest _ _ _ _ _ hq ((hs.gput (hcb' ▸ hc)).put hd (.tup [] [] rfl (fun i v x h => by simp at h)))
      · rename_i hc
        have hy := yielded_no hs hc
        have hw : ¬ Region.wanted ops[k] (yielded ops a.tmps) = true := by simp [Region.wanted, hg, hy]
        rw [if_neg hw]
        obtain ⟨hd, hq⟩ := hq
        exact hrest _ _ _ _ _ hq (hs.put hd (.tup [] [] rfl (fun i v x h => by simp at h)))
      · exact hq.elim
def AnyAdd (N : Nat) (ops : Array Oper) (k : Nat) (K : Fr → Hp → Prop) (fr : Fr) (H : Hp) : Prop := ∃ o j b c t x y t' p q, ops[k]? = some o ∧ o.op = .binOp .add t x y t' ∧ o.guard = some (j, b) ∧ gval ops fr j = .bool c ∧ dok o.dst N = true ∧
  evA fr x = I p ∧ evA fr y = I q ∧ (c = b → ∀ n, K (fput (gput ops fr j b) o.dst (I n)) H) ∧ (c = !b → K (fput (gput ops fr j (!b)) o.dst (.tup [])) H)
theorem WpA.seqI {x y : Code} {fr : Fr} {H : Hp} {Q : Exit → Fr → Hp → Prop} (h : WpA P N x fr H (thenA Q fun fr' H' => WpA P N y fr' H' Q)) : WpA P N (.seq x y) fr H Q := by
  intro B w0 Mx w ρ a hs
  refine wp_seq (wp_mono (h B w0 Mx w ρ a hs) ?_)
  rintro e a' w' ⟨ρ', fr', H', h1, h2⟩
  cases e with
  | normal => exact h1 B w0 Mx w' ρ' a' h2
  | _ => exact ⟨ρ', fr', H', h1, h2⟩
theorem WpA.anyAdd {id : Nat} {ops : Array Oper} {fr : Fr} {H : Hp} {Q : Exit → Fr → Hp → Prop} (k : Nat) (hk : k < ops.size)
    (h : awL P N ops (ops.toList.take k) fr H (AnyAdd N ops k fun fr' H' => awL P N ops (ops.toList.drop (k + 1)) fr' H' (Q .normal))) : WpA P N (.region id ops false) fr H Q := by
  intro B w0 Mx w ρ a hs
  refine wp_region ?_
  rw [List.range_eq_range', show ops.size = k + (ops.size - k) by omega]
  refine awL_seg k 0 (ops.size - k) w ρ fr H a (by omega) (by rw [List.drop_zero]; exact h) hs ?_
  rintro ρ1 fr1 H1 a1 w1 ⟨o, j, b, c, t, x, y, t', p, q, ho, hop, hg, hc, hd, hx, hy, h1, h2⟩ hs1
  rw [Nat.zero_add, show ops.size - k = (ops.size - (k + 1)) + 1 by omega, List.range'_succ]
  simp only [wpOps, ho]
  have hend : ∀ (w : World) (ρ : Nat → Addr) (fr : Fr) (H : Hp) (a : Act), awL P N ops (ops.toList.drop (k + 1)) fr H (Q .normal) → Sim B w0 Mx N w ρ fr H a →
      wpOps P ops (fun e a' w' => ∃ ρ' fr' H', Q e fr' H' ∧ Sim B w0 Mx N w' ρ' fr' H' a') (List.range' (k + 1) (ops.size - (k + 1))) a w := fun w ρ fr H a g1 g2 => awL_sound _ _ w ρ fr H a (by omega) g1 g2
  have hy' := yielded_of hs1 hc
  by_cases hcb : c = b
  · have hw : Region.wanted o (yielded ops a1.tmps) = true := by simp [Region.wanted, hg, hy', hcb]
    rw [if_pos hw]
    refine .inl ?_
    have hs2 := hs1.gput (hcb ▸ hc)
    have ex := (hx ▸ hs1.ev x).int_inv
    have ey := (hy ▸ hs1.ev y).int_inv
    have hrun : (execOp a1.eval o).run P w1 = .ok (.value (.int .i64 (IntKind.i64.wrap (p + q)))) w1 := by
      simp only [execOp, hop, ex, ey]
      simp [run_eqGuard_int, binOp, Op.intArith]
    unfold Oper.wp
    rw [hrun]
    exact hend _ _ _ _ _ (h1 hcb _) (hs2.put hd (.int _ _))
  · have hw : ¬ Region.wanted o (yielded ops a1.tmps) = true := by simp [Region.wanted, hg, hy', hcb]
    rw [if_neg hw]
    have hcb' : c = !b := by cases c <;> cases b <;> simp_all
    exact hend _ _ _ _ _ (h2 hcb') ((hs1.gput (hcb' ▸ hc)).put hd (.tup [] [] rfl (fun i v x h => by simp at h)))
end
end Go.Proofs.YtmfdclbiljpmgaaDoor

/- Layer 12: Equal, where both are the same. -/
set_option linter.unusedSimpArgs false
set_option linter.unusedVariables false
namespace Go.Proofs.YtmfdclbiljpmgaaDoor
open Go Go.RowKit
set_option maxRecDepth 100000
set_option maxHeartbeats 4000000
theorem eq2_term : eq2 Tryd.prog 49 = true := by decide +kernel
theorem fn_sEq (p : List (Int × Int)) (hl : p.length ≤ 1000000) : Fn Tryd.prog 20 [.ro 2 p.length (.lst (tmC p)), .ro 2 p.length (.lst (tmC p))] (.bool true) := by
  have hlen := tmC_len p
  have b0 : ((p.length : Int) != p.length) = false := by simp
  refine Fn.intro [.tmp 4] Tryd.func20 rfl rfl (by decide) (by simp [Tryd.ntmps20]) ?_; rw [Tryd.ntmps20]
  repeat' (first | omega | ((first | refine awC_sound _ _ _ _ ?_ | skip); simp only [go_sem, Nat.reduceLT, Nat.reduceLeDiff, Nat.reduceEqDiff, Nat.reduceBEq, Nat.reduceBNe, Nat.reduceAdd, Nat.reduceMul, Nat.reduceSub, Nat.reduceDiv, Nat.reduceMod, Int.reduceToNat, Int.reduceAdd, Int.reduceLT, Int.reduceLE, Int.reduceEq, Int.reduceSub, Int.reduceMul, Int.reduceNeg, ↓reduceIte, reduceCtorEq, b0]) | (refine gspDI ?_ ?_ <;> (intro _hh; (try simp only [_hh]); revert _hh)) | refine gspLI ?_ ?_ | refine condLI ?_ ?_ | refine gspI ?_ ?_ | refine And.intro ?_ ?_ | with_reducible intro _hh | trivial | (simp only [cl1, cl2, cl3, List.length_cons, List.length_nil, List.length_append]; omega))
  refine LoopA.intro (fun n fr H => ∃ k : Nat, k ≤ p.length ∧ n = p.length - k ∧ fr = [(13, I k), (12, I p.length), (1, .ro 2 p.length (.lst (tmC p))), (0, .ro 2 p.length (.lst (tmC p)))] ∧ H = []) ?_ ?_
  · refine ⟨_, _, _, ?_, 0, by omega, rfl, rfl, rfl⟩
    refine Wk.sub ?_ ?_ <;> (simp only [go_sem, Nat.reduceLT, Nat.reduceLeDiff, Nat.reduceEqDiff, Nat.reduceBEq, Nat.reduceBNe, Nat.reduceAdd, Nat.reduceMul, Nat.reduceSub, Nat.reduceDiv, Nat.reduceMod, Int.reduceToNat, Int.reduceAdd, Int.reduceLT, Int.reduceLE, Int.reduceEq, Int.reduceSub, Int.reduceMul, Int.reduceNeg, ↓reduceIte, reduceCtorEq, tmC_s3])
  rintro n fr H ⟨k, hk, rfl, rfl, rfl⟩
  by_cases hkl : k < p.length
  · have g0 := tmC_get0 p k hkl
    have g1 := tmC_get1 p k hkl
    have b1 : ((p.getD k (0, 0)).1 == (p.getD k (0, 0)).1) = true := by simp
    have b2 : ((p.getD k (0, 0)).2 == (p.getD k (0, 0)).2) = true := by simp
    repeat' (first | omega | ((first | refine awC_sound _ _ _ _ ?_ | (refine DrawA.intro (id := 6) [[17,20,21,22,23],[16,20,21,22,23],[20,21,22,23],[20,21,22,23],[16,17,18,19,21],[16,17,18,19,20],[16,17,18,19],[16,17,18,19],[]] [[],[0],[],[],[0,1,2,3],[0,1,2,3,4],[0,1,2,3],[0,1,2,3],[]] (by decide +kernel) mixed ?_) | skip); simp only [go_sem, Nat.reduceLT, Nat.reduceLeDiff, Nat.reduceEqDiff, Nat.reduceBEq, Nat.reduceBNe, Nat.reduceAdd, Nat.reduceMul, Nat.reduceSub, Nat.reduceDiv, Nat.reduceMod, Int.reduceToNat, Int.reduceAdd, Int.reduceLT, Int.reduceLE, Int.reduceEq, Int.reduceSub, Int.reduceMul, Int.reduceNeg, ↓reduceIte, reduceCtorEq, g0, g1, hlen, b1, b2, eq2_term]) | (refine gspDI ?_ ?_ <;> (intro _hh; (try simp only [_hh]); revert _hh)) | refine gspLI ?_ ?_ | refine condLI ?_ ?_ | refine gspI ?_ ?_ | refine And.intro ?_ ?_ | with_reducible intro _hh | trivial | (simp only [cl1, cl2, cl3, List.length_cons, List.length_nil, List.length_append]; omega))
    all_goals (first | exact eq2_term | skip)
    refine ⟨_, _, _, ?_, ?_, ⟨k + 1, by omega, rfl, rfl, rfl⟩⟩
    · omega
    · refine Wk.sub ?_ ?_ <;> (simp only [go_sem, Nat.reduceLT, Nat.reduceLeDiff, Nat.reduceEqDiff, Nat.reduceBEq, Nat.reduceBNe, Nat.reduceAdd, Nat.reduceMul, Nat.reduceSub, Nat.reduceDiv, Nat.reduceMod, Int.reduceToNat, Int.reduceAdd, Int.reduceLT, Int.reduceLE, Int.reduceEq, Int.reduceSub, Int.reduceMul, Int.reduceNeg, ↓reduceIte, reduceCtorEq, tmC_s3])
  · obtain rfl : k = p.length := by omega
    repeat' (first | omega | ((first | refine awC_sound _ _ _ _ ?_ | skip); simp only [go_sem, Nat.reduceLT, Nat.reduceLeDiff, Nat.reduceEqDiff, Nat.reduceBEq, Nat.reduceBNe, Nat.reduceAdd, Nat.reduceMul, Nat.reduceSub, Nat.reduceDiv, Nat.reduceMod, Int.reduceToNat, Int.reduceAdd, Int.reduceLT, Int.reduceLE, Int.reduceEq, Int.reduceSub, Int.reduceMul, Int.reduceNeg, ↓reduceIte, reduceCtorEq]) | (refine gspDI ?_ ?_ <;> (intro _hh; (try simp only [_hh]); revert _hh)) | refine gspLI ?_ ?_ | refine condLI ?_ ?_ | refine gspI ?_ ?_ | refine And.intro ?_ ?_ | with_reducible intro _hh | trivial | (simp only [cl1, cl2, cl3, List.length_cons, List.length_nil, List.length_append]; omega))
theorem fn_Equal (p : List (Int × Int)) (hl : p.length ≤ 1000000) : Fn Tryd.prog 9 [plA false p, plA false p] (.bool true) := by
  have hS := fn_sEq p hl
  refine Fn.intro [.tmp 4] Tryd.func9 rfl rfl (by decide) (by simp [Tryd.ntmps9]) ?_; rw [Tryd.ntmps9]
  repeat' (first | omega | ((first | refine awC_sound _ _ _ _ ?_ | skip); simp only [go_sem, Nat.reduceLT, Nat.reduceLeDiff, Nat.reduceEqDiff, Nat.reduceBEq, Nat.reduceBNe, Nat.reduceAdd, Nat.reduceMul, Nat.reduceSub, Nat.reduceDiv, Nat.reduceMod, Int.reduceToNat, Int.reduceAdd, Int.reduceLT, Int.reduceLE, Int.reduceEq, Int.reduceSub, Int.reduceMul, Int.reduceNeg, ↓reduceIte, reduceCtorEq, tmC_s3]) | (refine gspDI ?_ ?_ <;> (intro _hh; (try simp only [_hh]); revert _hh)) | refine gspLI ?_ ?_ | refine condLI ?_ ?_ | refine gspI ?_ ?_ | refine And.intro ?_ ?_ | with_reducible intro _hh | trivial | (simp only [cl1, cl2, cl3, List.length_cons, List.length_nil, List.length_append]; omega))
  refine ⟨CallB.fn rfl hS ?_⟩
  repeat' (first | omega | ((first | refine awC_sound _ _ _ _ ?_ | skip); simp only [go_sem, Nat.reduceLT, Nat.reduceLeDiff, Nat.reduceEqDiff, Nat.reduceBEq, Nat.reduceBNe, Nat.reduceAdd, Nat.reduceMul, Nat.reduceSub, Nat.reduceDiv, Nat.reduceMod, Int.reduceToNat, Int.reduceAdd, Int.reduceLT, Int.reduceLE, Int.reduceEq, Int.reduceSub, Int.reduceMul, Int.reduceNeg, ↓reduceIte, reduceCtorEq]) | (refine gspDI ?_ ?_ <;> (intro _hh; (try simp only [_hh]); revert _hh)) | refine gspLI ?_ ?_ | refine condLI ?_ ?_ | refine gspI ?_ ?_ | refine And.intro ?_ ?_ | with_reducible intro _hh | trivial | (simp only [cl1, cl2, cl3, List.length_cons, List.length_nil, List.length_append]; omega))
end Go.Proofs.YtmfdclbiljpmgaaDoor

/- Layer 15: Bracket where it is refused; the limits of the laws. -/
set_option linter.unusedSimpArgs false
set_option linter.unusedVariables false
namespace Go.Proofs.YtmfdclbiljpmgaaDoor
open Go Go.RowKit
set_option maxRecDepth 100000
set_option maxHeartbeats 8000000
theorem le_zeroP : LeA (.agg [.bool false, .nils]) (plA false []) := LeA.aggL (.cons (LeA.refl _) (.cons (LeA.nils (by omega) rfl) .nil))
theorem fn_BracketI (s m : List Int) (L : Int) (hv : validB s m L = false) : Fn Tryd.prog 6 [dgA s m L] (.tup [plA false [], I 1]) := by
  have hV := fn_Valid s m L
  rw [hv] at hV
  refine Fn.introL [.cell 2 29, .tmp 3] Tryd.func6 rfl rfl (by decide) (by simp [Tryd.ntmps6]) ?_; rw [Tryd.ntmps6]
  repeat' (first | omega | ((first | refine awC_sound _ _ _ _ ?_ | skip); simp only [go_sem, Nat.reduceLT, Nat.reduceLeDiff, Nat.reduceEqDiff, Nat.reduceBEq, Nat.reduceBNe, Nat.reduceAdd, Nat.reduceMul, Nat.reduceSub, Nat.reduceDiv, Nat.reduceMod, Int.reduceToNat, Int.reduceAdd, Int.reduceLT, Int.reduceLE, Int.reduceEq, Int.reduceSub, Int.reduceMul, Int.reduceNeg, ↓reduceIte, reduceCtorEq]) | (refine gspDI ?_ ?_ <;> (intro _hh; (try simp only [_hh]); revert _hh)) | refine gspLI ?_ ?_ | refine condLI ?_ ?_ | refine gspI ?_ ?_ | refine And.intro ?_ ?_ | with_reducible intro _hh | trivial | (simp only [cl1, cl2, cl3, List.length_cons, List.length_nil, List.length_append]; omega))
  all_goals refine ⟨CallB.fn rfl hV ?_⟩
  all_goals (repeat' (first | omega | ((first | refine awC_sound _ _ _ _ ?_ | skip); simp only [go_sem, Nat.reduceLT, Nat.reduceLeDiff, Nat.reduceEqDiff, Nat.reduceBEq, Nat.reduceBNe, Nat.reduceAdd, Nat.reduceMul, Nat.reduceSub, Nat.reduceDiv, Nat.reduceMod, Int.reduceToNat, Int.reduceAdd, Int.reduceLT, Int.reduceLE, Int.reduceEq, Int.reduceSub, Int.reduceMul, Int.reduceNeg, ↓reduceIte, reduceCtorEq]) | (refine gspDI ?_ ?_ <;> (intro _hh; (try simp only [_hh]); revert _hh)) | refine gspLI ?_ ?_ | refine condLI ?_ ?_ | refine gspI ?_ ?_ | refine And.intro ?_ ?_ | with_reducible intro _hh | trivial | (simp only [cl1, cl2, cl3, List.length_cons, List.length_nil, List.length_append]; omega)))
  all_goals exact LeA.tupL (.cons le_zeroP (.cons (LeA.refl _) .nil))
theorem fn_BracketE (m : List Int) (hv : validB [] m 0 = true) : Fn Tryd.prog 6 [dgA [] m 0] (.tup [plA false [], I 8]) := by
  have hV := fn_Valid [] m 0
  rw [hv] at hV
  refine Fn.introL [.cell 2 29, .tmp 3] Tryd.func6 rfl rfl (by decide) (by simp [Tryd.ntmps6]) ?_; rw [Tryd.ntmps6]
  repeat' (first | omega | ((first | refine awC_sound _ _ _ _ ?_ | skip); simp only [go_sem, Nat.reduceLT, Nat.reduceLeDiff, Nat.reduceEqDiff, Nat.reduceBEq, Nat.reduceBNe, Nat.reduceAdd, Nat.reduceMul, Nat.reduceSub, Nat.reduceDiv, Nat.reduceMod, Int.reduceToNat, Int.reduceAdd, Int.reduceLT, Int.reduceLE, Int.reduceEq, Int.reduceSub, Int.reduceMul, Int.reduceNeg, ↓reduceIte, reduceCtorEq]) | (refine gspDI ?_ ?_ <;> (intro _hh; (try simp only [_hh]); revert _hh)) | refine gspLI ?_ ?_ | refine condLI ?_ ?_ | refine gspI ?_ ?_ | refine And.intro ?_ ?_ | with_reducible intro _hh | trivial | (simp only [cl1, cl2, cl3, List.length_cons, List.length_nil, List.length_append]; omega))
  all_goals refine ⟨CallB.fn rfl hV ?_⟩
  all_goals (repeat' (first | omega | ((first | refine awC_sound _ _ _ _ ?_ | skip); simp only [go_sem, Nat.reduceLT, Nat.reduceLeDiff, Nat.reduceEqDiff, Nat.reduceBEq, Nat.reduceBNe, Nat.reduceAdd, Nat.reduceMul, Nat.reduceSub, Nat.reduceDiv, Nat.reduceMod, Int.reduceToNat, Int.reduceAdd, Int.reduceLT, Int.reduceLE, Int.reduceEq, Int.reduceSub, Int.reduceMul, Int.reduceNeg, ↓reduceIte, reduceCtorEq]) | (refine gspDI ?_ ?_ <;> (intro _hh; (try simp only [_hh]); revert _hh)) | refine gspLI ?_ ?_ | refine condLI ?_ ?_ | refine gspI ?_ ?_ | refine And.intro ?_ ?_ | with_reducible intro _hh | trivial | (simp only [cl1, cl2, cl3, List.length_cons, List.length_nil, List.length_append]; omega)))
  all_goals exact LeA.tupL (.cons le_zeroP (.cons (LeA.refl _) .nil))
theorem fn_BracketF (s m : List Int) (L : Int) (hv : validB s m L = true) (h0 : ¬ (s.length = 0 ∧ L = 0)) (h : 14 < s.length ∨ 20 < L) : Fn Tryd.prog 6 [dgA s m L] (.tup [plA false [], I 5]) := by
  have hV := fn_Valid s m L
  rw [hv] at hV
  by_cases hs : s.length = 0
  · have b0 : ((s.length : Int) == 0) = true := by simp [hs]
    have b1 : (L == 0) = false := by rw [beq_eq_false_iff_ne]; omega
    have b2 : decide ((14 : Int) < s.length) = false := by simp; omega
    have b3 : decide ((20 : Int) < L) = true := by simp; omega
    refine Fn.introL [.cell 2 29, .tmp 3] Tryd.func6 rfl rfl (by decide) (by simp [Tryd.ntmps6]) ?_; rw [Tryd.ntmps6]
    repeat' (first | omega | ((first | refine awC_sound _ _ _ _ ?_ | skip); simp only [go_sem, Nat.reduceLT, Nat.reduceLeDiff, Nat.reduceEqDiff, Nat.reduceBEq, Nat.reduceBNe, Nat.reduceAdd, Nat.reduceMul, Nat.reduceSub, Nat.reduceDiv, Nat.reduceMod, Int.reduceToNat, Int.reduceAdd, Int.reduceLT, Int.reduceLE, Int.reduceEq, Int.reduceSub, Int.reduceMul, Int.reduceNeg, ↓reduceIte, reduceCtorEq]) | (refine gspDI ?_ ?_ <;> (intro _hh; (try simp only [_hh]); revert _hh)) | refine gspLI ?_ ?_ | refine condLI ?_ ?_ | refine gspI ?_ ?_ | refine And.intro ?_ ?_ | with_reducible intro _hh | trivial | (simp only [cl1, cl2, cl3, List.length_cons, List.length_nil, List.length_append]; omega))
    all_goals refine ⟨CallB.fn rfl hV ?_⟩
    all_goals (repeat' (first | omega | ((first | refine awC_sound _ _ _ _ ?_ | skip); simp only [go_sem, Nat.reduceLT, Nat.reduceLeDiff, Nat.reduceEqDiff, Nat.reduceBEq, Nat.reduceBNe, Nat.reduceAdd, Nat.reduceMul, Nat.reduceSub, Nat.reduceDiv, Nat.reduceMod, Int.reduceToNat, Int.reduceAdd, Int.reduceLT, Int.reduceLE, Int.reduceEq, Int.reduceSub, Int.reduceMul, Int.reduceNeg, ↓reduceIte, reduceCtorEq, b0, b1, b2, b3]) | (refine gspDI ?_ ?_ <;> (intro _hh; (try simp only [_hh]); revert _hh)) | refine gspLI ?_ ?_ | refine condLI ?_ ?_ | refine gspI ?_ ?_ | refine And.intro ?_ ?_ | with_reducible intro _hh | trivial | (simp only [cl1, cl2, cl3, List.length_cons, List.length_nil, List.length_append]; omega)))
    all_goals exact LeA.tupL (.cons le_zeroP (.cons (LeA.refl _) .nil))
  · have b0 : ((s.length : Int) == 0) = false := by rw [beq_eq_false_iff_ne]; omega
    by_cases h14 : 14 < s.length
    · have b2 : decide ((14 : Int) < s.length) = true := by simp; omega
      refine Fn.introL [.cell 2 29, .tmp 3] Tryd.func6 rfl rfl (by decide) (by simp [Tryd.ntmps6]) ?_; rw [Tryd.ntmps6]
      repeat' (first | omega | ((first | refine awC_sound _ _ _ _ ?_ | skip); simp only [go_sem, Nat.reduceLT, Nat.reduceLeDiff, Nat.reduceEqDiff, Nat.reduceBEq, Nat.reduceBNe, Nat.reduceAdd, Nat.reduceMul, Nat.reduceSub, Nat.reduceDiv, Nat.reduceMod, Int.reduceToNat, Int.reduceAdd, Int.reduceLT, Int.reduceLE, Int.reduceEq, Int.reduceSub, Int.reduceMul, Int.reduceNeg, ↓reduceIte, reduceCtorEq]) | (refine gspDI ?_ ?_ <;> (intro _hh; (try simp only [_hh]); revert _hh)) | refine gspLI ?_ ?_ | refine condLI ?_ ?_ | refine gspI ?_ ?_ | refine And.intro ?_ ?_ | with_reducible intro _hh | trivial | (simp only [cl1, cl2, cl3, List.length_cons, List.length_nil, List.length_append]; omega))
      all_goals refine ⟨CallB.fn rfl hV ?_⟩
      all_goals (repeat' (first | omega | ((first | refine awC_sound _ _ _ _ ?_ | skip); simp only [go_sem, Nat.reduceLT, Nat.reduceLeDiff, Nat.reduceEqDiff, Nat.reduceBEq, Nat.reduceBNe, Nat.reduceAdd, Nat.reduceMul, Nat.reduceSub, Nat.reduceDiv, Nat.reduceMod, Int.reduceToNat, Int.reduceAdd, Int.reduceLT, Int.reduceLE, Int.reduceEq, Int.reduceSub, Int.reduceMul, Int.reduceNeg, ↓reduceIte, reduceCtorEq, b0, b2]) | (refine gspDI ?_ ?_ <;> (intro _hh; (try simp only [_hh]); revert _hh)) | refine gspLI ?_ ?_ | refine condLI ?_ ?_ | refine gspI ?_ ?_ | refine And.intro ?_ ?_ | with_reducible intro _hh | trivial | (simp only [cl1, cl2, cl3, List.length_cons, List.length_nil, List.length_append]; omega)))
      all_goals exact LeA.tupL (.cons le_zeroP (.cons (LeA.refl _) .nil))
    · have b2 : decide ((14 : Int) < s.length) = false := by simp; omega
      have b3 : decide ((20 : Int) < L) = true := by simp; omega
      refine Fn.introL [.cell 2 29, .tmp 3] Tryd.func6 rfl rfl (by decide) (by simp [Tryd.ntmps6]) ?_; rw [Tryd.ntmps6]
      repeat' (first | omega | ((first | refine awC_sound _ _ _ _ ?_ | skip); simp only [go_sem, Nat.reduceLT, Nat.reduceLeDiff, Nat.reduceEqDiff, Nat.reduceBEq, Nat.reduceBNe, Nat.reduceAdd, Nat.reduceMul, Nat.reduceSub, Nat.reduceDiv, Nat.reduceMod, Int.reduceToNat, Int.reduceAdd, Int.reduceLT, Int.reduceLE, Int.reduceEq, Int.reduceSub, Int.reduceMul, Int.reduceNeg, ↓reduceIte, reduceCtorEq]) | (refine gspDI ?_ ?_ <;> (intro _hh; (try simp only [_hh]); revert _hh)) | refine gspLI ?_ ?_ | refine condLI ?_ ?_ | refine gspI ?_ ?_ | refine And.intro ?_ ?_ | with_reducible intro _hh | trivial | (simp only [cl1, cl2, cl3, List.length_cons, List.length_nil, List.length_append]; omega))
      all_goals refine ⟨CallB.fn rfl hV ?_⟩
      all_goals (repeat' (first | omega | ((first | refine awC_sound _ _ _ _ ?_ | skip); simp only [go_sem, Nat.reduceLT, Nat.reduceLeDiff, Nat.reduceEqDiff, Nat.reduceBEq, Nat.reduceBNe, Nat.reduceAdd, Nat.reduceMul, Nat.reduceSub, Nat.reduceDiv, Nat.reduceMod, Int.reduceToNat, Int.reduceAdd, Int.reduceLT, Int.reduceLE, Int.reduceEq, Int.reduceSub, Int.reduceMul, Int.reduceNeg, ↓reduceIte, reduceCtorEq, b0, b2, b3]) | (refine gspDI ?_ ?_ <;> (intro _hh; (try simp only [_hh]); revert _hh)) | refine gspLI ?_ ?_ | refine condLI ?_ ?_ | refine gspI ?_ ?_ | refine And.intro ?_ ?_ | with_reducible intro _hh | trivial | (simp only [cl1, cl2, cl3, List.length_cons, List.length_nil, List.length_append]; omega)))
      all_goals exact LeA.tupL (.cons le_zeroP (.cons (LeA.refl _) .nil))
def grB15 (s m : List Int) (L : Int) : Bool := (decide (9 < s.length) && decide (s.length ≤ 14)) || (decide (60 < m.length) || (decide (10 < L) && decide (L ≤ 20)))
theorem fn_great15 (s m : List Int) (L : Int) : Fn Tryd.prog 5 [dgA s m L] (.bool (grB15 s m L)) := by
  have e1 : decide ((9 : Int) < s.length) = decide (9 < s.length) := decide_eq_decide.2 (by omega)
  have e2 : decide ((s.length : Int) ≤ 14) = decide (s.length ≤ 14) := decide_eq_decide.2 (by omega)
  have e3 : decide ((60 : Int) < m.length) = decide (60 < m.length) := decide_eq_decide.2 (by omega)
  unfold grB15
  generalize decide (9 < s.length) = x1 at *
  generalize decide (s.length ≤ 14) = x2 at *
  generalize decide (60 < m.length) = x3 at *
  obtain ⟨x4, e4⟩ : ∃ x, decide (10 < L) = x := ⟨_, rfl⟩
  obtain ⟨x5, e5⟩ : ∃ x, decide (L ≤ 20) = x := ⟨_, rfl⟩
  rw [e4, e5]
  refine Fn.intro [.tmp 2] Tryd.func5 rfl rfl (by decide) (by simp [Tryd.ntmps5]) ?_; rw [Tryd.ntmps5]
  cases x1 <;> cases x2 <;> cases x3 <;> cases x4 <;> cases x5
  all_goals (repeat' (first | omega | ((first | refine awC_sound _ _ _ _ ?_ | skip); simp only [go_sem, Nat.reduceLT, Nat.reduceLeDiff, Nat.reduceEqDiff, Nat.reduceBEq, Nat.reduceBNe, Nat.reduceAdd, Nat.reduceMul, Nat.reduceSub, Nat.reduceDiv, Nat.reduceMod, Int.reduceToNat, Int.reduceAdd, Int.reduceLT, Int.reduceLE, Int.reduceEq, Int.reduceSub, Int.reduceMul, Int.reduceNeg, ↓reduceIte, reduceCtorEq, e1, e2, e3, e4, e5]) | (refine gspDI ?_ ?_ <;> (intro _hh; (try simp only [_hh]); revert _hh)) | refine gspLI ?_ ?_ | refine condLI ?_ ?_ | refine gspI ?_ ?_ | refine And.intro ?_ ?_ | with_reducible intro _hh | trivial | (simp only [cl1, cl2, cl3, List.length_cons, List.length_nil, List.length_append]; omega)))
end Go.Proofs.YtmfdclbiljpmgaaDoor

/- The bracket of a union, and with one more loop; it is not 0. -/
set_option linter.unusedSimpArgs false
set_option linter.unusedVariables false
namespace Go.Proofs.YtmfdclbiljpmgaaDoor
open Go Go.RowKit
set_option maxRecDepth 100000
set_option maxHeartbeats 8000000
theorem powN {a : Int} (h : a ≠ 0) : ∀ k : Nat, a ^ k ≠ 0
  | 0 => by rw [Int.pow_zero]; decide
  | k + 1 => by rw [Int.pow_succ]; exact Int.mul_ne_zero (powN h k) h
theorem brP_okN {m : List Int} {n L : Nat} (hp : PmOk m n) (hs : n ≤ 9) (hL : L ≤ 20) : PolyB (brP m n L) (brT m n L 1) := listOf_ok fun e he => brT_sup hp hs hL (by omega) he
theorem brP_pos {m : List Int} {n L : Nat} (hp : PmOk m n) (hm : m.length = 4 * n) (h0 : ¬ (n = 0 ∧ L = 0)) (hs : n ≤ 9) (hL : L ≤ 20) : 0 < (brP m n L).length := by
  have hP := brP_okN hp hs hL
  have hev : evL (brP m n L) ≠ 0 := by
    rw [← evF_cfL 1000 (brP m n L) fun t ht => brT_sup hp hs hL (j := 1) (by omega) (hP.mem ht).2, show cfL (brP m n L) = brT m n L 1 from funext hP.cf]
    have h1 := evF_hrT (K := 2 ^ n) (c := cN m n L) (w := wB n) 1 1000 fun k _ hk => by
      have a := cN_le hp (L := L) k
      have b := cntB_le k n
      unfold wB; omega
    have h2 : evF (brT m n L 1) 1000 = sm (fun k => (-2 : Int) ^ (cN m n L k - 1)) (2 ^ n) := Eq.trans h1 (sm_congr fun k _ => by rw [if_pos (cN_one hp h0 k)])
    rw [h2]
    by_cases hn : 0 < n
    · rw [br_one hp hn L]
      exact Int.mul_ne_zero (powN (by decide) _) (powN (by decide) _)
    · have hn0 : n = 0 := by omega
      subst hn0
      simp only [Nat.pow_zero, sm]
      rw [show (0 : Int) + (-2) ^ (cN m 0 L 0 - 1) = (-2) ^ (cN m 0 L 0 - 1) by omega]
      exact powN (by decide) _
  cases h : brP m n L with
  | nil => rw [h] at hev; exact absurd rfl hev
  | cons t p => simp
theorem cN_two {m1 m2 : List Int} {n1 n2 L1 L2 : Nat} (hp1 : PmOk m1 n1) (hp2 : PmOk m2 n2) (hpu : PmOk (Sp.unM m1 m2) (n1 + n2)) (h1 : ¬ (n1 = 0 ∧ L1 = 0)) (h2 : ¬ (n2 = 0 ∧ L2 = 0)) (k : Nat) : 2 ≤ cN (Sp.unM m1 m2) (n1 + n2) (L1 + L2) k := by
  unfold cN
  rw [cir_union hp1 hp2 hpu]
  have a : 1 ≤ cirS m1 n1 (chB k) + L1 := by
    by_cases hn : 0 < n1
    · have := cirS_pos hp1 (chB k) hn; omega
    · omega
  have b : 1 ≤ cirS m2 n2 (fun c => chB k (n1 + c)) + L2 := by
    by_cases hn : 0 < n2
    · have := cirS_pos hp2 (fun c => chB k (n1 + c)) hn; omega
    · omega
  omega
theorem br_un {m1 m2 : List Int} {n1 n2 L1 L2 : Nat} (hp1 : PmOk m1 n1) (hp2 : PmOk m2 n2) (hpu : PmOk (Sp.unM m1 m2) (n1 + n2)) (l1 : m1.length = 4 * n1) (l2 : m2.length = 4 * n2) (h1 : ¬ (n1 = 0 ∧ L1 = 0)) (h2 : ¬ (n2 = 0 ∧ L2 = 0)) (hn : n1 + n2 ≤ 9) (hL : L1 + L2 ≤ 20) :
    ∃ r, Fn Tryd.prog 10 [plA false (brP m1 n1 L1), plA false (brP m2 n2 L2)] (plA false r) ∧ Fn Tryd.prog 10 [plA false r, plA false [(-2, -1), (2, -1)]] (plA false (brP (Sp.unM m1 m2) (n1 + n2) (L1 + L2))) := by
  have hP := brP_okN hp1 (L := L1) (by omega) (by omega)
  have hQ := brP_okN hp2 (L := L2) (by omega) (by omega)
  have p0 := brP_pos hp1 l1 h1 (by omega) (by omega)
  have q0 := brP_pos hp2 l2 h2 (by omega) (by omega)
  have s1 : ∀ e, brT m1 n1 L1 1 e ≠ 0 → -1000 ≤ e ∧ e ≤ 1000 := fun e he => brT_sup hp1 (by omega) (by omega) (j := 1) (by omega) he
  have s2 : ∀ e, brT m2 n2 L2 1 e ≠ 0 → -1000 ≤ e ∧ e ≤ 1000 := fun e he => brT_sup hp2 (by omega) (by omega) (j := 1) (by omega) he
  obtain ⟨r, hr, hM⟩ := mulG_ok hP hQ s1 s2 (fun e => by have := brT_bnd hp1 (L := L1) (by omega) (by omega) (j := 1) (by omega) e; omega) (fun e => by have := brT_bnd hp2 (L := L2) (by omega) (by omega) (j := 1) (by omega) e; omega)
    (br_union hp1 hp2 hpu h1 h2 (by omega) (by omega) (fun t ht => s1 _ (hP.mem ht).2) hP.cf) (fun e => by have := brT_bnd hpu (L := L1 + L2) hn hL (j := 2) (by omega) e; omega) p0 q0 (br_dense2 hp1 hp2 h1 h2 hn hP.asc hP.cf p0 hQ.asc hQ.cf q0)
  obtain ⟨q, hq, hN⟩ := mul_ok hr (fun e he => brT_sup hpu hn hL (j := 2) (by omega) he) (fun e => by have := brT_bnd hpu (L := L1 + L2) hn hL (j := 2) (by omega) e; omega) (fun h => brT_dense hpu hn hr.asc hr.cf h)
  refine ⟨r, hM, ?_⟩
  have e : q = brP (Sp.unM m1 m2) (n1 + n2) (L1 + L2) := (hq.congr fun x => br_two (fun k _ => cN_two hp1 hp2 hpu h1 h2 k) x).eq fun e he => brT_sup hpu hn hL (j := 1) (by omega) he
  rw [← e]; exact hN
theorem br_loop {m : List Int} {n L : Nat} (hp : PmOk m n) (h0 : ¬ (n = 0 ∧ L = 0)) (hn : n ≤ 9) (hL : L + 1 ≤ 20) :
    Fn Tryd.prog 10 [plA false (brP m n L), plA false [(-2, -1), (2, -1)]] (plA false (brP m n (L + 1))) := by
  have hP := brP_okN hp (L := L) hn (by omega)
  obtain ⟨q, hq, hN⟩ := mul_ok hP (fun e he => brT_sup hp hn (by omega) (j := 1) (by omega) he) (fun e => by have := brT_bnd hp (L := L) hn (by omega) (j := 1) (by omega) e; omega) (fun h => brT_dense hp hn hP.asc hP.cf h)
  have h2 : ∀ x, brT m n (L + 1) 2 x = brT m n L 1 x := fun x => sm_congr fun k _ => by
    have e : cN m n (L + 1) k = cN m n L k + 1 := by unfold cN; omega
    rw [e]
    by_cases h : 1 ≤ cN m n L k
    · rw [if_pos h, if_pos (by omega), show cN m n L k + 1 - 2 = cN m n L k - 1 by omega]
    · rw [if_neg h, if_neg (by omega)]
  have h1 : ∀ x, dml (brT m n (L + 1) 2) x = brT m n (L + 1) 1 x := br_two fun k _ => by
    have := cN_one hp h0 k
    have e : cN m n (L + 1) k = cN m n L k + 1 := by unfold cN; omega
    omega
  have e : q = brP m n (L + 1) := (hq.congr fun x => by rw [← h1 x, show brT m n (L + 1) 2 = brT m n L 1 from funext h2]).eq fun e he => brT_sup hp hn hL (j := 1) (by omega) he
  rw [← e]; exact hN
end Go.Proofs.YtmfdclbiljpmgaaDoor
