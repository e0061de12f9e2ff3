/- Rows of laws: an argument that is read is given back as it was; diagrams as data. -/
import Derived.Test.YtebdkebfkpbmpaaGreatDoorRows
import Derived.Test.YtebdkebfkpbmpaaGreatDoorXg
import Derived.ProofKit
import Derived.LaidMore
import Derived.OpenShut
import Derived.Stop.Joined
import Derived.ReadAgain
import Derived.Lib.SmallJoins
import Derived.ChangeSlices
import Derived.Test.YtebdkebfkpbmpaaGreatDoorTie
import Derived.Test.YtebdkebfkpbmpaaGreatDoorCards
import Derived.SevenTiedAt
import Derived.Deep.Grids
set_option linter.unusedSimpArgs false
set_option linter.unusedVariables false
namespace Go.Proofs.YtebdkebfkpbmpaaGreatDoor
set_option maxRecDepth 100000
open Go Go.Joins Go.ChangeShapes Go.WideShapes Go.ChangeAt Go.WideMaps Go.WideElems Go.RowKit
theorem kids : Kids Tryz.prog (· < Tryz.prog.types.size) := kids_rows (by kernel_rfl) (by kernel_rfl)
theorem full : ∀ t e, t < Tryz.prog.types.size -> Tryz.prog.underlying t = some (.slice e) -> 0 < Tryz.prog.cellsOf e := slices_full_of Tryz.prog (by kernel_rfl)
section
variable {H : Type} {enc : TypeId × Value -> H}
theorem yii {P : Program} {W W' : World} {base : Nat} {sp : Nat -> Bool} {held : Bool} : ∀ {ts : List TypeId} {vs : List Value} {ds : List (DataW H)} {ps : List MemPlace}, DataW.TrodAll enc P W base sp held ts vs ds ps -> (∀ p ∈ ps, W.sameAt W' p) -> DataW.TrodAll enc P W' base sp held ts vs ds ps
 | [], [], [], _, h, _ => h
 | _ :: _, _ :: _, _ :: _, _, ⟨p, q, ⟨n, h1⟩, h2, e⟩, hs => ⟨p, q, ⟨n, DataW.trod_carry n _ _ _ h1 (fun x hx => hs x (by rw [e]; exact List.mem_append_left _ hx))⟩, yii h2 (fun x hx => hs x (by rw [e]; exact List.mem_append_right _ hx)), e⟩
theorem y15 {f : Func} {s : ChangeSpec} {apart fresh handsOn again : Bool} {W W' : World} {args : Array Value} {ds gs : List (DataW H)} {before : List MemPlace}
  (hW : DataW.Whole enc Tryz.prog f.params.toList s.vars apart W args.toList ds gs before) (hv : s.vars = []) (hT : ∀ t ∈ f.params.toList, t < Tryz.prog.types.size)
  (hr : f.resultTypes = #[4]) (hs : s.fn H (ds ++ gs) = { results := [.lit (.bool true)], args := ds }) (hb : Below W.heap.size W W') :
  s.post enc Tryz.prog f apart fresh handsOn again W args (.bool true) W' := by
 have hold : ∀ p ∈ before, (fun b => decide (b < W.heap.size)) p.block = true := fun p hp => by simpa using hW.lt p hp
 have hlt : ∀ p ∈ before, p.block < W.heap.size := fun p hp => hW.lt p hp
 obtain ⟨p, q, hA, hV, hpq, hz, hn⟩ := hW
 have hWw : DataW.Whole enc Tryz.prog f.params.toList s.vars apart W args.toList ds gs before := ⟨p, q, hA, hV, hpq, hz, hn⟩
 rw [hv] at hV
 obtain ⟨rfl, rfl⟩ := trodVars_none hV
 rw [List.append_nil] at hpq
 subst hpq
 have hargs : ∀ sp : Nat -> Bool, (∀ x ∈ before, sp x.block = true) -> DataW.TrodAll enc Tryz.prog W' 0 sp true f.params.toList args.toList ds before := fun sp hsp =>
  yii (DataW.TrodAll.respare kids full hT hA hsp) fun x hx => hb.same (hlt x hx)
 have hres : ∀ (b : Nat) (sp : Nat -> Bool) (hd : Bool), DataW.TrodAll enc Tryz.prog W' b sp hd f.resultTypes.toList ((Value.bool true).resultList f.resultTypes.size) [.lit (.bool true)] [] := fun b sp hd => by
  rw [hr]
  exact trodAll_mk1 (shut_bool Tryz.underlying4 _)
 refine ⟨ds, [], before, [], before, [], hWw, ?_, ?_, ?_, hb.frame _, fun _ => ?_⟩
 ·rw [hs]; exact hres _ _ _
 ·rw [hs]; exact hargs _ hold
 ·rw [hv, hs]; rfl
 ·refine ⟨?_, [.lit (.bool true)] ++ ds, [], [] ++ before, ⟨[] ++ before, [], trodAll_append (hargs _ (fun _ _ => rfl)) (hres _ _ _), ?_, by simp, ?_, ?_⟩, ?_⟩
  ·exact ok_one hr (by rfl) (okWide_bool_mk Tryz.underlying4 _)
  ·rw [hv]; rfl
  ·intro b off hp
   have hp' : MemPlace.cell b off ∈ before := by simpa using hp
   rw [hb.frozen (hlt _ hp')]
   exact hz b off hp'
  ·intro ha
   have := hn ha
   simpa using this
  ·intro p hp _
   simpa using hp
theorem ynk {w : World} {fuel : Nat} {v : Value} {x : DataW H × List MemPlace} (h : DataW.trod enc Tryz.prog w 0 (fun _ => true) true fuel 22 [v] = some x) : ∃ s : List Int, VR w (fun _ => False) ρ0 (fun _ => False) v (roI s) := by
 rcases open_ints Tryz.underlying22 Tryz.underlying3 (by kernel_rfl) h with ⟨hc, _⟩ | ⟨a, len, cap, zs, hc, _, hl, _, hz, _, hcell, _⟩
 ·simp only [List.cons.injEq, and_true] at hc
  subst hc
  exact ⟨[], .ro 1 0 (.ints []) none 0 (fun _ => undef) rfl (Nat.le_refl _) (by decide) (fun h => absurd h (by decide)) (fun j hj => by simp [Cs.len] at hj)⟩
 ·simp only [List.cons.injEq, and_true] at hc
  subst hc
  simp only [if_true] at hz
  refine ⟨zs.take len, ?_⟩
  have e : (zs.take len).length = len := by rw [List.length_take]; omega
  unfold roI
  rw [e]
  refine .ro 1 len (.ints (zs.take len)) (some a) cap (fun j => .int .i64 (zs.getD j 0)) (by simp [Cs.len]; omega) hl (by decide) (fun h0 => ⟨a, rfl, ?_, fun h => h, fun j hj => ?_⟩) fun j hj => ?_
  ·have h1 := hcell 0 (by omega)
   unfold World.cell? at h1
   rw [show (a.add 0) = a from rfl] at h1
   split at h1
   ·rename_i hb; exact (Array.getElem?_eq_some_iff.1 hb).1
   ·cases h1
  ·exact hcell j (by simp [Cs.len] at hj; omega)
  ·have hj' : j < len := by simp [Cs.len] at hj; omega
   simp only [Cs.get]
   rw [show (zs.take len).getD j 0 = zs.getD j 0 by simp [List.getD_eq_getElem?_getD, List.getElem?_take, hj']]
   exact .int _ _
theorem y9y {w : World} {r : Reach} {b0 : Nat} {v : Value} {d : DataW H} {p : List MemPlace} (hv : Value.okWide Tryz.prog w r b0 24 v) (h : DataW.Trod enc Tryz.prog w 0 (fun _ => true) true 24 v d p) :
  ∃ (s m : List Int) (L : Int), VR w (fun _ => False) ρ0 (fun _ => False) v (dgA s m L) := by
 obtain ⟨v0, v1, v2, y0, y1, y2, n, rfl, _, _, h0, h1, h2⟩ := open_agg3 Tryz.underlying24 (by kernel_rfl) (by kernel_rfl) hv h
 obtain ⟨s, hs⟩ := ynk h0
 obtain ⟨m, hm⟩ := ynk h1
 obtain ⟨L, e, _⟩ := DataW.trod_int Tryz.underlying3 h2
 simp only [List.cons.injEq, and_true] at e
 subst e
 refine ⟨s, m, L, .agg [v0, v1, .int .i64 L] [roI s, roI m, I L] rfl fun i u x hu hx => ?_⟩
 match i, hu, hx with
 | 0, hu, hx => simp at hu hx; subst hu hx; exact hs
 | 1, hu, hx => simp at hu hx; subst hu hx; exact hm
 | 2, hu, hx => simp at hu hx; subst hu hx; exact .int _ _
end
end Go.Proofs.YtebdkebfkpbmpaaGreatDoor
set_option linter.unusedSimpArgs false
set_option linter.unusedVariables false
namespace Go.Proofs.YtebdkebfkpbmpaaGreatDoor
set_option maxRecDepth 100000
open Go Go.Joins Go.ChangeShapes Go.WideShapes Go.ChangeAt Go.WideMaps Go.WideElems Go.RowKit
theorem own : ownKnob Tryz.prog.godebug = none := by kernel_rfl
def ymm : List (String × DataW Unit) := [("math/bits.deBruijn32tab", Rows.laid_math_bits_deBruijn32tab), ("math/bits.deBruijn64tab", Rows.laid_math_bits_deBruijn64tab), ("internal/strconv.uint64pow10", Rows.laid_internal_strconv_uint64pow10)]
theorem gPow : Tryz.prog.globalNamed "internal/strconv.uint64pow10" = some 0 := by kernel_rfl
theorem tPow : (Tryz.prog.globals[0]?).map (·.type) = some 189 := by kernel_rfl
theorem yqk {W : World} (h : laidMetH Tryz.prog ymm W) : Good W := by
 rw [MakeChecks.laidMetH_plain _ _ _ (by kernel_rfl)] at h
 obtain ⟨ps, ⟨g0, t0, cs0, f0, p0, q0, hg0, ht0, hv0, hd0, ⟨g1, t1, cs1, f1, p1, q1, hg1, ht1, hv1, hd1, ⟨g2, t2, cs2, f2, p2, q2, hg2, ht2, hv2, hd2, _, _⟩, _⟩, _⟩, _, _⟩ := h
 obtain rfl := Option.some.inj (gPow.symm.trans hg2)
 obtain rfl := Option.some.inj (tPow.symm.trans ht2)
 have e : (Rows.laid_internal_strconv_uint64pow10 : DataW Unit) = Lib.tabData .u64 Lib.pow10Tab := by rfl
 rw [e] at hd2
 unfold Good Lib.TabIs
 rw [hv2, ← Lib.cells_of_tab Tryz.underlying189 Tryz.underlying100 (by kernel_rfl) (by kernel_rfl) hd2]
theorem y16 (os : Os) (args : Array Value) : laidMetH Tryz.prog ymm ((World.doorLaid Tryz.prog 400 os).forCall (fun _ _ => 0) ⟨#[], args, []⟩).memory :=
 laidMetH_of_parts3 (fuel := 8) (laidMet_of_run' 8 (by kernel_rfl) (by kernel_rfl)) (by kernel_rfl) (by kernel_rfl)
end Go.Proofs.YtebdkebfkpbmpaaGreatDoor
set_option linter.unusedSimpArgs false
set_option linter.unusedVariables false
namespace Go.Proofs.YtebdkebfkpbmpaaGreatDoor
open Go Go.Joins Go.ChangeShapes Go.WideShapes Go.ChangeAt Go.WideMaps Go.WideElems Go.RowKit
set_option maxRecDepth 100000
section
variable {H : Type} {enc : TypeId × Value -> H}
theorem yv1 {w : World} {r : Reach} {b0 t : Nat} {v : Value} (hu : ∀ fs, Tryz.prog.underlying t ≠ some (.struct fs)) (ha : ∀ n e, Tryz.prog.underlying t ≠ some (.array n e)) (hv : Value.okWide Tryz.prog w r b0 t v) : v.cells.toList = [v] := by
 unfold Value.okWide at hv
 split at hv
 ·exact absurd ‹_› (hu _)
 ·exact absurd ‹_› (ha _ _)
 ·unfold Cell.okWide at hv
  cases v <;> first | rfl | (exfalso; split at hv <;> simp_all [Cell.ok])
end
end Go.Proofs.YtebdkebfkpbmpaaGreatDoor
set_option linter.unusedSimpArgs false
set_option linter.unusedVariables false
namespace Go.Proofs.YtebdkebfkpbmpaaGreatDoor
open Go Go.Joins Go.ChangeShapes Go.WideShapes Go.ChangeAt Go.WideMaps Go.WideElems Go.RowKit
set_option maxRecDepth 100000
theorem y8e {H : Type} {enc : TypeId × Value -> H} {w : World} {r : Reach} {b0 : Nat} {v : Value} {d : DataW H} {p : List MemPlace} (hv : Value.okWide Tryz.prog w r b0 22 v) (h : DataW.Trod enc Tryz.prog w 0 (fun _ => true) true 22 v d p) :
  ∃ l : List Int, VR w (fun _ => False) ρ0 (fun _ => False) v (roI l) := by
 obtain ⟨fuel, hf⟩ := h
 rw [yv1 (fun fs => by rw [Tryz.underlying22]; simp) (fun n e => by rw [Tryz.underlying22]; simp) hv] at hf
 exact ynk hf
end Go.Proofs.YtebdkebfkpbmpaaGreatDoor
