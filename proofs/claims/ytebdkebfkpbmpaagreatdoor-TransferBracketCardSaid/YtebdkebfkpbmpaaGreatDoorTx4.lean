/- Layer 12: the text of a polynomial, as a contract. -/
import Derived.Test.YtebdkebfkpbmpaaGreatDoorTx3
import Derived.Test.YtebdkebfkpbmpaaGreatDoorLa0
set_option linter.unusedSimpArgs false
set_option linter.unusedVariables false
namespace Go.Proofs.YtebdkebfkpbmpaaGreatDoor
open Go Go.RowKit
set_option maxRecDepth 100000
set_option maxHeartbeats 4000000
def cok (p : List (Int × Int)) : Prop := ∀ k, k < p.length -> -4611686018427387904 <= (p.getD k (0, 0)).1 /\ (p.getD k (0, 0)).1 <= 4611686018427387904 /\ -4611686018427387904 <= (p.getD k (0, 0)).2 /\ (p.getD k (0, 0)).2 <= 4611686018427387904
def txtB (name : List UInt8) (p : List (Int × Int)) : List UInt8 := if p.length = 0 then [48] else txtN name p p.length
theorem y25 (name : ByteArray) : Fn Tryz.prog 13 [plA false [], .str name] (.str ⟨#[48]⟩) := by
 refine Fn.intro [.tmp 4] Tryz.func13 rfl rfl (by decide) (by simp [Tryz.ntmps13]) ?_; rw [Tryz.ntmps13]
 repeat' (first | omega | ((try apply yaa); simp only [go_sem, sevalprocAttr]) | (apply yad <;> (intro h_; (try simp only [h_]); revert h_)) | apply yac | apply yab | apply gspI | apply And.intro | with_reducible intro h_ | trivial | (simp only [go_sem, la2]; omega))
theorem y26 (p : List (Int × Int)) (name : ByteArray) (hp0 : 0 < p.length) (hr : cok p) (hn : name.size <= 1000) (hpl : p.length <= 1000000) :
  Fn Tryz.prog 13 [plA false p, .str name] (.str ⟨(txtN name.data.toList p p.length).toArray⟩) := by
 refine ⟨⟨_, Tryz.func13, rfl, by decide⟩, fun w Mx vs hMx hl hv => ?_⟩
 match vs, hl with
 | [v0, v1], _ =>
   have h0 := hv 0 v0 _ rfl rfl
   have h1 := (hv 1 v1 _ rfl rfl).str_inv
   subst h1
   obtain ⟨us, rfl, hul, hu⟩ := h0.agg_inv
   match us, hul with
   | [u0, u1], _ =>
     have k0 := (hu 0 u0 _ rfl rfl).bool_inv
     have k1 := hu 1 u1 _ rfl rfl
     subst k0
     cases k1 with
     | ro _ _ _ ad cap x hlen hcap _ hcell hx =>
       obtain ⟨a, rfl, hb, _, hj⟩ := hcell hp0
       have hcl : (Cs.lst (tmC p)).len = 2 * p.length := ybh p
       refine (yzn p name a cap w hp0 hMx.1 hb (fun k hk => ?_) hr hn hpl).mono ?_
       ·have e0 := hx (k * 2) (by omega)
        have e1 := hx (k * 2 + 1) (by omega)
        rw [show (Cs.lst (tmC p)).get (k * 2) = (tmC p).getD (k * 2) .any from rfl, ycf p k hk] at e0
        rw [show (Cs.lst (tmC p)).get (k * 2 + 1) = (tmC p).getD (k * 2 + 1) .any from rfl, ydc p k hk] at e1
        refine ⟨?_, ?_⟩
        ·rw [hj _ (by omega), e0.int_inv]
        ·rw [hj _ (by omega), e1.int_inv]
       ·rintro e w' ⟨rfl, hb'⟩
        exact ⟨_, rfl, hb', .str _⟩
theorem yux (p : List (Int × Int)) (name : ByteArray) (hr : cok p) (hn : name.size <= 1000) (hpl : p.length <= 1000000) :
  Fn Tryz.prog 13 [plA false p, .str name] (.str ⟨(txtB name.data.toList p).toArray⟩) := by
 unfold txtB
 split
 ·obtain rfl : p = [] := List.eq_nil_of_length_eq_zero (by assumption)
  exact y25 name
 ·exact y26 p name (by omega) hr hn hpl
end Go.Proofs.YtebdkebfkpbmpaaGreatDoor
