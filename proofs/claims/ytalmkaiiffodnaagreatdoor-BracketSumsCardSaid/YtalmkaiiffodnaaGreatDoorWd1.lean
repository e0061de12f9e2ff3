/- Layer 12: integers of 128 bits: sums and negatives. -/
import Derived.Shelf.Spec.BitsCarry
import Derived.WalkKit
import Derived.BigCall
import Derived.Laws.Rows
import Derived.Lib.SmallJoins
import Derived.Test.YtalmkaiiffodnaaGreatDoorSh
import Derived.Test.YtalmkaiiffodnaaGreatDoorTy
set_option linter.unusedSimpArgs false
set_option linter.unusedVariables false
namespace Go.Proofs.YtalmkaiiffodnaaGreatDoor
open Go Go.RowKit Go.Shelf Go.Joins
set_option maxHeartbeats 4000000
set_option maxRecDepth 100000
def addRen : Ren := ⟨fun | 25 => 83 | 26 => 106 | n => n, fun | 22 => 93 | n => n, fun | n => n⟩
theorem addL : Lays7.n25 Tryz.prog addRen := { mixed := by kernel_rfl, f25 := Tryz.func83.trans (congrArg some (by kernel_rfl)), t22 := Tryz.underlying93, a22 := Tryz.isAgg93, z22 := Tryz.sizeOf93, v22 := Tryz.zeroValue93, i22 := by kernel_rfl }
theorem subL : Lays7.n26 Tryz.prog addRen := { mixed := by kernel_rfl, f26 := Tryz.func106.trans (congrArg some (by kernel_rfl)), t22 := Tryz.underlying93, a22 := Tryz.isAgg93, z22 := Tryz.sizeOf93, v22 := Tryz.zeroValue93, i22 := by kernel_rfl }
theorem run_add (x y c : Nat) (hc : c ≤ 1) (w : World) : (callFunc 83 #[.int .u64 x, .int .u64 y, .int .u64 c]).run Tryz.prog w =
      .ok (.value (.tuple #[.int .u64 (((x + y + c) % 18446744073709551616 : Nat) : Int), .int .u64 (((x + y + c) / 18446744073709551616 : Nat) : Int)])) w := Any7.bits_Add64 addL x y c hc w
theorem run_sub (x y c : Nat) (hc : c ≤ 1) (w : World) : (callFunc 106 #[.int .u64 x, .int .u64 y, .int .u64 c]).run Tryz.prog w =
      .ok (.value (.tuple #[.int .u64 (((x + 18446744073709551616 - y - c) % 18446744073709551616 : Nat) : Int), .int .u64 ((if x < y + c then 1 else 0 : Nat) : Int)])) w := Any7.bits_Sub64 subL x y c hc w
theorem run_add0 (x y : Nat) (w : World) : (callFunc 83 #[.int .u64 x, .int .u64 y, .int .u64 0]).run Tryz.prog w =
      .ok (.value (.tuple #[.int .u64 (((x + y) % 18446744073709551616 : Nat) : Int), .int .u64 (((x + y) / 18446744073709551616 : Nat) : Int)])) w := run_add x y 0 (by omega) w
theorem run_sub0 (y : Nat) (w : World) : (callFunc 106 #[.int .u64 0, .int .u64 y, .int .u64 0]).run Tryz.prog w =
      .ok (.value (.tuple #[.int .u64 (((0 + 18446744073709551616 - y) % 18446744073709551616 : Nat) : Int), .int .u64 ((if 0 < y then 1 else 0 : Nat) : Int)])) w := run_sub 0 y 0 (by omega) w
theorem run_sub1 (y c : Nat) (hc : c ≤ 1) (w : World) : (callFunc 106 #[.int .u64 0, .int .u64 y, .int .u64 c]).run Tryz.prog w =
      .ok (.value (.tuple #[.int .u64 (((0 + 18446744073709551616 - y - c) % 18446744073709551616 : Nat) : Int), .int .u64 ((if 0 < y + c then 1 else 0 : Nat) : Int)])) w := run_sub 0 y c hc w
theorem al3 (w : World) (o1 o2 o3 : Obj) : (((w.alloc o1).alloc o2).alloc o3).heap[w.heap.size + 1 + 1]? = some o3 := by
  have h := heap_alloc_new ((w.alloc o1).alloc o2) o3
  rw [show ((w.alloc o1).alloc o2).heap.size = w.heap.size + 1 + 1 by simp] at h
  exact h
theorem al2 (w : World) (o1 o2 : Obj) : ((w.alloc o1).alloc o2).heap[w.heap.size + 1]? = some o2 := by
  have h := heap_alloc_new (w.alloc o1) o2
  rw [show (w.alloc o1).heap.size = w.heap.size + 1 by simp] at h
  exact h
theorem calls_add (a b c d : Nat) (hb : b < 18446744073709551616) (hd : d < 18446744073709551616) (w : World) : Calls Tryz.prog 62 #[.agg #[.int .u64 a, .int .u64 b], .agg #[.int .u64 c, .int .u64 d]] w fun e w' =>
    e = .returned (.agg #[.int .u64 (((a + c + (b + d) / 18446744073709551616) % 18446744073709551616 : Nat) : Int), .int .u64 (((b + d) % 18446744073709551616 : Nat) : Int)]) ∧ Below w.heap.size w w' := by
  obtain ⟨lo, hlo⟩ : ∃ lo, lo = (b + d) % 18446744073709551616 := ⟨_, rfl⟩
  obtain ⟨cy, hcy⟩ : ∃ cy, cy = (b + d) / 18446744073709551616 := ⟨_, rfl⟩
  obtain ⟨hi, hhi⟩ : ∃ hi, hi = (a + c + cy) % 18446744073709551616 := ⟨_, rfl⟩
  obtain ⟨cz, hcz⟩ : ∃ cz, cz = (a + c + cy) / 18446744073709551616 := ⟨_, rfl⟩
  have r1 : ∀ w, (callFunc 83 #[.int .u64 b, .int .u64 d, .int .u64 0]).run Tryz.prog w = .ok (.value (.tuple #[.int .u64 lo, .int .u64 cy])) w := fun w => by rw [hlo, hcy]; exact run_add0 b d w
  have r2 : ∀ w, (callFunc 83 #[.int .u64 a, .int .u64 c, .int .u64 cy]).run Tryz.prog w = .ok (.value (.tuple #[.int .u64 hi, .int .u64 cz])) w := fun w => by rw [hhi, hcz]; exact run_add a c cy (by omega) w
  rw [← hlo, ← hcy, ← hhi]
  clear hlo hcy hhi hcz
  go_enter Tryz.func62, Tryz.ntmps62
  go_wp2_with (simp only [r1, r2])
  refine ⟨rfl, .agg #[.int .u64 hi, .int .u64 lo], ?_, rfl, below_alloc3 _ _ _ _⟩
  exact results_cell_row (fn := Tryz.f62) rfl _ _ (w.heap.size + 1 + 1) 95 #[.int .u64 hi, .int .u64 lo] (0, 0) _ rfl (al3 _ _ _ _) Tryz.underlying95 rfl (by kernel_rfl)
theorem calls_neg (a b : Nat) (ha : a < 18446744073709551616) (hb : b < 18446744073709551616) (w : World) : Calls Tryz.prog 98 #[.agg #[.int .u64 a, .int .u64 b]] w fun e w' =>
    e = .returned (.agg #[.int .u64 (((18446744073709551616 - a - (if 0 < b then 1 else 0)) % 18446744073709551616 : Nat) : Int), .int .u64 (((18446744073709551616 - b) % 18446744073709551616 : Nat) : Int)]) ∧ Below w.heap.size w w' := by
  obtain ⟨lo, hlo⟩ : ∃ lo, lo = (18446744073709551616 - b) % 18446744073709551616 := ⟨_, rfl⟩
  obtain ⟨cy, hcy⟩ : ∃ cy, cy = (if 0 < b then 1 else 0 : Nat) := ⟨_, rfl⟩
  have hc1 : cy ≤ 1 := by rw [hcy]; split <;> omega
  obtain ⟨hi, hhi⟩ : ∃ hi, hi = (18446744073709551616 - a - cy) % 18446744073709551616 := ⟨_, rfl⟩
  obtain ⟨cz, hcz⟩ : ∃ cz, cz = (if 0 < a + cy then 1 else 0 : Nat) := ⟨_, rfl⟩
  have r1 : ∀ w, (callFunc 106 #[.int .u64 0, .int .u64 b, .int .u64 0]).run Tryz.prog w = .ok (.value (.tuple #[.int .u64 lo, .int .u64 cy])) w := fun w => by
    rw [hlo, hcy]; have := run_sub0 b w; rw [Nat.zero_add] at this; exact this
  have r2 : ∀ w, (callFunc 106 #[.int .u64 0, .int .u64 a, .int .u64 cy]).run Tryz.prog w = .ok (.value (.tuple #[.int .u64 hi, .int .u64 cz])) w := fun w => by
    rw [hhi, hcz]; have := run_sub1 a cy hc1 w; rw [Nat.zero_add] at this; exact this
  rw [← hlo, ← hcy, ← hhi]
  clear hlo hcy hhi hcz hc1
  go_enter Tryz.func98, Tryz.ntmps98
  go_wp2_with (simp only [r1, r2])
  refine ⟨rfl, .agg #[.int .u64 hi, .int .u64 lo], ?_, rfl, below_alloc2 _ _ _⟩
  exact results_cell_row (fn := Tryz.f98) rfl _ _ (w.heap.size + 1) 95 #[.int .u64 hi, .int .u64 lo] (0, 0) _ rfl (al2 _ _ _) Tryz.underlying95 rfl (by kernel_rfl)
abbrev wdA (z : Int) : AV := .agg [.int .u64 (z / 18446744073709551616 % 18446744073709551616), .int .u64 (z % 18446744073709551616)]
attribute [go_sem] wdA
theorem wd_inv {w : World} {M : Nat → Prop} {ρ : Nat → Addr} {D : Nat → Prop} {v : Value} {z : Int} (h : VR w M ρ D v (wdA z)) : ∃ a b : Nat, v = .agg #[.int .u64 a, .int .u64 b] ∧ (a : Int) = z / 18446744073709551616 % 18446744073709551616 ∧ (b : Int) = z % 18446744073709551616 := by
  obtain ⟨vs, rfl, hl, hx⟩ := h.agg_inv
  match vs, hl, hx with
  | [v0, v1], _, hx =>
    have e0 := (hx 0 v0 _ rfl rfl).int_inv
    have e1 := (hx 1 v1 _ rfl rfl).int_inv
    subst e0 e1
    refine ⟨(z / 18446744073709551616 % 18446744073709551616).toNat, (z % 18446744073709551616).toNat, ?_, by omega, by omega⟩
    rw [Int.toNat_of_nonneg (by omega), Int.toNat_of_nonneg (by omega)]
theorem wd_mk {w : World} {M : Nat → Prop} {ρ : Nat → Addr} {D : Nat → Prop} {z : Int} {a b : Nat} (h1 : (a : Int) = z / 18446744073709551616 % 18446744073709551616) (h2 : (b : Int) = z % 18446744073709551616) : VR w M ρ D (.agg #[.int .u64 a, .int .u64 b]) (wdA z) := by
  refine .agg [.int .u64 a, .int .u64 b] _ rfl fun i u x hu hx => ?_
  match i, hu, hx with
  | 0, hu, hx => cases hu; cases hx; rw [h1]; exact .int _ _
  | 1, hu, hx => cases hu; cases hx; rw [h2]; exact .int _ _
theorem fn_wadd (x y : Int) : Fn Tryz.prog 62 [wdA x, wdA y] (wdA (x + y)) := by
  refine ⟨⟨_, Tryz.func62, rfl, by decide⟩, fun w Mx vs hMx hl hv => ?_⟩
  match vs, hl, hv with
  | [v0, v1], _, hv =>
    obtain ⟨a, b, rfl, e1, e2⟩ := wd_inv (hv 0 v0 _ rfl rfl)
    obtain ⟨c, d, rfl, e3, e4⟩ := wd_inv (hv 1 v1 _ rfl rfl)
    refine (calls_add a b c d (by omega) (by omega) w).mono ?_
    rintro e w' ⟨rfl, hb⟩
    exact ⟨_, rfl, hb, wd_mk (by omega) (by omega)⟩
theorem fn_wneg (x : Int) : Fn Tryz.prog 98 [wdA x] (wdA (-x)) := by
  refine ⟨⟨_, Tryz.func98, rfl, by decide⟩, fun w Mx vs hMx hl hv => ?_⟩
  match vs, hl, hv with
  | [v0], _, hv =>
    obtain ⟨a, b, rfl, e1, e2⟩ := wd_inv (hv 0 v0 _ rfl rfl)
    refine (calls_neg a b (by omega) (by omega) w).mono ?_
    rintro e w' ⟨rfl, hb⟩
    refine ⟨_, rfl, hb, wd_mk ?_ (by omega)⟩
    split <;> omega
end Go.Proofs.YtalmkaiiffodnaaGreatDoor
