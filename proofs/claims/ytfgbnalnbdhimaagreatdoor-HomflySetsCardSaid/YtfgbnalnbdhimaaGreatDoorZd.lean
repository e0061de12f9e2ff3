/- Layer 12: integers of 128 bits: sums and negatives. -/
import Derived.Shelf.Spec.BitsCarry
import Derived.Test.YtfgbnalnbdhimaaGreatDoorZc
import Derived.WalkKit
import Derived.BigCall
import Derived.Laws.Rows
import Derived.Lib.SmallJoins
import Derived.Test.YtfgbnalnbdhimaaGreatDoorSh
import Derived.Test.YtfgbnalnbdhimaaGreatDoorTy
import Derived.Test.YtfgbnalnbdhimaaGreatDoorZa
import Derived.Test.YtfgbnalnbdhimaaGreatDoorGb
set_option linter.unusedSimpArgs false
set_option linter.unusedVariables false
namespace Go.Proofs.YtfgbnalnbdhimaaGreatDoor
open Go Go.RowKit Go.Shelf Go.Joins
set_option maxHeartbeats 4000000
set_option maxRecDepth 100000
def yxn:Ren:=⟨fun|25=>83|26=>109|n=>n,fun|22=>95|n=>n,fun|n=>n⟩
theorem addL:Lays7.n25 Tryz.prog yxn:={mixed:=by kernel_rfl,f25:=Tryz.func83.trans (congrArg some (by kernel_rfl)),t22:=Tryz.underlying95,a22:=Tryz.isAgg95,z22:=Tryz.sizeOf95,v22:=Tryz.zeroValue95,i22:=by kernel_rfl}
theorem subL:Lays7.n26 Tryz.prog yxn:={mixed:=by kernel_rfl,f26:=Tryz.func109.trans (congrArg some (by kernel_rfl)),t22:=Tryz.underlying95,a22:=Tryz.isAgg95,z22:=Tryz.sizeOf95,v22:=Tryz.zeroValue95,i22:=by kernel_rfl}
theorem ysy (x y c:Nat) (hc:c<=1) (w:World):(callFunc 83 #[.int .u64 x, .int .u64 y, .int .u64 c]).run Tryz.prog w=
   .ok (.value (.tuple #[.int .u64 (((x+y+c)% 18446744073709551616:Nat):Int), .int .u64 (((x+y+c)/18446744073709551616:Nat):Int)])) w:=Any7.bits_Add64 addL x y c hc w
theorem ysz (x y c:Nat) (hc:c<=1) (w:World):(callFunc 109 #[.int .u64 x, .int .u64 y, .int .u64 c]).run Tryz.prog w=
   .ok (.value (.tuple #[.int .u64 (((x+18446744073709551616-y-c)% 18446744073709551616:Nat):Int), .int .u64 ((if x<y+c then 1 else 0:Nat):Int)])) w:=Any7.bits_Sub64 subL x y c hc w
theorem y00 (x y:Nat) (w:World):(callFunc 83 #[.int .u64 x, .int .u64 y, .int .u64 0]).run Tryz.prog w=
   .ok (.value (.tuple #[.int .u64 (((x+y)% 18446744073709551616:Nat):Int), .int .u64 (((x+y)/18446744073709551616:Nat):Int)])) w:=ysy x y 0 (by omega) w
theorem y01 (y:Nat) (w:World):(callFunc 109 #[.int .u64 0, .int .u64 y, .int .u64 0]).run Tryz.prog w=
   .ok (.value (.tuple #[.int .u64 (((0+18446744073709551616-y)% 18446744073709551616:Nat):Int), .int .u64 ((if 0<y then 1 else 0:Nat):Int)])) w:=ysz 0 y 0 (by omega) w
theorem y02 (y c:Nat) (hc:c<=1) (w:World):(callFunc 109 #[.int .u64 0, .int .u64 y, .int .u64 c]).run Tryz.prog w=
   .ok (.value (.tuple #[.int .u64 (((0+18446744073709551616-y-c)% 18446744073709551616:Nat):Int), .int .u64 ((if 0<y+c then 1 else 0:Nat):Int)])) w:=ysz 0 y c hc w
theorem al3 (w:World) (o1 o2 o3:Obj):(((w.alloc o1).alloc o2).alloc o3).heap[w.heap.size+1+1]?=some o3:=by
 have h:=heap_alloc_new ((w.alloc o1).alloc o2) o3
 rw [show ((w.alloc o1).alloc o2).heap.size=w.heap.size+1+1 by simp] at h
 exact h
theorem al2 (w:World) (o1 o2:Obj):((w.alloc o1).alloc o2).heap[w.heap.size+1]?=some o2:=by
 have h:=heap_alloc_new (w.alloc o1) o2
 rw [show (w.alloc o1).heap.size=w.heap.size+1 by simp] at h
 exact h
theorem yxo (a b c d:Nat) (hb:b<18446744073709551616) (hd:d<18446744073709551616) (w:World):Calls Tryz.prog 56 #[.agg #[.int .u64 a, .int .u64 b], .agg #[.int .u64 c, .int .u64 d]] w fun e w'=>
  e= .returned (.agg #[.int .u64 (((a+c+(b+d)/18446744073709551616)% 18446744073709551616:Nat):Int), .int .u64 (((b+d)% 18446744073709551616:Nat):Int)])/\Below w.heap.size w w':=by
 obtain ⟨lo,hlo⟩: ∃lo,lo=(b+d)% 18446744073709551616:=⟨_,rfl⟩
 obtain ⟨cy,hcy⟩: ∃cy,cy=(b+d)/18446744073709551616:=⟨_,rfl⟩
 obtain ⟨hi,hhi⟩: ∃hi,hi=(a+c+cy)% 18446744073709551616:=⟨_,rfl⟩
 obtain ⟨cz,hcz⟩: ∃cz,cz=(a+c+cy)/18446744073709551616:=⟨_,rfl⟩
 have r1: ∀w,(callFunc 83 #[.int .u64 b, .int .u64 d, .int .u64 0]).run Tryz.prog w= .ok (.value (.tuple #[.int .u64 lo, .int .u64 cy])) w:=fun w=>by rw [hlo,hcy];exact y00 b d w
 have r2: ∀w,(callFunc 83 #[.int .u64 a, .int .u64 c, .int .u64 cy]).run Tryz.prog w= .ok (.value (.tuple #[.int .u64 hi, .int .u64 cz])) w:=fun w=>by rw [hhi,hcz];exact ysy a c cy (by omega) w
 rw [←hlo,←hcy,←hhi]
 clear hlo hcy hhi hcz
 go_enter Tryz.func56,Tryz.ntmps56
 go_wp2_with (simp only [r1,r2])
 refine ⟨rfl, .agg #[.int .u64 hi, .int .u64 lo],?_,rfl,below_alloc3 _ _ _ _⟩
 exact results_cell_row (fn:=Tryz.f56) rfl _ _ (w.heap.size+1+1) 97 #[.int .u64 hi, .int .u64 lo] (0,0) _ rfl (al3 _ _ _ _) Tryz.underlying97 rfl (by kernel_rfl)
theorem yxp (a b:Nat) (ha:a<18446744073709551616) (hb:b<18446744073709551616) (w:World):Calls Tryz.prog 88 #[.agg #[.int .u64 a, .int .u64 b]] w fun e w'=>
  e= .returned (.agg #[.int .u64 (((18446744073709551616-a-(if 0<b then 1 else 0))% 18446744073709551616:Nat):Int), .int .u64 (((18446744073709551616-b)% 18446744073709551616:Nat):Int)])/\Below w.heap.size w w':=by
 obtain ⟨lo,hlo⟩: ∃lo,lo=(18446744073709551616-b)% 18446744073709551616:=⟨_,rfl⟩
 obtain ⟨cy,hcy⟩: ∃cy,cy=(if 0<b then 1 else 0:Nat):=⟨_,rfl⟩
 have hc1:cy<=1:=by rw [hcy];split<;>omega
 obtain ⟨hi,hhi⟩: ∃hi,hi=(18446744073709551616-a-cy)% 18446744073709551616:=⟨_,rfl⟩
 obtain ⟨cz,hcz⟩: ∃cz,cz=(if 0<a+cy then 1 else 0:Nat):=⟨_,rfl⟩
 have r1: ∀w,(callFunc 109 #[.int .u64 0, .int .u64 b, .int .u64 0]).run Tryz.prog w= .ok (.value (.tuple #[.int .u64 lo, .int .u64 cy])) w:=fun w=>by
  rw [hlo,hcy];have:=y01 b w;rw [Nat.zero_add] at this;exact this
 have r2: ∀w,(callFunc 109 #[.int .u64 0, .int .u64 a, .int .u64 cy]).run Tryz.prog w= .ok (.value (.tuple #[.int .u64 hi, .int .u64 cz])) w:=fun w=>by
  rw [hhi,hcz];have:=y02 a cy hc1 w;rw [Nat.zero_add] at this;exact this
 rw [←hlo,←hcy,←hhi]
 clear hlo hcy hhi hcz hc1
 go_enter Tryz.func88,Tryz.ntmps88
 go_wp2_with (simp only [r1,r2])
 refine ⟨rfl, .agg #[.int .u64 hi, .int .u64 lo],?_,rfl,below_alloc2 _ _ _⟩
 exact results_cell_row (fn:=Tryz.f88) rfl _ _ (w.heap.size+1) 97 #[.int .u64 hi, .int .u64 lo] (0,0) _ rfl (al2 _ _ _) Tryz.underlying97 rfl (by kernel_rfl)
abbrev wdA (z:Int):AV:= .agg [.int .u64 (z/18446744073709551616 % 18446744073709551616), .int .u64 (z % 18446744073709551616)]
attribute [go_sem] wdA
theorem yp8 {w:World} {M:Nat->Prop} {ρ:Nat->Addr} {D:Nat->Prop} {v:Value} {z:Int} (h:VR w M ρ D v (wdA z)): ∃a b:Nat,v= .agg #[.int .u64 a, .int .u64 b]/\(a:Int)=z/18446744073709551616 % 18446744073709551616/\(b:Int)=z % 18446744073709551616:=by
 obtain ⟨vs,rfl,hl,hx⟩:=h.agg_inv
 match vs,hl,hx with
 |[v0,v1],_,hx=>
  have e0:=(hx 0 v0 _ rfl rfl).int_inv
  have e1:=(hx 1 v1 _ rfl rfl).int_inv
  subst e0 e1
  refine ⟨(z/18446744073709551616 % 18446744073709551616).toNat,(z % 18446744073709551616).toNat,?_,by omega,by omega⟩
  rw [Int.toNat_of_nonneg (by omega),Int.toNat_of_nonneg (by omega)]
theorem y1u {w:World} {M:Nat->Prop} {ρ:Nat->Addr} {D:Nat->Prop} {z:Int} {a b:Nat} (h1:(a:Int)=z/18446744073709551616 % 18446744073709551616) (h2:(b:Int)=z % 18446744073709551616):VR w M ρ D (.agg #[.int .u64 a, .int .u64 b]) (wdA z):=by
 refine .agg [.int .u64 a, .int .u64 b] _ rfl fun i u x hu hx=>?_
 match i,hu,hx with
 |0,hu,hx=>cases hu;cases hx;rw [h1];exact .int _ _
 |1,hu,hx=>cases hu;cases hx;rw [h2];exact .int _ _
theorem ys0 (x y:Int):Fn Tryz.prog 56 [wdA x,wdA y] (wdA (x+y)):=by
 refine ⟨⟨_,Tryz.func56,rfl,by decide⟩,fun w Mx vs hMx hl hv=>?_⟩
 match vs,hl,hv with
 |[v0,v1],_,hv=>
  obtain ⟨a,b,rfl,e1,e2⟩:=yp8 (hv 0 v0 _ rfl rfl)
  obtain ⟨c,d,rfl,e3,e4⟩:=yp8 (hv 1 v1 _ rfl rfl)
  refine (yxo a b c d (by omega) (by omega) w).mono ?_
  rintro e w' ⟨rfl,hb⟩
  exact ⟨_,rfl,hb,y1u (by omega) (by omega)⟩
theorem ys1 (x:Int):Fn Tryz.prog 88 [wdA x] (wdA (-x)):=by
 refine ⟨⟨_,Tryz.func88,rfl,by decide⟩,fun w Mx vs hMx hl hv=>?_⟩
 match vs,hl,hv with
 |[v0],_,hv=>
  obtain ⟨a,b,rfl,e1,e2⟩:=yp8 (hv 0 v0 _ rfl rfl)
  refine (yxp a b (by omega) (by omega) w).mono ?_
  rintro e w' ⟨rfl,hb⟩
  refine ⟨_,rfl,hb,y1u ?_ (by omega)⟩
  split<;>omega
end Go.Proofs.YtfgbnalnbdhimaaGreatDoor
set_option linter.unusedSimpArgs false
set_option linter.unusedVariables false
namespace Go.Proofs.YtfgbnalnbdhimaaGreatDoor
open Go Go.RowKit
set_option maxHeartbeats 4000000
set_option maxRecDepth 100000
theorem yp9 (x:Int) (h0: -4611686018427387904<=x) (h1:x<=4611686018427387904):Fn Tryz.prog 85 [I x] (.int .u64 (if x<0 then-x else x)):=by
 by_cases h:x<0
 ·have b0:decide (x<0)=true:=by simpa using h
  have e1:IntKind.u64.wrap (0-IntKind.u64.wrap x)= -x:=by rw [IntKind.wrap_u64,IntKind.wrap_u64];omega
  rw [if_pos h]
  refine Fn.intro [.tmp 2] Tryz.func85 rfl rfl (by decide) (by simp [Tryz.ntmps85]) ?_;rw [Tryz.ntmps85]
  repeat' (first|omega|(try apply yaa);simp only [go_sem,b0,e1]|apply yab<;>(intro h_;(try simp only [h_]);revert h_)|apply And.intro|with_reducible intro h_|trivial)
 ·have b0:decide (x<0)=false:=by simpa using h
  have e1:IntKind.u64.wrap x=x:=by rw [IntKind.wrap_u64];omega
  rw [if_neg h]
  refine Fn.intro [.tmp 2] Tryz.func85 rfl rfl (by decide) (by simp [Tryz.ntmps85]) ?_;rw [Tryz.ntmps85]
  repeat' (first|omega|(try apply yaa);simp only [go_sem,b0,e1]|apply yab<;>(intro h_;(try simp only [h_]);revert h_)|apply And.intro|with_reducible intro h_|trivial)
theorem y03 (a b:Nat) (ha:a<18446744073709551616) (hb:b<18446744073709551616):Fn Tryz.prog 87 [.int .u64 a, .int .u64 b] (.tup [.int .u64 ((a*b/18446744073709551616:Nat):Int), .int .u64 ((a*b % 18446744073709551616:Nat):Int)]):=by
 refine ⟨⟨_,Tryz.func87,rfl,by decide⟩,fun w Mx vs hMx hl hv=>?_⟩
 match vs,hl,hv with
 |[v0,v1],_,hv=>
  have e0:=(hv 0 v0 _ rfl rfl).int_inv
  have e1:=(hv 1 v1 _ rfl rfl).int_inv
  subst e0 e1
  refine (Tryz.bits_Mul64 a b ha hb w).mono ?_
  rintro e w' ⟨rfl,rfl⟩
  refine ⟨_,rfl,Below.refl _ _, .tup [.int .u64 _, .int .u64 _] _ rfl fun i u x hu hx=>?_⟩
  match i,hu,hx with
  |0,hu,hx=>cases hu;cases hx;exact .int _ _
  |1,hu,hx=>cases hu;cases hx;exact .int _ _
theorem yl0 (x y:Int) (h0: -4611686018427387904<=x) (h1:x<=4611686018427387904) (h2: -4611686018427387904<=y) (h3:y<=4611686018427387904):Fn Tryz.prog 62 [I x,I y] (wdA (x*y)):=by
 have m1:=yp9 x h0 h1
 have m2:=yp9 y h2 h3
 obtain ⟨a,ha⟩: ∃a:Nat,(if x<0 then-x else x)=a:=⟨(if x<0 then-x else x).toNat,by split<;>omega⟩
 obtain ⟨b,hb⟩: ∃b:Nat,(if y<0 then-y else y)=b:=⟨(if y<0 then-y else y).toNat,by split<;>omega⟩
 rw [ha] at m1
 rw [hb] at m2
 have hab:a<=4611686018427387904:=by split at ha<;>omega
 have hbb:b<=4611686018427387904:=by split at hb<;>omega
 have hM:=y03 a b (by omega) (by omega)
 have hpb:a*b<=4611686018427387904*4611686018427387904:=Nat.mul_le_mul hab hbb
 have e1:((a*b/18446744073709551616:Nat):Int)=((a*b:Nat):Int)/18446744073709551616 % 18446744073709551616:=by omega
 have e2:((a*b % 18446744073709551616:Nat):Int)=((a*b:Nat):Int)% 18446744073709551616:=by omega
 rw [e1,e2] at hM
 have hN:=ys1 ((a*b:Nat):Int)
 have hxy:x*y=if decide (x<0)=decide (y<0) then ((a*b:Nat):Int) else-((a*b:Nat):Int):=by
  rw [Int.natCast_mul,←ha,←hb]
  by_cases c1:x<0<;>by_cases c2:y<0<;>simp [c1,c2,Int.neg_mul,Int.mul_neg]
 obtain ⟨p,hp⟩: ∃p:Int,p=((a*b:Nat):Int):=⟨_,rfl⟩
 rw [←hp] at hM hN hxy
 clear e1 e2
 by_cases hc:decide (x<0)=decide (y<0)
 ·rw [if_pos hc] at hxy
  have b0:(decide (x<0)!=decide (y<0))=false:=by rw [hc];simp
  rw [hxy]
  refine Fn.introL [.cell 4 97] Tryz.func62 rfl rfl (by decide) (by simp [Tryz.ntmps62]) ?_;rw [Tryz.ntmps62]
  repeat' (first|omega|(try apply yaa);simp only [go_sem]|apply yab<;>(intro h_;(try simp only [h_]);revert h_)|apply And.intro|with_reducible intro h_|trivial)
  refine ⟨yae.fn rfl m1 ?_⟩
  repeat' (first|omega|(try apply yaa);simp only [go_sem]|apply yab<;>(intro h_;(try simp only [h_]);revert h_)|apply And.intro|with_reducible intro h_|trivial)
  refine ⟨yae.fn rfl m2 ?_⟩
  repeat' (first|omega|(try apply yaa);simp only [go_sem]|apply yab<;>(intro h_;(try simp only [h_]);revert h_)|apply And.intro|with_reducible intro h_|trivial)
  refine ⟨yae.fn rfl hM ?_⟩
  repeat' (first|omega|(try apply yaa);simp only [go_sem,b0]|apply yab<;>(intro h_;(try simp only [h_]);revert h_)|apply And.intro|with_reducible intro h_|trivial)
  all_goals exact LeA.refl _
 ·rw [if_neg hc] at hxy
  have b0:(decide (x<0)!=decide (y<0))=true:=by simpa [bne] using hc
  rw [hxy]
  refine Fn.introL [.cell 4 97] Tryz.func62 rfl rfl (by decide) (by simp [Tryz.ntmps62]) ?_;rw [Tryz.ntmps62]
  repeat' (first|omega|(try apply yaa);simp only [go_sem]|apply yab<;>(intro h_;(try simp only [h_]);revert h_)|apply And.intro|with_reducible intro h_|trivial)
  refine ⟨yae.fn rfl m1 ?_⟩
  repeat' (first|omega|(try apply yaa);simp only [go_sem]|apply yab<;>(intro h_;(try simp only [h_]);revert h_)|apply And.intro|with_reducible intro h_|trivial)
  refine ⟨yae.fn rfl m2 ?_⟩
  repeat' (first|omega|(try apply yaa);simp only [go_sem]|apply yab<;>(intro h_;(try simp only [h_]);revert h_)|apply And.intro|with_reducible intro h_|trivial)
  refine ⟨yae.fn rfl hM ?_⟩
  repeat' (first|omega|(try apply yaa);simp only [go_sem,b0]|apply yab<;>(intro h_;(try simp only [h_]);revert h_)|apply And.intro|with_reducible intro h_|trivial)
  refine ⟨yae.fn rfl hN ?_⟩
  repeat' (first|omega|(try apply yaa);simp only [go_sem]|apply yab<;>(intro h_;(try simp only [h_]);revert h_)|apply And.intro|with_reducible intro h_|trivial)
  all_goals exact LeA.refl _
theorem ykw (z:Int) (h0: -170141183460469231731687303715884105728<=z) (h1:z<170141183460469231731687303715884105728):Fn Tryz.prog 84 [wdA z] (.tup [wdA (if z<0 then-z else z), .bool (decide (z<0))]):=by
 have hN:=ys1 z
 by_cases h:z<0
 ·have b0:(z/18446744073709551616 % 18446744073709551616/2^(63:Int).toNat==1)=true:=by
   rw [show (2:Int)^(63:Int).toNat=9223372036854775808 by decide,beq_iff_eq];omega
  have b1:decide (z<0)=true:=by simpa using h
  rw [if_pos h,b1]
  refine Fn.introL [.cell 2 97, .tmp 3] Tryz.func84 rfl rfl (by decide) (by simp [Tryz.ntmps84]) ?_;rw [Tryz.ntmps84]
  repeat' (first|omega|(try apply yaa);simp only [go_sem,b0]|apply yab<;>(intro h_;(try simp only [h_]);revert h_)|apply And.intro|with_reducible intro h_|trivial)
  refine ⟨yae.fn rfl hN ?_⟩
  repeat' (first|omega|(try apply yaa);simp only [go_sem]|apply yab<;>(intro h_;(try simp only [h_]);revert h_)|apply And.intro|with_reducible intro h_|trivial)
  all_goals exact LeA.refl _
 ·have b0:(z/18446744073709551616 % 18446744073709551616/2^(63:Int).toNat==1)=false:=by
   rw [show (2:Int)^(63:Int).toNat=9223372036854775808 by decide,beq_eq_false_iff_ne];omega
  have b1:decide (z<0)=false:=by simpa using h
  rw [if_neg h,b1]
  refine Fn.introL [.cell 2 97, .tmp 3] Tryz.func84 rfl rfl (by decide) (by simp [Tryz.ntmps84]) ?_;rw [Tryz.ntmps84]
  repeat' (first|omega|(try apply yaa);simp only [go_sem,b0]|apply yab<;>(intro h_;(try simp only [h_]);revert h_)|apply And.intro|with_reducible intro h_|trivial)
  all_goals exact LeA.refl _
theorem y04 (z:Int) (h0: -1125899906842624<=z) (h1:z<=1125899906842624):Fn Tryz.prog 57 [wdA z] (.tup [I z, .bool true]):=by
 have hS:=ykw z (by omega) (by omega)
 have b0:((if z<0 then-z else z)/18446744073709551616 % 18446744073709551616 !=0)=false:=by
  simp only [bne_eq_false_iff_eq];split<;>omega
 have e1:(if z<0 then-z else z)% 18446744073709551616=if z<0 then-z else z:=by split<;>omega
 obtain ⟨u,hu⟩: ∃u,u=(if z<0 then-z else z):=⟨_,rfl⟩
 rw [←hu] at hS b0 e1
 have u0:0<=u/\u<=1125899906842624:=by rw [hu];split<;>omega
 have b1:decide (1125899906842624<u)=false:=by simp;omega
 have e2:IntKind.i64.wrap u=u:=yhc (by unfold InI;omega)
 by_cases h:z<0
 ·have b2:decide (z<0)=true:=by simpa using h
  rw [b2] at hS
  have e3:0-u=z:=by rw [hu,if_pos h];omega
  refine Fn.introL [.tmp 2, .tmp 3] Tryz.func57 rfl rfl (by decide) (by simp [Tryz.ntmps57]) ?_;rw [Tryz.ntmps57]
  repeat' (first|omega|(try apply yaa);simp only [go_sem]|apply yab<;>(intro h_;(try simp only [h_]);revert h_)|apply And.intro|with_reducible intro h_|trivial)
  refine ⟨yae.fn rfl hS ?_⟩
  repeat' (first|omega|(try apply yaa);simp only [go_sem,b0,b1,e1,e2]|apply yab<;>(intro h_;(try simp only [h_]);revert h_)|apply And.intro|with_reducible intro h_|trivial)
  all_goals (first|omega|exact LeA.of (by rw [e3]))
 ·have b2:decide (z<0)=false:=by simpa using h
  rw [b2] at hS
  have e3:u=z:=by rw [hu,if_neg h]
  refine Fn.introL [.tmp 2, .tmp 3] Tryz.func57 rfl rfl (by decide) (by simp [Tryz.ntmps57]) ?_;rw [Tryz.ntmps57]
  repeat' (first|omega|(try apply yaa);simp only [go_sem]|apply yab<;>(intro h_;(try simp only [h_]);revert h_)|apply And.intro|with_reducible intro h_|trivial)
  refine ⟨yae.fn rfl hS ?_⟩
  repeat' (first|omega|(try apply yaa);simp only [go_sem,b0,b1,e1,e2]|apply yab<;>(intro h_;(try simp only [h_]);revert h_)|apply And.intro|with_reducible intro h_|trivial)
  all_goals (first|omega|exact LeA.of (by rw [e3]))
end Go.Proofs.YtfgbnalnbdhimaaGreatDoor
namespace Go.Proofs.YtfgbnalnbdhimaaGreatDoor
open Go Go.RowKit
set_option maxRecDepth 100000
set_option maxHeartbeats 8000000
set_option linter.unusedVariables false
set_option linter.unusedSimpArgs false
theorem yd5 {H H':Hp} (hm: ∀k,(hget H k).isSome=true->(hget H' k).isSome=true): ∀(x:AV),s1 H x=true->s1 H' x=true
 | .ptr i _,h=>hm i h
 | .sl _ i _ _,h=>hm i h
 | .mp i,h=>hm i h
 | .agg _,h=>h
 | .tup _,h=>h
 | .fn _ _,h=>h
 | .any,h=>h
 | .int _ _,h=>h
 | .bool _,h=>h
 | .str _,h=>h
 | .nils,h=>h
 | .ro _ _ _,h=>h
 | .rp _ _,h=>h
theorem ym9 {H H':Hp} (hm: ∀k,(hget H k).isSome=true->(hget H' k).isSome=true): ∀(x:AV),s2 H x=true->s2 H' x=true
 | .ptr i o,h=>yd5 hm (.ptr i o) h
 | .sl e i o l,h=>yd5 hm (.sl e i o l) h
 | .mp i,h=>yd5 hm (.mp i) h
 | .agg xs,h=>List.all_eq_true.2 fun y hy=>yd5 hm y (List.all_eq_true.1 h y hy)
 | .tup _,h=>h
 | .fn _ xs,h=>List.all_eq_true.2 fun y hy=>yd5 hm y (List.all_eq_true.1 h y hy)
 | .any,h=>h
 | .int _ _,h=>h
 | .bool _,h=>h
 | .str _,h=>h
 | .nils,h=>h
 | .ro _ _ _,h=>h
 | .rp _ _,h=>h
theorem y34 {H H':Hp} (hm: ∀k,(hget H k).isSome=true->(hget H' k).isSome=true): ∀(x:AV),s3 H x=true->s3 H' x=true
 | .ptr i o,h=>yd5 hm (.ptr i o) h
 | .sl e i o l,h=>yd5 hm (.sl e i o l) h
 | .mp i,h=>yd5 hm (.mp i) h
 | .agg xs,h=>List.all_eq_true.2 fun y hy=>ym9 hm y (List.all_eq_true.1 h y hy)
 | .tup xs,h=>List.all_eq_true.2 fun y hy=>ym9 hm y (List.all_eq_true.1 h y hy)
 | .fn _ xs,h=>List.all_eq_true.2 fun y hy=>ym9 hm y (List.all_eq_true.1 h y hy)
 | .any,h=>h
 | .int _ _,h=>h
 | .bool _,h=>h
 | .str _,h=>h
 | .nils,h=>h
 | .ro _ _ _,h=>h
 | .rp _ _,h=>h
section
variable {O:Hp} {i j:Nat} (hi:(hget O i).isSome=false) (hj:(hget O j).isSome=false)
include hi hj
end
theorem y51 {fr:Fr} {H:Hp} (h:fr.all (fun q=>s3 H q.2)=true) (t:Nat):fget fr t= .any\/s3 H (fget fr t)=true:=by
 induction fr with
 |nil=>exact .inl rfl
 |cons q fr ih=>
  obtain ⟨s,x⟩:=q
  simp only [List.all_cons,Bool.and_eq_true] at h
  simp only [fget]
  split
  ·exact .inr h.1
  ·exact ih h.2
end Go.Proofs.YtfgbnalnbdhimaaGreatDoor
namespace Go.Proofs.YtfgbnalnbdhimaaGreatDoor
open Go Go.RowKit
set_option maxRecDepth 100000
set_option maxHeartbeats 8000000
set_option linter.unusedVariables false
set_option linter.unusedSimpArgs false
theorem Wk.app {F A fr:Fr} {H H':Hp} (hA:subF F H' A) (hH:subH H H' H') (hfr: ∀t,fget fr t= .any\/s3 H' (fget fr t)=true) (h2: ∀t,1000000<=t->fget F t=fget (lft fr) t) (hl:A.all (fun q=>decide (q.1<1000000))=true):Wk F H (A++lft fr) H':=by
 have hf: ∀t,fget (A++lft fr) t= .any\/(fget (A++lft fr) t=fget F t/\s3 H' (fget (A++lft fr) t)=true):=by
  intro t
  have key: ∀(A:Fr),subF F H' A->A.all (fun q=>decide (q.1<1000000))=true->fget (A++lft fr) t= .any\/(fget (A++lft fr) t=fget F t/\s3 H' (fget (A++lft fr) t)=true):=by
   intro A
   induction A with
   |nil=>
    intro _ _
    rw [List.nil_append]
    rcases Nat.lt_or_ge t 1000000 with h|h
    ·left;rw [yfv,if_neg (by omega)]
    ·have e:=h2 t h
     rw [←e]
     rw [yfv,if_pos h] at e
     rcases hfr (t-1000000) with g|g
     ·left;rw [e];exact g
     ·right;exact ⟨rfl,by rw [e];exact g⟩
   |cons q A ih=>
    intro h1 h3
    obtain ⟨t',x⟩:=q
    obtain ⟨g1,g2,g3⟩:=h1
    simp only [List.all_cons,Bool.and_eq_true] at h3
    rw [List.cons_append]
    simp only [fget]
    split
    ·rename_i e;subst e;right;exact ⟨g1.symm,g2⟩
    ·exact ih g3 h3.2
  exact key A hA hl
 intro B w0 Mx N w ρ a hs
 refine ⟨ρ,(hs.weaken (fun id o ho=>(yeg hH id o ho).1) (fun t=>(hf t).imp id (·.1)) (fun id o ho M hr=>?_) (fun t M v hv=>?_))⟩
 ·have hso:=(yeg hH id o ho).2
  cases o with
  |gone=>trivial
  |cells t c=>
   obtain ⟨k1,arr,k2,k3,k4⟩:=hr
   refine ⟨k1,arr,k2,k3,fun j hj=>?_⟩
   obtain ⟨u,hu,hv⟩:=k4 j hj
   refine ⟨u,hu,?_⟩
   cases c with
   |ints l=>exact hv.pure1 rfl
   |bools l=>exact hv.pure1 rfl
   |lst l=>
    simp only [Cs.len] at hj
    simp only [Cs.get,List.getD_eq_getElem?_getD,List.getElem?_eq_getElem hj,Option.getD_some] at hv⊢
    exact hv.sc3 (List.all_eq_true.1 hso _ (List.getElem_mem hj))
  |gmap t ck l=>
   obtain ⟨es,k1,k2,k3⟩:=hr
   exact ⟨es,k1,k2,fun j e q he hl=>let ⟨g1,g2,g3⟩:=k3 j e q he hl;⟨g1,g2,g3.sc3 (List.all_eq_true.1 hso q (List.mem_of_getElem? hl))⟩⟩
  |iter mid s sn la=>
   obtain ⟨_,k2,k3⟩:=hr
   exact ⟨Option.isSome_iff_exists.1 hso,k2,k3⟩
  |imap t l=>
   obtain ⟨k0,es,ck,k1,k2,k3⟩:=hr
   exact ⟨k0,es,ck,k1,k2,fun j e k x he hl=>let ⟨g1,g2,g3⟩:=k3 j e k x he hl;⟨g1,g2.sc3 (List.all_eq_true.1 hso (k,x) (List.mem_of_getElem? hl)),g3⟩⟩
  |fmap t c=>exact hr
 ·rcases hf t with e|⟨_,e⟩
  ·rw [e];exact .any _
  ·exact hv.sc3 e
theorem yqa: ∀fr:Fr,unl (lft fr)=fr
 |[]=>rfl
 |(s,x)::r=>by simp [lft,unl,yqa r]
attribute [go_sem] yqa
theorem Wk.appC {F A fr:Fr} {H H' ok:Hp} (hfr:fr.all (fun q=>s3 ok q.2)=true) (hA:subF F H' A) (hH:subH H H' H') (hok: ∀i,(hget ok i).isSome=true->(hget H' i).isSome=true) (h2: ∀t,1000000<=t->fget F t=fget (lft fr) t) (hl:A.all (fun q=>decide (q.1<1000000))=true):Wk F H (A++lft fr) H':=
 Wk.app hA hH (fun t=>(y51 hfr t).imp id (y34 hok _)) h2 hl
end Go.Proofs.YtfgbnalnbdhimaaGreatDoor
set_option linter.unusedSimpArgs false
set_option linter.unusedVariables false
namespace Go.Proofs.YtfgbnalnbdhimaaGreatDoor
open Go Go.RowKit
set_option maxHeartbeats 8000000
set_option maxRecDepth 100000
def wdC (zs:List Int):List AV:=zs.flatMap fun z=>[.int .u64 (z/18446744073709551616 % 18446744073709551616), .int .u64 (z % 18446744073709551616)]
theorem yfn (p:List Int):(wdC p).length=2*p.length:=by
 unfold wdC;induction p with
 |nil=>rfl
 |cons x p ih=>simp [ih];omega
theorem yel (p:List Int) (i:Nat) (h:i<p.length):(wdC p).getD (i*2) .any= .int .u64 (p.getD i 0/18446744073709551616 % 18446744073709551616):=by
 unfold wdC;induction p generalizing i with
 |nil=>simp at h
 |cons x p ih=>
  cases i with
  |zero=>simp
  |succ i=>
   have:=ih i (by simpa using h)
   simp only [List.flatMap_cons,List.getD_cons_succ]
   rw [show (i+1)*2=i*2+1+1 by omega]
   simpa using this
theorem yem (p:List Int) (i:Nat) (h:i<p.length):(wdC p).getD (i*2+1) .any= .int .u64 (p.getD i 0 % 18446744073709551616):=by
 unfold wdC;induction p generalizing i with
 |nil=>simp at h
 |cons x p ih=>
  cases i with
  |zero=>simp
  |succ i=>
   have:=ih i (by simpa using h)
   simp only [List.flatMap_cons,List.getD_cons_succ]
   rw [show (i+1)*2+1=i*2+1+1+1 by omega]
   simpa using this
theorem yna (p:List Int) (i:Nat) (z:Int):((wdC p).set (i*2) (.int .u64 (z/18446744073709551616 % 18446744073709551616))).set (i*2+1) (.int .u64 (z % 18446744073709551616))=wdC (p.set i z):=by
 unfold wdC;induction p generalizing i with
 |nil=>simp
 |cons x p ih=>
  cases i with
  |zero=>simp
  |succ i=>
   have:=ih i
   simp only [List.flatMap_cons,List.set_cons_succ,List.cons_append,List.nil_append]
   rw [show (i+1)*2+1=i*2+1+1+1 by omega,show (i+1)*2=i*2+1+1 by omega]
   simp only [List.set_cons_succ]
   rw [this]
theorem yqb (n:Nat):(List.replicate n [AV.int .u64 0,AV.int .u64 0]).flatten=wdC (List.replicate n 0):=by
 unfold wdC;induction n with
 |zero=>rfl
 |succ n ih=>simp [List.replicate_succ,ih]
theorem ys2 {p:List Int} {x:AV} (h:x∈wdC p): ∃n,x= .int .u64 n:=by
 simp only [wdC,List.mem_flatMap] at h
 obtain ⟨z,_,h⟩:=h
 simp at h
 rcases h with rfl|rfl<;>exact ⟨_,rfl⟩
theorem y52 (H:Hp) (p:List Int):(wdC p).all (s3 H)=true:=List.all_eq_true.2 fun x hx=>by obtain ⟨n,rfl⟩:=ys2 hx;rfl
attribute [go_sem] y52
theorem yl1 (p:List (Int×Int)) (h:0<p.length):Fn Tryz.prog 46 [plA false p] (I (p.getD 0 (0,0)).1):=by
 have hc:=ya9 p
 have e:=ybr p 0 h
 rw [Nat.zero_mul] at e
 have b0:((p.length:Int)==0)=false:=by rw [beq_eq_false_iff_ne];omega
 refine Fn.intro [.tmp 2] Tryz.func46 rfl rfl (by decide) (by simp [Tryz.ntmps46]) ?_;rw [Tryz.ntmps46]
 repeat' (first|omega|(try apply yaa);simp only [go_sem,b0,e,hc]|apply yab<;>(intro h_;(try simp only [h_]);revert h_)|apply And.intro|with_reducible intro h_|trivial)
theorem yjm (p:List (Int×Int)) (h:0<p.length) (hp:p.length<=1000000):Fn Tryz.prog 47 [plA false p] (I (p.getD (p.length-1) (0,0)).1):=by
 have hc:=ya9 p
 have e:=ybr p (p.length-1) (by omega)
 have b0:((p.length:Int)==0)=false:=by rw [beq_eq_false_iff_ne];omega
 have e1:((p.length:Int)-1).toNat=p.length-1:=by omega
 refine Fn.intro [.tmp 2] Tryz.func47 rfl rfl (by decide) (by simp [Tryz.ntmps47]) ?_;rw [Tryz.ntmps47]
 repeat' (first|omega|(try apply yaa);simp only [go_sem,b0,e,e1,hc]|apply yab<;>(intro h_;(try simp only [h_]);revert h_)|apply And.intro|with_reducible intro h_|trivial)
abbrev mulH (p q:List (Int×Int)) (low:Int) (N:Nat) (zs:List Int):Hp:=[(15, .cells 93 (.lst [.sl 2 14 0 N])),(14, .cells 97 (.lst (wdC zs))),(13, .cells 3 (.lst [I low])),(2, .cells 32 (.lst [.bool false, .nils])),(1, .cells 32 (.lst [.bool false,tmA q])),(0, .cells 32 (.lst [.bool false,tmA p]))]
end Go.Proofs.YtfgbnalnbdhimaaGreatDoor
set_option linter.unusedSimpArgs false
set_option linter.unusedVariables false
namespace Go.Proofs.YtfgbnalnbdhimaaGreatDoor
open Go Go.RowKit
set_option maxHeartbeats 8000000
set_option maxRecDepth 100000
def yxq:TbA:=[(1,[[7,8,9,10,11,12,13,14,15,16,17],[6,8,10,11,12,13,14,15,16,17],[6,7,10,11,12,13,14,15,16,17],[6,10,11,12,13,14,15,16,17],[6,7,8,9,11,12,13,16],[6,7,8,9,10,12,16],[6,7,8,9,10,11,16],[6,7,8,9,10,16],[6,7,8,9,16],[6,7,8,9,16],[6,7,8,9,10,11,12,13,14,15],[6,7,8,9],[],[]],[[],[0],[0,1],[0],[0,1,2,3],[0,1,2,3,4],[0,1,2,3,4,5],[0,1,2,3,4],[0,1,2,3],[0,1,2,3],[0,1,2,3,4,5,6,7,8,9],[0,1,2,3],[],[]])]
def yl2:TbA:=[(7,[[25,26,27,28,29,30,31,32,33,34],[24,27,28,30,31,32,33,34],[24,27,28,30,31,32,33,34],[24,25,26,30,31,32,33,34],[24,25,26,30,31,32,33,34],[24,30,31,32,33,34],[24,25,26,27,28,29,32,33],[24,25,26,27,28,29,32,33],[24,25,26,27,28,29,30,31],[24,25,26,27,28,29,30,31],[24,25,26,27,28,29],[]],[[],[0],[0],[0,1,2],[0,1,2],[0],[0,1,2,3,4,5],[0,1,2,3,4,5],[0,1,2,3,4,5,6,7],[0,1,2,3,4,5,6,7],[0,1,2,3,4,5],[]])]
abbrev prH (p q:List (Int×Int)) (low:Int) (N:Nat) (zs:List Int) (e1 c1 e2 c2:Int):Hp:=(19, .cells 57 (.lst [I e2,I c2]))::(18, .cells 57 (.lst [I e1,I c1]))::(17, .cells 32 (.lst [.bool false,tmA q]))::(16, .cells 32 (.lst [.bool false,tmA p]))::mulH p q low N zs
theorem yxr (p q:List (Int×Int)) (low:Int) (zs:List Int) (e1 c1 e2 c2 e w:Int) (N:Nat) (hN:zs.length=N) (hl: -2000000<=low/\low<=2000000) (he:low<=e/\e<low+N) (hN2:N<=4000000) {fr:Fr} {K:AV->Fr->Hp->Prop}
  (hK:K (.tup []) fr ((20, .cells 97 (.lst [.int .u64 (w/18446744073709551616 % 18446744073709551616), .int .u64 (w % 18446744073709551616)]))::prH p q low N (zs.set (e-low).toNat (zs.getD (e-low).toNat 0+w)) e1 c1 e2 c2)):
  yba Tryz.prog 55 [I e,wdA w, .ptr 15 0, .ptr 13 0] fr (prH p q low N zs e1 c1 e2 c2) K:=by
 have hi:(e-low).toNat<zs.length:=by omega
 have g0:=yel zs (e-low).toNat hi
 have g1:=yem zs (e-low).toNat hi
 have gl:=yfn zs
 have hA:=ys0 (zs.getD (e-low).toNat 0) w
 have hS:=yna zs (e-low).toNat (zs.getD (e-low).toNat 0+w)
 generalize hk:(e-low).toNat=k at*
 refine yba.intro [] Tryz.func55 rfl rfl (by decide) (by simp [Tryz.ntmps55]) ?_;rw [Tryz.ntmps55]
 repeat' (first|omega|(first|apply yaa|refine tbN yxq ?_|skip);simp only [go_sem,g0,g1,hk]|apply yab<;>(intro h_;(try simp only [h_]);revert h_)|apply And.intro|with_reducible intro h_|trivial)
 refine ⟨ybd.fn rfl hA ?_⟩
 simp only [go_sem,g0,g1,hk,hS]
 repeat' (first|omega|(first|apply yaa|refine tbN yxq ?_|skip);simp only [go_sem,g0,g1,hk,hS]|apply yab<;>(intro h_;(try simp only [h_]);revert h_)|apply And.intro|with_reducible intro h_|trivial)
 all_goals exact hK
theorem y1v {H:Hp}: ∀{fr:Fr},fr.all (fun q=>s3 H q.2)=true-> ∀t,fget fr t= .any\/s3 H (fget fr t)=true
 |[],_,t=> .inl rfl
 |(s,x)::r,h,t=>by
  simp only [List.all_cons,Bool.and_eq_true] at h
  simp only [fget]
  split
  ·exact .inr h.1
  ·exact y1v h.2 t
theorem yof (p q:List (Int×Int)) (low:Int) (zs:List Int) (N:Nat) (hN:zs.length=N) (hl: -2000000<=low/\low<=2000000) (hN2:N<=4000000) (hp:yd8 p) (hq:yd8 q) (hpl:p.length<=500000) (hql:q.length<=500000)
  (hx: ∀i j,i<p.length->j<q.length->low<=(p.getD i (0,0)).1+(q.getD j (0,0)).1/\(p.getD i (0,0)).1+(q.getD j (0,0)).1<low+N) (hpe: ∀i,i<p.length-> -2000000<=(p.getD i (0,0)).1/\(p.getD i (0,0)).1<=2000000) (hqe: ∀i,i<q.length-> -2000000<=(q.getD i (0,0)).1/\(q.getD i (0,0)).1<=2000000)
  {fr:Fr} {K:AV->Fr->Hp->Prop} (hfr: ∀H':Hp,(hget H' 0).isSome=true->(hget H' 1).isSome=true->(hget H' 2).isSome=true->(hget H' 13).isSome=true->(hget H' 14).isSome=true->(hget H' 15).isSome=true-> ∀t,fget fr t= .any\/s3 H' (fget fr t)=true)
  (hK:K (.tup []) fr ((17, .cells 32 (.lst [.bool false,tmA q]))::(16, .cells 32 (.lst [.bool false,tmA p]))::mulH p q low N (pz1 p q low p.length zs))):
  yba Tryz.prog 54 [plA false p,plA false q, .fn 55 [.ptr 15 0, .ptr 13 0]] fr (mulH p q low N zs) K:=by
 have hcp:=ya9 p
 have hcq:=ya9 q
 refine yba.intro [] Tryz.func54 rfl rfl (by decide) (by simp [Tryz.ntmps54]) ?_;rw [Tryz.ntmps54]
 repeat' (first|omega|(try apply yaa);simp only [go_sem]|apply yab<;>(intro h_;(try simp only [h_]);revert h_)|apply And.intro|with_reducible intro h_|trivial)
 refine yai.intro (fun n fr' H=> ∃i:Nat,i<=p.length/\n=p.length-i/\fr'=[(13,I i),(12,I p.length),(11,tmA p),(4, .ptr 17 0),(3, .ptr 16 0),(2, .fn 55 [.ptr 15 0, .ptr 13 0])]++lft fr/\H=(17, .cells 32 (.lst [.bool false,tmA q]))::(16, .cells 32 (.lst [.bool false,tmA p]))::mulH p q low N (pz1 p q low i zs)) ?_ ?_
 ·refine ⟨_,_,_,?_,0,by omega,rfl,rfl,rfl⟩
  refine Wk.app ?_ ?_ (hfr _ rfl rfl rfl rfl rfl rfl) (fun t ht=>?_) rfl<;>(simp only [go_sem,yac,pz1])
  all_goals repeat rw [if_neg (by omega)]
 rintro n fr' H ⟨i,hi,rfl,rfl,rfl⟩
 by_cases hil:i<p.length
 ·have t0:=ybr p i hil
  have t1:=yb5 p i hil
  have hpi:=hpe i hil
  have hci:=yda hp hil
  have hxi:=fun j=>hx i j hil
  have eP:pz1 p q low (i+1) zs=pz2 q low (p.getD i (0,0)).1 (p.getD i (0,0)).2 q.length (pz1 p q low i zs):=rfl
  obtain ⟨e1,he1⟩: ∃e1,e1=(p.getD i (0,0)).1:=⟨_,rfl⟩
  obtain ⟨c1,hc1⟩: ∃c1,c1=(p.getD i (0,0)).2:=⟨_,rfl⟩
  rw [←he1] at t0 hpi hxi eP
  rw [←hc1] at t1 hci eP
  clear he1 hc1
  have hzl:=yfi p q low i zs
  rw [hN] at hzl
  generalize pz1 p q low i zs=zs1 at*
  repeat' (first|omega|(try apply yaa);simp only [go_sem,t0,t1,hcp]|apply yab<;>(intro h_;(try simp only [h_]);revert h_)|apply And.intro|with_reducible intro h_|trivial)
  refine yai.intro (fun n fr' H=> ∃j:Nat,j<=q.length/\n=q.length-j/\fr'=[(20,I j),(19,I q.length),(18,tmA q),(7, .ptr 18 0),(13,I i),(12,I p.length),(11,tmA p),(4, .ptr 17 0),(3, .ptr 16 0),(2, .fn 55 [.ptr 15 0, .ptr 13 0])]++lft fr/\H=(18, .cells 57 (.lst [I e1,I c1]))::(17, .cells 32 (.lst [.bool false,tmA q]))::(16, .cells 32 (.lst [.bool false,tmA p]))::mulH p q low N (pz2 q low e1 c1 j zs1)) ?_ ?_
  ·refine ⟨_,_,_,?_,0,by omega,rfl,rfl,rfl⟩
   refine Wk.app ?_ ?_ (hfr _ rfl rfl rfl rfl rfl rfl) (fun t ht=>?_) rfl<;>(simp only [go_sem,yac,pz2])
   all_goals repeat rw [if_neg (by omega)]
  rintro n fr' H ⟨j,hj,rfl,rfl,rfl⟩
  by_cases hjl:j<q.length
  ·have s0:=ybr q j hjl
   have s1:=yb5 q j hjl
   have hqj:=hqe j hjl
   have hcj:=yda hq hjl
   have hxj:=hxi j hjl
   have eQ:pz2 q low e1 c1 (j+1) zs1=(pz2 q low e1 c1 j zs1).set (e1+(q.getD j (0,0)).1-low).toNat ((pz2 q low e1 c1 j zs1).getD (e1+(q.getD j (0,0)).1-low).toNat 0+c1*(q.getD j (0,0)).2):=rfl
   obtain ⟨e2,he2⟩: ∃e2,e2=(q.getD j (0,0)).1:=⟨_,rfl⟩
   obtain ⟨c2,hc2⟩: ∃c2,c2=(q.getD j (0,0)).2:=⟨_,rfl⟩
   rw [←he2] at s0 hqj hxj eQ
   rw [←hc2] at s1 hcj eQ
   clear he2 hc2
   have hz2:=yfh q low e1 c1 j zs1
   rw [hzl] at hz2
   have hP:=yl0 c1 c2 (by omega) (by omega) (by omega) (by omega)
   repeat' (first|omega|(first|apply yaa|refine tbL yl2 ?_|refine tbN yl2 ?_|skip);simp only [go_sem,s0,s1,hcq]|apply yab<;>(intro h_;(try simp only [h_]);revert h_)|apply And.intro|with_reducible intro h_|trivial)
   refine ⟨ybd.fn rfl hP ?_⟩
   simp only [go_sem,s0,s1,hcq]
   repeat' (first|omega|(first|apply yaa|refine tbL yl2 ?_|refine tbN yl2 ?_|skip);simp only [go_sem,s0,s1,hcq]|apply yab<;>(intro h_;(try simp only [h_]);revert h_)|apply And.intro|with_reducible intro h_|trivial)
   refine ⟨yae.inline (yxr p q low (pz2 q low e1 c1 j zs1) e1 c1 e2 c2 (e1+e2) (c1*c2) N hz2 hl hxj hN2 ?_)⟩
   rw [←eQ]
   repeat' (first|omega|(try apply yaa);simp only [go_sem]|apply yab<;>(intro h_;(try simp only [h_]);revert h_)|apply And.intro|with_reducible intro h_|trivial)
   refine ⟨_,_,_,?_,?_,⟨j+1,by omega,rfl,rfl,rfl⟩⟩
   ·omega
   ·refine Wk.app (A:=[(20,I ((j+1:Nat):Int)),(19,I q.length),(18,tmA q),(7, .ptr 18 0),(13,I i),(12,I p.length),(11,tmA p),(4, .ptr 17 0),(3, .ptr 16 0),(2, .fn 55 [.ptr 15 0, .ptr 13 0])]) ?_ ?_ (hfr _ rfl rfl rfl rfl rfl rfl) (fun t ht=>?_) rfl<;>(simp only [go_sem,yac])
    all_goals first|omega|repeat rw [if_neg (by omega)]
  ·obtain rfl:j=q.length:=by omega
   repeat' (first|omega|(try apply yaa);simp only [go_sem]|apply yab<;>(intro h_;(try simp only [h_]);revert h_)|apply And.intro|with_reducible intro h_|trivial)
   refine ⟨_,_,_,?_,?_,⟨i+1,by omega,rfl,rfl,rfl⟩⟩
   ·omega
   ·rw [eP]
    refine Wk.app (A:=[(13,I ((i+1:Nat):Int)),(12,I p.length),(11,tmA p),(4, .ptr 17 0),(3, .ptr 16 0),(2, .fn 55 [.ptr 15 0, .ptr 13 0])]) ?_ ?_ (hfr _ rfl rfl rfl rfl rfl rfl) (fun t ht=>?_) rfl<;>(simp only [go_sem,yac])
    all_goals first|omega|repeat rw [if_neg (by omega)]
 ·obtain rfl:i=p.length:=by omega
  repeat' (first|omega|(try apply yaa);simp only [go_sem]|apply yab<;>(intro h_;(try simp only [h_]);revert h_)|apply And.intro|with_reducible intro h_|trivial)
  all_goals exact hK
end Go.Proofs.YtfgbnalnbdhimaaGreatDoor
namespace Go.Proofs.YtfgbnalnbdhimaaGreatDoor
open Go Go.RowKit
set_option maxHeartbeats 4000000
set_option maxRecDepth 100000
set_option linter.unusedVariables false
set_option linter.unusedSimpArgs false
def y53:TbA:=[(6,[[29,31,32,33],[28,31,32,33],[31,32,33],[28,29,30,32,6],[28,29,30,31,6],[28,29,30,6],[31,32,33],[]],[[],[0],[],[0,1,2],[0,1,2,3],[0,1,2],[3,4,5],[]])]
theorem ynb (z:Int): -170141183460469231731687303715884105728<=sgW z/\sgW z<170141183460469231731687303715884105728:=by unfold sgW;omega
theorem yuy (z:Int):wdA z=wdA (sgW z):=by
 obtain ⟨k,hk⟩: ∃k,sgW z=z-340282366920938463463374607431768211456*k:=⟨(z+170141183460469231731687303715884105728)/340282366920938463463374607431768211456,by unfold sgW;omega⟩
 rw [hk]
 have e1:(z-340282366920938463463374607431768211456*k)% 18446744073709551616=z % 18446744073709551616:=by omega
 have e2:(z-340282366920938463463374607431768211456*k)/18446744073709551616 % 18446744073709551616=z/18446744073709551616 % 18446744073709551616:=by omega
 unfold wdA
 rw [e1,e2]
theorem ykx (z:Int):Fn Tryz.prog 60 [wdA z] (.bool (sgW z==0)):=by
 rw [yuy z]
 have hb:=ynb z
 generalize sgW z=s at*
 by_cases h1:s/18446744073709551616 % 18446744073709551616=0
 ·have b1:(s/18446744073709551616 % 18446744073709551616==0)=true:=by rw [beq_iff_eq];exact h1
  have b2:(s % 18446744073709551616==0)=(s==0):=by
   by_cases h:s=0
   ·subst h;rfl
   ·rw [beq_eq_false_iff_ne.2 h,beq_eq_false_iff_ne];omega
  refine Fn.intro [.tmp 2] Tryz.func60 rfl rfl (by decide) (by simp [Tryz.ntmps60]) ?_;rw [Tryz.ntmps60]
  repeat' (first|omega|(try apply yaa);simp only [go_sem,b1,b2]|apply yab<;>(intro h_;(try simp only [h_]);revert h_)|apply And.intro|with_reducible intro h_|trivial)
 ·have b1:(s/18446744073709551616 % 18446744073709551616==0)=false:=by rw [beq_eq_false_iff_ne];exact h1
  have b2:(s==0)=false:=by rw [beq_eq_false_iff_ne];intro h;subst h;exact h1 rfl
  rw [b2]
  refine Fn.intro [.tmp 2] Tryz.func60 rfl rfl (by decide) (by simp [Tryz.ntmps60]) ?_;rw [Tryz.ntmps60]
  repeat' (first|omega|(try apply yaa);simp only [go_sem,b1]|apply yab<;>(intro h_;(try simp only [h_]);revert h_)|apply And.intro|with_reducible intro h_|trivial)
theorem yxs (z:Int):Fn Tryz.prog 57 [wdA z] (.tup [I (if fitB (sgW z) 1125899906842624 then sgW z else 0), .bool (fitB (sgW z) 1125899906842624)]):=by
 rw [yuy z]
 have hb:=ynb z
 generalize sgW z=s at*
 by_cases hf:fitB s 1125899906842624=true
 ·rw [hf,if_pos rfl]
  have:=ybx.1 hf
  exact y04 s this.1 this.2
 ·have hf':fitB s 1125899906842624=false:=by simpa using hf
  rw [hf',if_neg (by simp)]
  have hn: ¬(-1125899906842624<=s/\s<=1125899906842624):=fun h=>hf (ybx.2 h)
  have hS:=ykw s (by omega) (by omega)
  obtain ⟨u,hu⟩: ∃u,u=(if s<0 then-s else s):=⟨_,rfl⟩
  rw [←hu] at hS
  have u0:1125899906842624<u/\u<=170141183460469231731687303715884105728:=by rw [hu];split<;>omega
  by_cases h1:u/18446744073709551616 % 18446744073709551616=0
  ·have b1:(u/18446744073709551616 % 18446744073709551616 !=0)=false:=by rw [bne_eq_false_iff_eq];exact h1
   have b2:decide (1125899906842624<u % 18446744073709551616)=true:=by rw [decide_eq_true_iff];omega
   refine Fn.introL [.tmp 2, .tmp 3] Tryz.func57 rfl rfl (by decide) (by simp [Tryz.ntmps57]) ?_;rw [Tryz.ntmps57]
   repeat' (first|omega|(try apply yaa);simp only [go_sem]|apply yab<;>(intro h_;(try simp only [h_]);revert h_)|apply And.intro|with_reducible intro h_|trivial)
   refine ⟨yae.fn rfl hS ?_⟩
   repeat' (first|omega|(try apply yaa);simp only [go_sem,b1,b2]|apply yab<;>(intro h_;(try simp only [h_]);revert h_)|apply And.intro|with_reducible intro h_|trivial)
   all_goals exact LeA.refl _
  ·have b1:(u/18446744073709551616 % 18446744073709551616 !=0)=true:=by rw [bne_iff_ne];exact h1
   refine Fn.introL [.tmp 2, .tmp 3] Tryz.func57 rfl rfl (by decide) (by simp [Tryz.ntmps57]) ?_;rw [Tryz.ntmps57]
   repeat' (first|omega|(try apply yaa);simp only [go_sem]|apply yab<;>(intro h_;(try simp only [h_]);revert h_)|apply And.intro|with_reducible intro h_|trivial)
   refine ⟨yae.fn rfl hS ?_⟩
   repeat' (first|omega|(try apply yaa);simp only [go_sem,b1]|apply yab<;>(intro h_;(try simp only [h_]);revert h_)|apply And.intro|with_reducible intro h_|trivial)
   all_goals exact LeA.refl _
theorem y05 (l:Int) (h0:0<=l) (h1:l<18446744073709551616):Fn Tryz.prog 86 [.int .u64 0, .int .u64 l, .int .u64 1] (.tup [.int .u64 l, .int .u64 0]):=by
 have e1:l.tdiv 1=l:=Int.tdiv_one l
 have e2:l.tmod 1=0:=Int.tmod_one l
 have e3:IntKind.u64.wrap l=l:=by rw [IntKind.wrap_u64];omega
 refine Fn.introL [.tmp 6, .tmp 7] Tryz.func86 rfl rfl (by decide) (by simp [Tryz.ntmps86]) ?_;rw [Tryz.ntmps86]
 repeat' (first|omega|(first|apply yaa|refine tbN y53 ?_|skip);simp only [go_sem,e1,e2,e3]|refine cgL ?_|refine cgD ?_|apply yab<;>(intro h_;(try simp only [h_]);revert h_)|apply And.intro|with_reducible intro h_|trivial)
 all_goals exact LeA.refl _
theorem y06 (z:Int):Fn Tryz.prog 61 [wdA z,I 1] (.tup [I (if fitB (sgW z) 1125899906842624 then sgW z else 0), .bool (fitB (sgW z) 1125899906842624)]):=by
 rw [yuy z]
 have hb:=ynb z
 generalize sgW z=s at*
 have hS:=ykw s (by omega) (by omega)
 have hM:=yp9 1 (by decide) (by decide)
 rw [if_neg (by decide)] at hM
 obtain ⟨u,hu⟩: ∃u,u=(if s<0 then-s else s):=⟨_,rfl⟩
 rw [←hu] at hS
 have u0:0<=u/\u<=170141183460469231731687303715884105728:=by rw [hu];split<;>omega
 have hfu:fitB s 1125899906842624=decide (u<=1125899906842624):=by
  unfold fitB
  rw [hu]
  by_cases h:s<0
  ·rw [if_pos h,Bool.eq_iff_iff];simp;omega
  ·rw [if_neg h,Bool.eq_iff_iff];simp;omega
 rw [hfu]
 have hv:s=if s<0 then 0-u else u:=by rw [hu];by_cases h:s<0<;>simp [h]
 by_cases h1:u/18446744073709551616 % 18446744073709551616=0
 ·have em: ∀h:u<18446744073709551616,u % 18446744073709551616=u:=fun h=>by omega
  have hD:Fn Tryz.prog 86 [.int .u64 (u/18446744073709551616 % 18446744073709551616), .int .u64 (u % 18446744073709551616), .int .u64 1] (.tup [.int .u64 (u % 18446744073709551616), .int .u64 0]):=by rw [h1];exact y05 _ (by omega) (by omega)
  have b1:decide (1<=u/18446744073709551616 % 18446744073709551616)=false:=by rw [decide_eq_false_iff_not];omega
  by_cases h2:u<=1125899906842624
  ·have em:=em (by omega)
   rw [em] at hD
   have b2:decide (1125899906842624<u)=false:=by rw [decide_eq_false_iff_not];omega
   have e2:IntKind.i64.wrap u=u:=yhc (by unfold InI;omega)
   rw [decide_eq_true h2,if_pos rfl]
   by_cases h:s<0
   ·have b3:decide (s<0)=true:=by simpa using h
    rw [if_pos h] at hv
    rw [b3] at hS
    refine Fn.introL [.tmp 4, .tmp 5] Tryz.func61 rfl rfl (by decide) (by simp [Tryz.ntmps61]) ?_;rw [Tryz.ntmps61]
    repeat' (first|omega|(try apply yaa);simp only [go_sem,b2,e2,em]|refine cgL ?_|refine cgD ?_|apply yab<;>(intro h_;(try simp only [h_]);revert h_)|apply And.intro|with_reducible intro h_|trivial)
    all_goals (first|omega|exact LeA.of (by rw [←hv]))
   ·have b3:decide (s<0)=false:=by simpa using h
    rw [if_neg h] at hv
    rw [b3] at hS
    refine Fn.introL [.tmp 4, .tmp 5] Tryz.func61 rfl rfl (by decide) (by simp [Tryz.ntmps61]) ?_;rw [Tryz.ntmps61]
    repeat' (first|omega|(try apply yaa);simp only [go_sem,b2,e2,em]|refine cgL ?_|refine cgD ?_|apply yab<;>(intro h_;(try simp only [h_]);revert h_)|apply And.intro|with_reducible intro h_|trivial)
    all_goals (first|omega|exact LeA.of (by rw [←hv]))
  ·have b2:decide (1125899906842624<u % 18446744073709551616)=true:=by rw [decide_eq_true_iff];omega
   rw [decide_eq_false h2,if_neg (by simp)]
   refine Fn.introL [.tmp 4, .tmp 5] Tryz.func61 rfl rfl (by decide) (by simp [Tryz.ntmps61]) ?_;rw [Tryz.ntmps61]
   repeat' (first|omega|(try apply yaa);simp only [go_sem,b2]|refine cgL ?_|refine cgD ?_|apply yab<;>(intro h_;(try simp only [h_]);revert h_)|apply And.intro|with_reducible intro h_|trivial)
   all_goals exact LeA.refl _
 ·have b1:decide (1<=u/18446744073709551616 % 18446744073709551616)=true:=by rw [decide_eq_true_iff];omega
  have h2: ¬u<=1125899906842624:=by omega
  rw [decide_eq_false h2,if_neg (by simp)]
  refine Fn.introL [.tmp 4, .tmp 5] Tryz.func61 rfl rfl (by decide) (by simp [Tryz.ntmps61]) ?_;rw [Tryz.ntmps61]
  repeat' (first|omega|(try apply yaa);simp only [go_sem,b1]|refine cgL ?_|refine cgD ?_|apply yab<;>(intro h_;(try simp only [h_]);revert h_)|apply And.intro|with_reducible intro h_|trivial)
  all_goals exact LeA.refl _
end Go.Proofs.YtfgbnalnbdhimaaGreatDoor
set_option linter.unusedSimpArgs false
set_option linter.unusedVariables false
namespace Go.Proofs.YtfgbnalnbdhimaaGreatDoor
open Go Go.RowKit
set_option maxHeartbeats 8000000
set_option maxRecDepth 100000
def yqc:TbA:=[(5,[[33,36,38,5],[33,36,38,5],[31,32,36,38,5],[36,38,5],[36,37,38,39,40,5],[31,32,33,34,35,38,5],[35,38,5],[31,32,33,34,35,36,37,5],[35,5],[35,5],[31,32,33,34,35,36,37,38,39,40],[40],[]],[[],[],[0,1],[],[],[0,1,2,3,4],[4],[0,1,2,3,4,5,6],[4],[4],[0,1,2,3,4,5,6,7,8,9],[9],[]])]
structure yg9 (p:List (Int×Int)):Prop where
 fits:yd8 p
 len:p.length<=100000
 asc: ∀i j,i<=j->j<p.length->(p.getD i (0,0)).1<=(p.getD j (0,0)).1
 exp: ∀i,i<p.length-> -1000000<=(p.getD i (0,0)).1/\(p.getD i (0,0)).1<=1000000
theorem ygr {l:List Int} {k:Nat} (h:k<l.length):l.take (k+1)=l.take k++[l.getD k 0]:=by
 rw [List.take_succ_eq_append_getElem h];simp [h]
theorem ys3 (i:Nat) (p:List Int):(wdC p).map (cutV i)=wdC p:=by
 conv=>rhs;rw [←List.map_id (wdC p)]
 exact List.map_congr_left fun x hx=>by obtain ⟨n,rfl⟩:=ys2 hx;rfl
def plO:Option (List (Int×Int))->AV
 |some r=>plA false r
 |none=>plA true []
theorem ys4 (p q:List (Int×Int)) (hp:yg9 p) (hq:yg9 q) (hp0:0<p.length) (hq0:0<q.length) (hlo: -1048576<=lowE p+lowE q) (hhi:yah p+yah q<=1048576)
  (hsp:yah p+yah q-(lowE p+lowE q)<1048576) (hde:yah p+yah q-(lowE p+lowE q)<=64+4*p.length*q.length):
  Fn Tryz.prog 23 [plA false p,plA false q] (plO (mulO p q)):=by
 have ey:mulO p q=if (mulZ p q).all (fun z=>fitB (sgW z) 1125899906842624) then some (tmI (lowE p+lowE q) ((mulZ p q).map sgW)) else none:=rfl
 have L1:=yl1 p hp0
 have L2:=yl1 q hq0
 have H1:=yjm p hp0 (by have:=hp.len;omega)
 have H2:=yjm q hq0 (by have:=hq.len;omega)
 have a1:=hp.asc 0 (p.length-1) (by omega) (by omega)
 have a2:=hq.asc 0 (q.length-1) (by omega) (by omega)
 have x1:=hp.exp 0 hp0
 have x2:=hq.exp 0 hq0
 have x3:=hp.exp (p.length-1) (by omega)
 have x4:=hq.exp (q.length-1) (by omega)
 have pl:=hp.len
 have ql:=hq.len
 have hx: ∀i j,i<p.length->j<q.length->lowE p+lowE q<=(p.getD i (0,0)).1+(q.getD j (0,0)).1/\(p.getD i (0,0)).1+(q.getD j (0,0)).1<=yah p+yah q:=fun i j hi hj=>by
  have b1:=hp.asc 0 i (by omega) hi
  have b2:=hq.asc 0 j (by omega) hj
  have b3:=hp.asc i (p.length-1) (by omega) (by omega)
  have b4:=hq.asc j (q.length-1) (by omega) (by omega)
  unfold lowE yah
  omega
 have hpe: ∀i,i<p.length-> -2000000<=(p.getD i (0,0)).1/\(p.getD i (0,0)).1<=2000000:=fun i hi=>by have:=hp.exp i hi;omega
 have hqe: ∀i,i<q.length-> -2000000<=(q.getD i (0,0)).1/\(q.getD i (0,0)).1<=2000000:=fun i hi=>by have:=hq.exp i hi;omega
 have hpr:p.length*q.length<=100000*100000:=Nat.mul_le_mul pl ql
 have hpc:(4:Int)*p.length*q.length=4*((p.length*q.length:Nat):Int):=by rw [Int.natCast_mul,Int.mul_assoc]
 rw [ey]
 clear ey
 unfold mulZ
 unfold lowE yah at*
 generalize (p.getD 0 (0,0)).1=lp at*
 generalize (q.getD 0 (0,0)).1=lq at*
 generalize (p.getD (p.length-1) (0,0)).1=hp' at*
 generalize (q.getD (q.length-1) (0,0)).1=hq' at*
 have b0:((p.length:Int)==0)=false:=by rw [beq_eq_false_iff_ne];omega
 have b1:((q.length:Int)==0)=false:=by rw [beq_eq_false_iff_ne];omega
 have b2:decide (lp+lq< -1048576)=false:=by simp;omega
 have b3:decide (1048576<hp'+hq')=false:=by simp;omega
 have b4:decide (64+4*(p.length:Int)*q.length<hp'+hq'-(lp+lq))=false:=by simp;omega
 refine Fn.introL [.cell 4 32] Tryz.func23 rfl rfl (by decide) (by simp [Tryz.ntmps23]) ?_;rw [Tryz.ntmps23]
 repeat' (first|omega|(first|apply yaa|refine tbN yqc ?_|skip);simp only [go_sem,b0,b1]|apply yab<;>(intro h_;(try simp only [h_]);revert h_)|apply And.intro|with_reducible intro h_|trivial)
 refine ⟨ybd.fn rfl L1 ?_⟩
 simp only [go_sem]
 refine ⟨ybd.fn rfl L2 ?_⟩
 simp only [go_sem]
 repeat' (first|omega|(first|apply yaa|refine tbN yqc ?_|skip);simp only [go_sem,b0,b1]|apply yab<;>(intro h_;(try simp only [h_]);revert h_)|apply And.intro|with_reducible intro h_|trivial)
 refine ⟨ybd.fn rfl H1 ?_⟩
 simp only [go_sem]
 refine ⟨ybd.fn rfl H2 ?_⟩
 simp only [go_sem]
 repeat' (first|omega|(first|apply yaa|refine tbN yqc ?_|skip);simp only [go_sem,b2,b3,b4,yqb]|apply yab<;>(intro h_;(try simp only [h_]);revert h_)|apply And.intro|with_reducible intro h_|trivial)
 obtain ⟨N,hN⟩: ∃N:Nat,(hp'+hq'-(lp+lq)+1).toNat=N:=⟨_,rfl⟩
 rw [hN]
 refine ⟨yae.inline (yof p q (lp+lq) (List.replicate N 0) N (by simp) (by omega) (by omega) hp.fits hq.fits (by omega) (by omega) (fun i j hi hj=>by have:=hx i j hi hj;omega) hpe hqe
  (fun H' g0 g1 g2 g13 g14 g15=>y1v (by simp only [go_sem,g0,g1,g2,g13,g14,g15])) ?_)⟩
 have hzl:=yfi p q (lp+lq) p.length (List.replicate N 0)
 rw [List.length_replicate] at hzl
 generalize pz1 p q (lp+lq) p.length (List.replicate N 0)=zs at*
 have hwl:=yfn zs
 repeat' (first|omega|(try apply yaa);simp only [go_sem]|apply yab<;>(intro h_;(try simp only [h_]);revert h_)|apply And.intro|with_reducible intro h_|trivial)
 refine yai.intro (fun n fr H=> ∃k:Nat,k<=N/\n=N-k/\(zs.take k).all (fun z=>fitB (sgW z) 1125899906842624)=true/\fr=[(75,I k),(74,I N),(73, .sl 2 14 0 N),(8, .ptr 18 0),(5, .ptr 13 0),(4, .ptr 2 0)]/\
  ((tmI (lp+lq) ((zs.take k).map sgW)=[]/\H=[(18, .cells 32 (.lst [.bool false, .nils])),(14, .cells 97 (.lst (wdC zs))),(13, .cells 3 (.lst [I (lp+lq)])),(2, .cells 32 (.lst [.bool false, .nils]))])\/
   H=[(21, .cells 57 (.lst (tmC (tmI (lp+lq) ((zs.take k).map sgW))))),(18, .cells 32 (.lst [.bool false, .sl 2 21 0 (tmI (lp+lq) ((zs.take k).map sgW)).length])),(14, .cells 97 (.lst (wdC zs))),(13, .cells 3 (.lst [I (lp+lq)])),(2, .cells 32 (.lst [.bool false, .nils]))])) ?_ ?_
 ·refine ⟨_,_,_,?_,0,by omega,rfl,rfl,rfl, .inl ⟨by simp [tmI],rfl⟩⟩
  refine Wk.sub ?_ ?_<;>(simp only [go_sem,yac])
  all_goals simp_all
 rintro n fr H ⟨k,hk,rfl,hall,rfl,hc⟩
 have htl:=ymw (lp+lq) ((zs.take k).map sgW)
 rw [List.length_map,List.length_take] at htl
 by_cases hkl:k<N
 ·have g0:=yel zs k (by omega)
  have g1:=yem zs k (by omega)
  have hS:=yxs (zs.getD k 0)
  have eT:=ykr (lp+lq) ((zs.take k).map sgW) (sgW (zs.getD k 0))
  have ek:=ygr (l:=zs) (k:=k) (by omega)
  rw [show (zs.take k).map sgW++[sgW (zs.getD k 0)]=(zs.take (k+1)).map sgW by rw [ek,List.map_append];rfl,List.length_map,List.length_take,show min k zs.length=k by omega] at eT
  have hall':(zs.take (k+1)).all (fun z=>fitB (sgW z) 1125899906842624)=fitB (sgW (zs.getD k 0)) 1125899906842624:=by rw [ek,List.all_append,hall];simp
  have hno:fitB (sgW (zs.getD k 0)) 1125899906842624=false->zs.all (fun z=>fitB (sgW z) 1125899906842624)=false:=fun h=>by
   rw [←List.take_append_drop (k+1) zs,List.all_append,hall',h,Bool.false_and]
  generalize zs.getD k 0=z at*
  have hlen:=ya9 (tmI (lp+lq) ((zs.take k).map sgW))
  cases hf:fitB (sgW z) 1125899906842624 with
  |false=>
   rw [hno hf]
   rw [hf,if_neg (by simp)] at hS
   rcases hc with ⟨hn,rfl⟩|rfl
   ·repeat' (first|omega|(try apply yaa);simp only [go_sem,g0,g1,hwl]|apply yab<;>(intro h_;(try simp only [h_]);revert h_)|apply And.intro|with_reducible intro h_|trivial)
    refine ⟨yae.fn rfl hS ?_⟩
    repeat' (first|omega|(try apply yaa);simp only [go_sem]|apply yab<;>(intro h_;(try simp only [h_]);revert h_)|apply And.intro|with_reducible intro h_|trivial)
    all_goals first
     |exact LeA.aggL (.cons (LeA.refl _) (.cons (LeA.nils (by omega) rfl) .nil))
     |exact LeA.refl _
   ·repeat' (first|omega|(try apply yaa);simp only [go_sem,g0,g1,hwl]|apply yab<;>(intro h_;(try simp only [h_]);revert h_)|apply And.intro|with_reducible intro h_|trivial)
    refine ⟨yae.fn rfl hS ?_⟩
    repeat' (first|omega|(try apply yaa);simp only [go_sem]|apply yab<;>(intro h_;(try simp only [h_]);revert h_)|apply And.intro|with_reducible intro h_|trivial)
    all_goals first
     |exact LeA.aggL (.cons (LeA.refl _) (.cons (LeA.nils (by omega) rfl) .nil))
     |exact LeA.refl _
  |true=>
  rw [hf,if_pos rfl] at hS
  rw [hf] at hall'
  by_cases hz0:sgW z=0
  ·rw [hz0] at hS
   rw [if_pos hz0,List.append_nil] at eT
   rcases hc with ⟨hn,rfl⟩|rfl
   ·repeat' (first|omega|(try apply yaa);simp only [go_sem,g0,g1,hwl]|apply yab<;>(intro h_;(try simp only [h_]);revert h_)|apply And.intro|with_reducible intro h_|trivial)
    refine ⟨yae.fn rfl hS ?_⟩
    repeat' (first|omega|(try apply yaa);simp only [go_sem]|apply yab<;>(intro h_;(try simp only [h_]);revert h_)|apply And.intro|with_reducible intro h_|trivial)
    refine ⟨_,_,_,?_,?_,⟨k+1,by omega,rfl,hall',rfl, .inl ⟨by rw [eT];exact hn,rfl⟩⟩⟩
    ·omega
    ·refine Wk.sub ?_ ?_<;>(simp only [go_sem,yac])
     all_goals simp_all
   ·repeat' (first|omega|(try apply yaa);simp only [go_sem,g0,g1,hwl]|apply yab<;>(intro h_;(try simp only [h_]);revert h_)|apply And.intro|with_reducible intro h_|trivial)
    refine ⟨yae.fn rfl hS ?_⟩
    repeat' (first|omega|(try apply yaa);simp only [go_sem]|apply yab<;>(intro h_;(try simp only [h_]);revert h_)|apply And.intro|with_reducible intro h_|trivial)
    refine ⟨_,_,_,?_,?_,⟨k+1,by omega,rfl,hall',rfl, .inr rfl⟩⟩
    ·omega
    ·rw [eT]
     refine Wk.sub ?_ ?_<;>(simp only [go_sem,yac])
     all_goals simp_all
  ·rw [if_neg hz0] at eT
   have bz:(sgW z !=0)=true:=by simpa using hz0
   clear hno
   rcases hc with ⟨hn,rfl⟩|rfl
   ·rw [hn,List.nil_append] at eT
    repeat' (first|omega|(try apply yaa);simp only [go_sem,g0,g1,hwl]|apply yab<;>(intro h_;(try simp only [h_]);revert h_)|apply And.intro|with_reducible intro h_|trivial)
    refine ⟨yae.fn rfl hS ?_⟩
    repeat' (first|omega|(try apply yaa);simp only [go_sem,bz]|apply yab<;>(intro h_;(try simp only [h_]);revert h_)|apply And.intro|with_reducible intro h_|trivial)
    refine ⟨_,_,_,?_,?_,⟨k+1,by omega,rfl,hall',rfl, .inr rfl⟩⟩
    ·omega
    ·rw [eT]
     refine Wk.sub ?_ ?_<;>(simp only [go_sem,yac])
     all_goals rfl
   ·repeat' (first|omega|(try apply yaa);simp only [go_sem,g0,g1,hwl]|apply yab<;>(intro h_;(try simp only [h_]);revert h_)|apply And.intro|with_reducible intro h_|trivial)
    refine ⟨yae.fn rfl hS ?_⟩
    repeat' (first|omega|(try apply yaa);simp only [go_sem,bz,hlen,ys3]|apply yab<;>(intro h_;(try simp only [h_]);revert h_)|apply And.intro|with_reducible intro h_|trivial)
    rw [yf6]
    refine ⟨_,_,_,?_,?_,⟨k+1,by omega,rfl,hall',rfl, .inr rfl⟩⟩
    ·omega
    ·rw [eT]
     refine Wk.sub ?_ ?_<;>(simp only [go_sem,yac,List.length_append])
     all_goals simp_all
 ·obtain rfl:k=N:=by omega
  rw [List.take_of_length_le (by omega)] at hc htl hall
  rw [hall,if_pos rfl]
  rcases hc with ⟨hn,rfl⟩|rfl
  ·repeat' (first|omega|(try apply yaa);simp only [go_sem]|apply yab<;>(intro h_;(try simp only [h_]);revert h_)|apply And.intro|with_reducible intro h_|trivial)
   all_goals rw [plO,hn]
   all_goals exact LeA.aggL (.cons (LeA.refl _) (.cons (LeA.nils (by omega) rfl) .nil))
  ·have hlen:=ya9 (tmI (lp+lq) (zs.map sgW))
   repeat' (first|omega|(try apply yaa);simp only [go_sem,ye2]|apply yab<;>(intro h_;(try simp only [h_]);revert h_)|apply And.intro|with_reducible intro h_|trivial)
   all_goals exact LeA.of (by rw [plO,List.take_of_length_le (by omega)])
theorem y54 (p q:List (Int×Int)) (hp:yg9 p) (hq:yg9 q) (hp0:0<p.length) (hq0:0<q.length) (hlo: -1048576<=lowE p+lowE q) (hhi:yah p+yah q<=1048576)
  (hsp:yah p+yah q-(lowE p+lowE q)<1048576) (hde:yah p+yah q-(lowE p+lowE q)<=64+4*p.length*q.length) (hz: ∀z∈mulZ p q,-1125899906842624<=z/\z<=1125899906842624):
  Fn Tryz.prog 23 [plA false p,plA false q] (plA false (tmI (lowE p+lowE q) (mulZ p q))):=by
 have h:=ys4 p q hp hq hp0 hq0 hlo hhi hsp hde
 have h1: ∀z∈mulZ p q,sgW z=z:=fun z hz'=>by have:=hz z hz';unfold sgW;omega
 unfold mulO at h
 rwa [if_pos (List.all_eq_true.2 fun z hz'=>by rw [h1 z hz'];exact ybx.2 (hz z hz')),List.map_congr_left h1,List.map_id'] at h
theorem OkT.poly {N:Int} {p:List (Int×Int)} (h:OkT N p) (hN:N<=1000):yg9 p:=
 ⟨h.fit,by have:=h.len hN;omega,fun i j hij hj=>by
  have a:=List.pairwise_iff_getElem.1 h.asc.asc
  rcases Nat.lt_or_eq_of_le hij with hl|rfl
  ·have:=a i j (by omega) hj hl
   simp only [List.getD_eq_getElem?_getD,List.getElem?_eq_getElem hj,List.getElem?_eq_getElem (show i<p.length by omega),Option.getD_some]
   omega
  ·exact Int.le_refl _,fun i hi=>by have:=h.exp _ (ya6 hi);omega⟩
theorem OkT.mul {N M:Int} {p q:List (Int×Int)} (hp:OkT N p) (hq:OkT M q) (hN:N<=500) (hM:M<=500) (hp0:0<p.length) (hq0:0<q.length) (hde:yah p+yah q-(lowE p+lowE q)<=64+4*p.length*q.length):
  Fn Tryz.prog 23 [plA false p,plA false q] (plO (mulO p q)):=by
 have a1:=yd2 hp hp0
 have a2:=yd2 hq hq0
 exact ys4 p q (hp.poly (by omega)) (hq.poly (by omega)) hp0 hq0 (by omega) (by omega) (by omega) hde
end Go.Proofs.YtfgbnalnbdhimaaGreatDoor
set_option linter.unusedSimpArgs false
set_option linter.unusedVariables false
namespace Go.Proofs.YtfgbnalnbdhimaaGreatDoor
open Go Go.RowKit
set_option maxRecDepth 100000
theorem yag.ok {p:List (Int×Int)} {f:Int->Int} (h:yag p f) (hs: ∀e,f e≠0-> -1000<=e/\e<=1000) (hb: ∀e,-1125899906842624<=f e/\f e<=1125899906842624):yg9 p:=by
 refine ⟨h.fits hb,by have:=h.len hs;omega,fun i j hij hj=>?_,fun i hi=>?_⟩
 ·by_cases e:i=j
  ·subst e;exact Int.le_refl _
  ·have:=List.pairwise_iff_getElem.1 h.asc.asc i j (by omega) hj (by omega)
   simp only [List.getD_eq_getElem?_getD,List.getElem?_eq_getElem hj,List.getElem?_eq_getElem (show i<p.length by omega),Option.getD_some]
   omega
 ·have:=hs _ (h.mem (ya6 hi)).2
  omega
theorem y35 {p q:List (Int×Int)} {f g h:Int->Int} (hp:yag p f) (hq:yag q g) (hs: ∀e,f e≠0-> -1000<=e/\e<=1000) (hs2: ∀e,g e≠0-> -1000<=e/\e<=1000)
  (hb: ∀e,-1125899906842624<=f e/\f e<=1125899906842624) (hb2: ∀e,-1125899906842624<=g e/\g e<=1125899906842624) (hh: ∀e,cvL p g e=h e) (hb3: ∀e,-1125899906842624<=h e/\h e<=1125899906842624)
  (hp0:0<p.length) (hq0:0<q.length) (hd:yah p+yah q-(lowE p+lowE q)<=64+4*(p.length:Int)*q.length):
  ∃r,yag r h/\Fn Tryz.prog 23 [plA false p,plA false q] (plA false r):=by
 have a0:=hs _ (hp.mem (ya6 (i:=0) hp0)).2
 have a1:=hs _ (hp.mem (ya6 (i:=p.length-1) (by omega))).2
 have b0:=hs2 _ (hq.mem (ya6 (i:=0) hq0)).2
 have b1:=hs2 _ (hq.mem (ya6 (i:=q.length-1) (by omega))).2
 have hgq:cfL q=g:=funext hq.cf
 have hc: ∀e,cfL (tmI (lowE p+lowE q) (mulZ p q)) e=h e:=fun e=>by rw [y3p hp.asc hq.asc,hgq,hh]
 refine ⟨_,⟨yjf _ _,hc⟩,y54 p q (hp.ok hs hb) (hq.ok hs2 hb2) hp0 hq0 ?_ ?_ ?_ hd fun z hz=>?_⟩
 ·unfold lowE;omega
 ·unfold yah;omega
 ·unfold lowE yah;omega
 ·obtain ⟨i,hi,rfl⟩:=List.mem_iff_getElem.1 hz
  have h1:=yjg (lowE p+lowE q) (mulZ p q) (lowE p+lowE q+i)
  rw [if_pos (by omega),show (lowE p+lowE q+(i:Int)-(lowE p+lowE q)).toNat=i by omega,hc] at h1
  have h2:(mulZ p q).getD i 0=(mulZ p q)[i]:=by simp [List.getD_eq_getElem?_getD,hi]
  rw [←h2,←h1];exact hb3 _
end Go.Proofs.YtfgbnalnbdhimaaGreatDoor
set_option linter.unusedSimpArgs false
set_option linter.unusedVariables false
namespace Go.Proofs.YtfgbnalnbdhimaaGreatDoor
open Go Go.RowKit
set_option maxHeartbeats 8000000
set_option maxRecDepth 100000
theorem ycc (c e:Int) (h0: -1125899906842624<=c/\c<=1125899906842624) (h1: -1048576<=e/\e<=1048576):Fn Tryz.prog 10 [I c,I e] (plA false (trm c e)):=by
 have hw1:=yc9 c 1125899906842624 (by omega) (by omega)
 have hw2:=yc9 e 1048576 (by omega) (by omega)
 rw [ypn (by omega) (by omega)] at hw1 hw2
 unfold trm
 by_cases h:c=0
 ·have bz:(c==0)=true:=by simpa using h
  rw [if_pos h]
  refine Fn.introL [.cell 4 32] Tryz.func10 rfl rfl (by decide) (by simp [Tryz.ntmps10]) ?_;rw [Tryz.ntmps10]
  repeat' (first|omega|(try apply yaa);simp only [go_sem,bz]|apply yab<;>(intro h_;(try simp only [h_]);revert h_)|apply And.intro|with_reducible intro h_|trivial)
  all_goals exact LeA.aggL (.cons (LeA.refl _) (.cons (LeA.nils (by omega) rfl) .nil))
 ·have bz:(c==0)=false:=by rw [beq_eq_false_iff_ne];exact h
  rw [if_neg h]
  refine Fn.introL [.cell 4 32] Tryz.func10 rfl rfl (by decide) (by simp [Tryz.ntmps10]) ?_;rw [Tryz.ntmps10]
  repeat' (first|omega|(try apply yaa);simp only [go_sem,bz]|apply yab<;>(intro h_;(try simp only [h_]);revert h_)|apply And.intro|with_reducible intro h_|trivial)
  refine ⟨yae.fn rfl hw1 ?_⟩
  repeat' (first|omega|(try apply yaa);simp only [go_sem]|apply yab<;>(intro h_;(try simp only [h_]);revert h_)|apply And.intro|with_reducible intro h_|trivial)
  refine ⟨yae.fn rfl hw2 ?_⟩
  repeat' (first|omega|(try apply yaa);simp only [go_sem]|apply yab<;>(intro h_;(try simp only [h_]);revert h_)|apply And.intro|with_reducible intro h_|trivial)
  all_goals exact LeA.of rfl
end Go.Proofs.YtfgbnalnbdhimaaGreatDoor
set_option linter.unusedSimpArgs false
set_option linter.unusedVariables false
namespace Go.Proofs.YtfgbnalnbdhimaaGreatDoor
open Go Go.RowKit
set_option maxRecDepth 100000
set_option maxHeartbeats 8000000
theorem yjn (p:List (Int×Int)) (h:0<p.length):Fn Tryz.prog 46 [plA false p] (I (p.getD 0 (0,0)).1):=by
 have hc:=ya9 p
 have e:=ybr p 0 h
 rw [Nat.zero_mul] at e
 have b0:((p.length:Int)==0)=false:=by rw [beq_eq_false_iff_ne];omega
 refine Fn.intro [.tmp 2] Tryz.func46 rfl rfl (by decide) (by simp [Tryz.ntmps46]) ?_;rw [Tryz.ntmps46]
 repeat' (first|omega|(try apply yaa);simp only [go_sem,b0,e,hc]|apply yab<;>(intro h_;(try simp only [h_]);revert h_)|apply And.intro|with_reducible intro h_|trivial)
theorem yky (p:List (Int×Int)) (h:0<p.length) (hp:p.length<=1000000):Fn Tryz.prog 47 [plA false p] (I (p.getD (p.length-1) (0,0)).1):=by
 have hc:=ya9 p
 have e:=ybr p (p.length-1) (by omega)
 have b0:((p.length:Int)==0)=false:=by rw [beq_eq_false_iff_ne];omega
 have e1:((p.length:Int)-1).toNat=p.length-1:=by omega
 refine Fn.intro [.tmp 2] Tryz.func47 rfl rfl (by decide) (by simp [Tryz.ntmps47]) ?_;rw [Tryz.ntmps47]
 repeat' (first|omega|(try apply yaa);simp only [go_sem,b0,e,e1,hc]|apply yab<;>(intro h_;(try simp only [h_]);revert h_)|apply And.intro|with_reducible intro h_|trivial)
end Go.Proofs.YtfgbnalnbdhimaaGreatDoor
set_option linter.unusedSimpArgs false
set_option linter.unusedVariables false
namespace Go.Proofs.YtfgbnalnbdhimaaGreatDoor
open Go Go.RowKit
set_option maxRecDepth 100000
set_option maxHeartbeats 8000000
theorem ys5 (p:List (Int×Int)):Fn Tryz.prog 48 [plA false p] (.bool ((p.length:Int)==0)):=by
 refine Fn.intro [.tmp 2] Tryz.func48 rfl rfl (by decide) (by simp [Tryz.ntmps48]) ?_;rw [Tryz.ntmps48]
 repeat' (first|omega|(try apply yaa);simp only [go_sem]|apply yab<;>(intro h_;(try simp only [h_]);revert h_)|apply And.intro|with_reducible intro h_|trivial)
end Go.Proofs.YtfgbnalnbdhimaaGreatDoor
