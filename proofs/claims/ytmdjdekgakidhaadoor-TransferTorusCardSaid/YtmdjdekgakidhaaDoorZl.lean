/- Layer 12: integers of 128 bits: sums and negatives. -/
import Derived.Shelf.Spec.BitsCarry
import Derived.WalkKit
import Derived.BigCall
import Derived.Laws.Rows
import Derived.Lib.SmallJoins
import Derived.Test.YtmdjdekgakidhaaDoorSh
import Derived.Test.YtmdjdekgakidhaaDoorTy
import Derived.Test.YtmdjdekgakidhaaDoorZe
import Derived.Test.YtmdjdekgakidhaaDoorZa
import Derived.Test.YtmdjdekgakidhaaDoorZh
set_option linter.unusedSimpArgs false
set_option linter.unusedVariables false
namespace Go.Proofs.YtmdjdekgakidhaaDoor
open Go Go.RowKit Go.Shelf Go.Joins
set_option maxHeartbeats 4000000
set_option maxRecDepth 100000
def yv1:Ren:=⟨fun|25=>47|26=>67|n=>n,fun|22=>78|n=>n,fun|n=>n⟩
theorem addL:Lays7.n25 Tryd.prog yv1:={mixed:=by kernel_rfl,f25:=Tryd.func47.trans (congrArg some (by kernel_rfl)),t22:=Tryd.underlying78,a22:=Tryd.isAgg78,z22:=Tryd.sizeOf78,v22:=Tryd.zeroValue78,i22:=by kernel_rfl}
theorem subL:Lays7.n26 Tryd.prog yv1:={mixed:=by kernel_rfl,f26:=Tryd.func67.trans (congrArg some (by kernel_rfl)),t22:=Tryd.underlying78,a22:=Tryd.isAgg78,z22:=Tryd.sizeOf78,v22:=Tryd.zeroValue78,i22:=by kernel_rfl}
theorem yr5 (x y c:Nat) (hc:c<=1) (w:World):(callFunc 47 #[.int .u64 x, .int .u64 y, .int .u64 c]).run Tryd.prog w=
   .ok (.value (.tuple #[.int .u64 (((x+y+c)% 18446744073709551616:Nat):Int), .int .u64 (((x+y+c)/18446744073709551616:Nat):Int)])) w:=Any7.bits_Add64 addL x y c hc w
theorem yr6 (x y c:Nat) (hc:c<=1) (w:World):(callFunc 67 #[.int .u64 x, .int .u64 y, .int .u64 c]).run Tryd.prog w=
   .ok (.value (.tuple #[.int .u64 (((x+18446744073709551616-y-c)% 18446744073709551616:Nat):Int), .int .u64 ((if x<y+c then 1 else 0:Nat):Int)])) w:=Any7.bits_Sub64 subL x y c hc w
theorem yy7 (x y:Nat) (w:World):(callFunc 47 #[.int .u64 x, .int .u64 y, .int .u64 0]).run Tryd.prog w=
   .ok (.value (.tuple #[.int .u64 (((x+y)% 18446744073709551616:Nat):Int), .int .u64 (((x+y)/18446744073709551616:Nat):Int)])) w:=yr5 x y 0 (by omega) w
theorem yy8 (y:Nat) (w:World):(callFunc 67 #[.int .u64 0, .int .u64 y, .int .u64 0]).run Tryd.prog w=
   .ok (.value (.tuple #[.int .u64 (((0+18446744073709551616-y)% 18446744073709551616:Nat):Int), .int .u64 ((if 0<y then 1 else 0:Nat):Int)])) w:=yr6 0 y 0 (by omega) w
theorem yy9 (y c:Nat) (hc:c<=1) (w:World):(callFunc 67 #[.int .u64 0, .int .u64 y, .int .u64 c]).run Tryd.prog w=
   .ok (.value (.tuple #[.int .u64 (((0+18446744073709551616-y-c)% 18446744073709551616:Nat):Int), .int .u64 ((if 0<y+c then 1 else 0:Nat):Int)])) w:=yr6 0 y c hc w
theorem al3 (w:World) (o1 o2 o3:Obj):(((w.alloc o1).alloc o2).alloc o3).heap[w.heap.size+1+1]?=some o3:=by
 have h:=heap_alloc_new ((w.alloc o1).alloc o2) o3
 rw [show ((w.alloc o1).alloc o2).heap.size=w.heap.size+1+1 by simp] at h
 exact h
theorem al2 (w:World) (o1 o2:Obj):((w.alloc o1).alloc o2).heap[w.heap.size+1]?=some o2:=by
 have h:=heap_alloc_new (w.alloc o1) o2
 rw [show (w.alloc o1).heap.size=w.heap.size+1 by simp] at h
 exact h
theorem yv2 (a b c d:Nat) (hb:b<18446744073709551616) (hd:d<18446744073709551616) (w:World):Calls Tryd.prog 35 #[.agg #[.int .u64 a, .int .u64 b], .agg #[.int .u64 c, .int .u64 d]] w fun e w'=>
  e= .returned (.agg #[.int .u64 (((a+c+(b+d)/18446744073709551616)% 18446744073709551616:Nat):Int), .int .u64 (((b+d)% 18446744073709551616:Nat):Int)])/\Below w.heap.size w w':=by
 obtain ⟨lo,hlo⟩: ∃lo,lo=(b+d)% 18446744073709551616:=⟨_,rfl⟩
 obtain ⟨cy,hcy⟩: ∃cy,cy=(b+d)/18446744073709551616:=⟨_,rfl⟩
 obtain ⟨hi,hhi⟩: ∃hi,hi=(a+c+cy)% 18446744073709551616:=⟨_,rfl⟩
 obtain ⟨cz,hcz⟩: ∃cz,cz=(a+c+cy)/18446744073709551616:=⟨_,rfl⟩
 have r1: ∀w,(callFunc 47 #[.int .u64 b, .int .u64 d, .int .u64 0]).run Tryd.prog w= .ok (.value (.tuple #[.int .u64 lo, .int .u64 cy])) w:=fun w=>by rw [hlo,hcy];exact yy7 b d w
 have r2: ∀w,(callFunc 47 #[.int .u64 a, .int .u64 c, .int .u64 cy]).run Tryd.prog w= .ok (.value (.tuple #[.int .u64 hi, .int .u64 cz])) w:=fun w=>by rw [hhi,hcz];exact yr5 a c cy (by omega) w
 rw [←hlo,←hcy,←hhi]
 clear hlo hcy hhi hcz
 go_enter Tryd.func35,Tryd.ntmps35
 go_wp2_with (simp only [r1,r2])
 refine ⟨rfl, .agg #[.int .u64 hi, .int .u64 lo],?_,rfl,below_alloc3 _ _ _ _⟩
 exact results_cell_row (fn:=Tryd.f35) rfl _ _ (w.heap.size+1+1) 80 #[.int .u64 hi, .int .u64 lo] (0,0) _ rfl (al3 _ _ _ _) Tryd.underlying80 rfl (by kernel_rfl)
theorem yv3 (a b:Nat) (ha:a<18446744073709551616) (hb:b<18446744073709551616) (w:World):Calls Tryd.prog 59 #[.agg #[.int .u64 a, .int .u64 b]] w fun e w'=>
  e= .returned (.agg #[.int .u64 (((18446744073709551616-a-(if 0<b then 1 else 0))% 18446744073709551616:Nat):Int), .int .u64 (((18446744073709551616-b)% 18446744073709551616:Nat):Int)])/\Below w.heap.size w w':=by
 obtain ⟨lo,hlo⟩: ∃lo,lo=(18446744073709551616-b)% 18446744073709551616:=⟨_,rfl⟩
 obtain ⟨cy,hcy⟩: ∃cy,cy=(if 0<b then 1 else 0:Nat):=⟨_,rfl⟩
 have hc1:cy<=1:=by rw [hcy];split<;>omega
 obtain ⟨hi,hhi⟩: ∃hi,hi=(18446744073709551616-a-cy)% 18446744073709551616:=⟨_,rfl⟩
 obtain ⟨cz,hcz⟩: ∃cz,cz=(if 0<a+cy then 1 else 0:Nat):=⟨_,rfl⟩
 have r1: ∀w,(callFunc 67 #[.int .u64 0, .int .u64 b, .int .u64 0]).run Tryd.prog w= .ok (.value (.tuple #[.int .u64 lo, .int .u64 cy])) w:=fun w=>by
  rw [hlo,hcy];have:=yy8 b w;rw [Nat.zero_add] at this;exact this
 have r2: ∀w,(callFunc 67 #[.int .u64 0, .int .u64 a, .int .u64 cy]).run Tryd.prog w= .ok (.value (.tuple #[.int .u64 hi, .int .u64 cz])) w:=fun w=>by
  rw [hhi,hcz];have:=yy9 a cy hc1 w;rw [Nat.zero_add] at this;exact this
 rw [←hlo,←hcy,←hhi]
 clear hlo hcy hhi hcz hc1
 go_enter Tryd.func59,Tryd.ntmps59
 go_wp2_with (simp only [r1,r2])
 refine ⟨rfl, .agg #[.int .u64 hi, .int .u64 lo],?_,rfl,below_alloc2 _ _ _⟩
 exact results_cell_row (fn:=Tryd.f59) rfl _ _ (w.heap.size+1) 80 #[.int .u64 hi, .int .u64 lo] (0,0) _ rfl (al2 _ _ _) Tryd.underlying80 rfl (by kernel_rfl)
abbrev wdA (z:Int):AV:= .agg [.int .u64 (z/18446744073709551616 % 18446744073709551616), .int .u64 (z % 18446744073709551616)]
attribute [go_sem] wdA
theorem ypx {w:World} {M:Nat->Prop} {ρ:Nat->Addr} {D:Nat->Prop} {v:Value} {z:Int} (h:VR w M ρ D v (wdA z)): ∃a b:Nat,v= .agg #[.int .u64 a, .int .u64 b]/\(a:Int)=z/18446744073709551616 % 18446744073709551616/\(b:Int)=z % 18446744073709551616:=by
 obtain ⟨vs,rfl,hl,hx⟩:=h.agg_inv
 match vs,hl,hx with
 |[v0,v1],_,hx=>
  have e0:=(hx 0 v0 _ rfl rfl).int_inv
  have e1:=(hx 1 v1 _ rfl rfl).int_inv
  subst e0 e1
  refine ⟨(z/18446744073709551616 % 18446744073709551616).toNat,(z % 18446744073709551616).toNat,?_,by omega,by omega⟩
  rw [Int.toNat_of_nonneg (by omega),Int.toNat_of_nonneg (by omega)]
theorem y0k {w:World} {M:Nat->Prop} {ρ:Nat->Addr} {D:Nat->Prop} {z:Int} {a b:Nat} (h1:(a:Int)=z/18446744073709551616 % 18446744073709551616) (h2:(b:Int)=z % 18446744073709551616):VR w M ρ D (.agg #[.int .u64 a, .int .u64 b]) (wdA z):=by
 refine .agg [.int .u64 a, .int .u64 b] _ rfl fun i u x hu hx=>?_
 match i,hu,hx with
 |0,hu,hx=>cases hu;cases hx;rw [h1];exact .int _ _
 |1,hu,hx=>cases hu;cases hx;rw [h2];exact .int _ _
theorem y2w (x y:Int):Fn Tryd.prog 35 [wdA x,wdA y] (wdA (x+y)):=by
 refine ⟨⟨_,Tryd.func35,rfl,by decide⟩,fun w Mx vs hMx hl hv=>?_⟩
 match vs,hl,hv with
 |[v0,v1],_,hv=>
  obtain ⟨a,b,rfl,e1,e2⟩:=ypx (hv 0 v0 _ rfl rfl)
  obtain ⟨c,d,rfl,e3,e4⟩:=ypx (hv 1 v1 _ rfl rfl)
  refine (yv2 a b c d (by omega) (by omega) w).mono ?_
  rintro e w' ⟨rfl,hb⟩
  exact ⟨_,rfl,hb,y0k (by omega) (by omega)⟩
theorem yr7 (x:Int):Fn Tryd.prog 59 [wdA x] (wdA (-x)):=by
 refine ⟨⟨_,Tryd.func59,rfl,by decide⟩,fun w Mx vs hMx hl hv=>?_⟩
 match vs,hl,hv with
 |[v0],_,hv=>
  obtain ⟨a,b,rfl,e1,e2⟩:=ypx (hv 0 v0 _ rfl rfl)
  refine (yv3 a b (by omega) (by omega) w).mono ?_
  rintro e w' ⟨rfl,hb⟩
  refine ⟨_,rfl,hb,y0k ?_ (by omega)⟩
  split<;>omega
end Go.Proofs.YtmdjdekgakidhaaDoor
set_option linter.unusedSimpArgs false
set_option linter.unusedVariables false
namespace Go.Proofs.YtmdjdekgakidhaaDoor
open Go Go.RowKit
set_option maxHeartbeats 4000000
set_option maxRecDepth 100000
theorem yv4 (x:Int) (h0: -4611686018427387904<=x) (h1:x<=4611686018427387904):Fn Tryd.prog 58 [I x] (.int .u64 (if x<0 then-x else x)):=by
 by_cases h:x<0
 ·have b0:decide (x<0)=true:=by simpa using h
  have e1:IntKind.u64.wrap (0-IntKind.u64.wrap x)= -x:=by rw [IntKind.wrap_u64,IntKind.wrap_u64];omega
  rw [if_pos h]
  refine Fn.intro [.tmp 2] Tryd.func58 rfl rfl (by decide) (by simp [Tryd.ntmps58]) ?_;rw [Tryd.ntmps58]
  repeat' (first|omega|(try apply yaa);simp only [go_sem,sevalprocAttr,b0,e1]|apply yae<;>(intro h_;(try simp only [h_]);revert h_)|apply yad|apply yab|apply gspI|apply And.intro|with_reducible intro h_|trivial|simp only [go_sem,la2];omega)
 ·have b0:decide (x<0)=false:=by simpa using h
  have e1:IntKind.u64.wrap x=x:=by rw [IntKind.wrap_u64];omega
  rw [if_neg h]
  refine Fn.intro [.tmp 2] Tryd.func58 rfl rfl (by decide) (by simp [Tryd.ntmps58]) ?_;rw [Tryd.ntmps58]
  repeat' (first|omega|(try apply yaa);simp only [go_sem,sevalprocAttr,b0,e1]|apply yae<;>(intro h_;(try simp only [h_]);revert h_)|apply yad|apply yab|apply gspI|apply And.intro|with_reducible intro h_|trivial|simp only [go_sem,la2];omega)
theorem yza (a b:Nat) (ha:a<18446744073709551616) (hb:b<18446744073709551616):Fn Tryd.prog 57 [.int .u64 a, .int .u64 b] (.tup [.int .u64 ((a*b/18446744073709551616:Nat):Int), .int .u64 ((a*b % 18446744073709551616:Nat):Int)]):=by
 refine ⟨⟨_,Tryd.func57,rfl,by decide⟩,fun w Mx vs hMx hl hv=>?_⟩
 match vs,hl,hv with
 |[v0,v1],_,hv=>
  have e0:=(hv 0 v0 _ rfl rfl).int_inv
  have e1:=(hv 1 v1 _ rfl rfl).int_inv
  subst e0 e1
  refine (Tryd.bits_Mul64 a b ha hb w).mono ?_
  rintro e w' ⟨rfl,rfl⟩
  refine ⟨_,rfl,Below.refl _ _, .tup [.int .u64 _, .int .u64 _] _ rfl fun i u x hu hx=>?_⟩
  match i,hu,hx with
  |0,hu,hx=>cases hu;cases hx;exact .int _ _
  |1,hu,hx=>cases hu;cases hx;exact .int _ _
theorem yt5 (x y:Int) (h0: -4611686018427387904<=x) (h1:x<=4611686018427387904) (h2: -4611686018427387904<=y) (h3:y<=4611686018427387904):Fn Tryd.prog 46 [I x,I y] (wdA (x*y)):=by
 have m1:=yv4 x h0 h1
 have m2:=yv4 y h2 h3
 obtain ⟨a,ha⟩: ∃a:Nat,(if x<0 then-x else x)=a:=⟨(if x<0 then-x else x).toNat,by split<;>omega⟩
 obtain ⟨b,hb⟩: ∃b:Nat,(if y<0 then-y else y)=b:=⟨(if y<0 then-y else y).toNat,by split<;>omega⟩
 rw [ha] at m1
 rw [hb] at m2
 have hab:a<=4611686018427387904:=by split at ha<;>omega
 have hbb:b<=4611686018427387904:=by split at hb<;>omega
 have hM:=yza a b (by omega) (by omega)
 have hpb:a*b<=4611686018427387904*4611686018427387904:=Nat.mul_le_mul hab hbb
 have e1:((a*b/18446744073709551616:Nat):Int)=((a*b:Nat):Int)/18446744073709551616 % 18446744073709551616:=by omega
 have e2:((a*b % 18446744073709551616:Nat):Int)=((a*b:Nat):Int)% 18446744073709551616:=by omega
 rw [e1,e2] at hM
 have hN:=yr7 ((a*b:Nat):Int)
 have hxy:x*y=if decide (x<0)=decide (y<0) then ((a*b:Nat):Int) else-((a*b:Nat):Int):=by
  rw [Int.natCast_mul,←ha,←hb]
  by_cases c1:x<0<;>by_cases c2:y<0<;>simp [c1,c2,Int.neg_mul,Int.mul_neg]
 obtain ⟨p,hp⟩: ∃p:Int,p=((a*b:Nat):Int):=⟨_,rfl⟩
 rw [←hp] at hM hN hxy
 clear e1 e2
 by_cases hc:decide (x<0)=decide (y<0)
 ·rw [if_pos hc] at hxy
  have b0:(decide (x<0)!=decide (y<0))=false:=by rw [hc];simp
  rw [hxy]
  refine Fn.introL [.cell 4 80] Tryd.func46 rfl rfl (by decide) (by simp [Tryd.ntmps46]) ?_;rw [Tryd.ntmps46]
  repeat' (first|omega|(try apply yaa);simp only [go_sem,sevalprocAttr]|apply yae<;>(intro h_;(try simp only [h_]);revert h_)|apply yad|apply yab|apply gspI|apply And.intro|with_reducible intro h_|trivial|simp only [go_sem,la2];omega)
  refine ⟨yaf.fn rfl m1 ?_⟩
  repeat' (first|omega|(try apply yaa);simp only [go_sem,sevalprocAttr]|apply yae<;>(intro h_;(try simp only [h_]);revert h_)|apply yad|apply yab|apply gspI|apply And.intro|with_reducible intro h_|trivial|simp only [go_sem,la2];omega)
  refine ⟨yaf.fn rfl m2 ?_⟩
  repeat' (first|omega|(try apply yaa);simp only [go_sem,sevalprocAttr]|apply yae<;>(intro h_;(try simp only [h_]);revert h_)|apply yad|apply yab|apply gspI|apply And.intro|with_reducible intro h_|trivial|simp only [go_sem,la2];omega)
  refine ⟨yaf.fn rfl hM ?_⟩
  repeat' (first|omega|(try apply yaa);simp only [go_sem,sevalprocAttr,b0]|apply yae<;>(intro h_;(try simp only [h_]);revert h_)|apply yad|apply yab|apply gspI|apply And.intro|with_reducible intro h_|trivial|simp only [go_sem,la2];omega)
  all_goals exact LeA.refl _
 ·rw [if_neg hc] at hxy
  have b0:(decide (x<0)!=decide (y<0))=true:=by simpa [bne] using hc
  rw [hxy]
  refine Fn.introL [.cell 4 80] Tryd.func46 rfl rfl (by decide) (by simp [Tryd.ntmps46]) ?_;rw [Tryd.ntmps46]
  repeat' (first|omega|(try apply yaa);simp only [go_sem,sevalprocAttr]|apply yae<;>(intro h_;(try simp only [h_]);revert h_)|apply yad|apply yab|apply gspI|apply And.intro|with_reducible intro h_|trivial|simp only [go_sem,la2];omega)
  refine ⟨yaf.fn rfl m1 ?_⟩
  repeat' (first|omega|(try apply yaa);simp only [go_sem,sevalprocAttr]|apply yae<;>(intro h_;(try simp only [h_]);revert h_)|apply yad|apply yab|apply gspI|apply And.intro|with_reducible intro h_|trivial|simp only [go_sem,la2];omega)
  refine ⟨yaf.fn rfl m2 ?_⟩
  repeat' (first|omega|(try apply yaa);simp only [go_sem,sevalprocAttr]|apply yae<;>(intro h_;(try simp only [h_]);revert h_)|apply yad|apply yab|apply gspI|apply And.intro|with_reducible intro h_|trivial|simp only [go_sem,la2];omega)
  refine ⟨yaf.fn rfl hM ?_⟩
  repeat' (first|omega|(try apply yaa);simp only [go_sem,sevalprocAttr,b0]|apply yae<;>(intro h_;(try simp only [h_]);revert h_)|apply yad|apply yab|apply gspI|apply And.intro|with_reducible intro h_|trivial|simp only [go_sem,la2];omega)
  refine ⟨yaf.fn rfl hN ?_⟩
  repeat' (first|omega|(try apply yaa);simp only [go_sem,sevalprocAttr]|apply yae<;>(intro h_;(try simp only [h_]);revert h_)|apply yad|apply yab|apply gspI|apply And.intro|with_reducible intro h_|trivial|simp only [go_sem,la2];omega)
  all_goals exact LeA.refl _
theorem yzb (z:Int) (h0: -170141183460469231731687303715884105728<=z) (h1:z<170141183460469231731687303715884105728):Fn Tryd.prog 48 [wdA z] (.tup [wdA (if z<0 then-z else z), .bool (decide (z<0))]):=by
 have hN:=yr7 z
 by_cases h:z<0
 ·have b0:(z/18446744073709551616 % 18446744073709551616/2^(63:Int).toNat==1)=true:=by
   rw [show (2:Int)^(63:Int).toNat=9223372036854775808 by decide,beq_iff_eq];omega
  have b1:decide (z<0)=true:=by simpa using h
  rw [if_pos h,b1]
  refine Fn.introL [.cell 2 80, .tmp 3] Tryd.func48 rfl rfl (by decide) (by simp [Tryd.ntmps48]) ?_;rw [Tryd.ntmps48]
  repeat' (first|omega|(try apply yaa);simp only [go_sem,sevalprocAttr,b0]|apply yae<;>(intro h_;(try simp only [h_]);revert h_)|apply yad|apply yab|apply gspI|apply And.intro|with_reducible intro h_|trivial|simp only [go_sem,la2];omega)
  refine ⟨yaf.fn rfl hN ?_⟩
  repeat' (first|omega|(try apply yaa);simp only [go_sem,sevalprocAttr]|apply yae<;>(intro h_;(try simp only [h_]);revert h_)|apply yad|apply yab|apply gspI|apply And.intro|with_reducible intro h_|trivial|simp only [go_sem,la2];omega)
  all_goals exact LeA.refl _
 ·have b0:(z/18446744073709551616 % 18446744073709551616/2^(63:Int).toNat==1)=false:=by
   rw [show (2:Int)^(63:Int).toNat=9223372036854775808 by decide,beq_eq_false_iff_ne];omega
  have b1:decide (z<0)=false:=by simpa using h
  rw [if_neg h,b1]
  refine Fn.introL [.cell 2 80, .tmp 3] Tryd.func48 rfl rfl (by decide) (by simp [Tryd.ntmps48]) ?_;rw [Tryd.ntmps48]
  repeat' (first|omega|(try apply yaa);simp only [go_sem,sevalprocAttr,b0]|apply yae<;>(intro h_;(try simp only [h_]);revert h_)|apply yad|apply yab|apply gspI|apply And.intro|with_reducible intro h_|trivial|simp only [go_sem,la2];omega)
  all_goals exact LeA.refl _
theorem yzc (z:Int) (h0: -1125899906842624<=z) (h1:z<=1125899906842624):Fn Tryd.prog 36 [wdA z] (.tup [I z, .bool true]):=by
 have hS:=yzb z (by omega) (by omega)
 have b0:((if z<0 then-z else z)/18446744073709551616 % 18446744073709551616 !=0)=false:=by
  simp only [bne_eq_false_iff_eq];split<;>omega
 have e1:(if z<0 then-z else z)% 18446744073709551616=if z<0 then-z else z:=by split<;>omega
 obtain ⟨u,hu⟩: ∃u,u=(if z<0 then-z else z):=⟨_,rfl⟩
 rw [←hu] at hS b0 e1
 have u0:0<=u/\u<=1125899906842624:=by rw [hu];split<;>omega
 have b1:decide (1125899906842624<u)=false:=by simp;omega
 have e2:IntKind.i64.wrap u=u:=yon (by unfold InI;omega)
 by_cases h:z<0
 ·have b2:decide (z<0)=true:=by simpa using h
  rw [b2] at hS
  have e3:0-u=z:=by rw [hu,if_pos h];omega
  refine Fn.introL [.tmp 2, .tmp 3] Tryd.func36 rfl rfl (by decide) (by simp [Tryd.ntmps36]) ?_;rw [Tryd.ntmps36]
  repeat' (first|omega|(try apply yaa);simp only [go_sem,sevalprocAttr]|apply yae<;>(intro h_;(try simp only [h_]);revert h_)|apply yad|apply yab|apply gspI|apply And.intro|with_reducible intro h_|trivial|simp only [go_sem,la2];omega)
  refine ⟨yaf.fn rfl hS ?_⟩
  repeat' (first|omega|(try apply yaa);simp only [go_sem,sevalprocAttr,b0,b1,e1,e2]|apply yae<;>(intro h_;(try simp only [h_]);revert h_)|apply yad|apply yab|apply gspI|apply And.intro|with_reducible intro h_|trivial|simp only [go_sem,la2];omega)
  all_goals (first|omega|exact LeA.of (by rw [e3]))
 ·have b2:decide (z<0)=false:=by simpa using h
  rw [b2] at hS
  have e3:u=z:=by rw [hu,if_neg h]
  refine Fn.introL [.tmp 2, .tmp 3] Tryd.func36 rfl rfl (by decide) (by simp [Tryd.ntmps36]) ?_;rw [Tryd.ntmps36]
  repeat' (first|omega|(try apply yaa);simp only [go_sem,sevalprocAttr]|apply yae<;>(intro h_;(try simp only [h_]);revert h_)|apply yad|apply yab|apply gspI|apply And.intro|with_reducible intro h_|trivial|simp only [go_sem,la2];omega)
  refine ⟨yaf.fn rfl hS ?_⟩
  repeat' (first|omega|(try apply yaa);simp only [go_sem,sevalprocAttr,b0,b1,e1,e2]|apply yae<;>(intro h_;(try simp only [h_]);revert h_)|apply yad|apply yab|apply gspI|apply And.intro|with_reducible intro h_|trivial|simp only [go_sem,la2];omega)
  all_goals (first|omega|exact LeA.of (by rw [e3]))
end Go.Proofs.YtmdjdekgakidhaaDoor
set_option linter.unusedSimpArgs false
set_option linter.unusedVariables false
namespace Go.Proofs.YtmdjdekgakidhaaDoor
open Go Go.RowKit
set_option maxRecDepth 100000
set_option maxHeartbeats 4000000
def tmC (p:List (Int×Int)):List AV:=p.flatMap fun t=>[I t.1,I t.2]
abbrev tmA (p:List (Int×Int)):AV:= .ro 2 p.length (.lst (tmC p))
abbrev plA (b:Bool) (p:List (Int×Int)):AV:= .agg [.bool b,tmA p]
attribute [go_sem] tmA plA
theorem ycg (p:List (Int×Int)):(tmC p).length=2*p.length:=by
 unfold tmC;induction p with
 |nil=>rfl
 |cons x p ih=>simp [ih];omega
theorem yec (p:List (Int×Int)) (i:Nat) (h:i<p.length):(tmC p).getD (i*2) .any=I (p.getD i (0,0)).1:=by
 unfold tmC;induction p generalizing i with
 |nil=>simp at h
 |cons x p ih=>
  cases i with
  |zero=>simp
  |succ i=>
   have:=ih i (by simpa using h)
   simp only [List.flatMap_cons,List.getD_cons_succ]
   rw [show (i+1)*2=i*2+1+1 by omega]
   simpa using this
theorem yh3 (p:List (Int×Int)) (i:Nat) (h:i<p.length):(tmC p).getD (i*2+1) .any=I (p.getD i (0,0)).2:=by
 unfold tmC;induction p generalizing i with
 |nil=>simp at h
 |cons x p ih=>
  cases i with
  |zero=>simp
  |succ i=>
   have:=ih i (by simpa using h)
   simp only [List.flatMap_cons,List.getD_cons_succ]
   rw [show (i+1)*2+1=i*2+1+1+1 by omega]
   simpa using this
theorem ynv (v l:Int) (h0:0<=l) (h1:l<=9000000000000000000):Fn Tryd.prog 19 [I v,I l] (.bool (fitB v l)):=by
 unfold fitB
 refine Fn.intro [.tmp 4] Tryd.func19 rfl rfl (by decide) (by simp [Tryd.ntmps19]) ?_;rw [Tryd.ntmps19]
 repeat' (first|omega|(try apply yaa);simp only [go_sem,sevalprocAttr]|apply yae<;>(intro h_;(try simp only [h_]);revert h_)|apply yad|apply yab|apply gspI|apply And.intro|with_reducible intro h_|trivial|simp only [go_sem,la2];omega)
 all_goals simp_all
 all_goals omega
theorem yjd {p:List (Int×Int)} {x:AV} (h:x∈tmC p): ∃n,x=I n:=by
 unfold tmC at h
 obtain ⟨t,_,ht⟩:=List.mem_flatMap.1 h
 simp only [List.mem_cons,List.not_mem_nil,or_false] at ht
 rcases ht with e|e<;>exact ⟨_,e⟩
theorem yl1 (p:List (Int×Int)):(tmC p).all p1=true:=List.all_eq_true.2 fun x hx=>by obtain ⟨n,rfl⟩:=yjd hx;rfl
theorem ya0 (H:Hp) (p:List (Int×Int)):(tmC p).all (s3 H)=true:=List.all_eq_true.2 fun x hx=>by obtain ⟨n,rfl⟩:=yjd hx;rfl
theorem y42 (p:List (Int×Int)):(tmC p).all ybk=true:=List.all_eq_true.2 fun x hx=>by obtain ⟨n,rfl⟩:=yjd hx;rfl
theorem y2x (i:Nat) (p:List (Int×Int)):(tmC p).map (cutV i)=tmC p:=by
 conv=>rhs;rw [←List.map_id (tmC p)]
 exact List.map_congr_left fun x hx=>by obtain ⟨n,rfl⟩:=yjd hx;rfl
theorem yzd (H:Hp) (n:Nat) (p:List (Int×Int)):(tmC p).map (snap H (n+1))=tmC p:=y2r (yl1 p) H n
theorem yiq (H:Hp) (n:Nat) (p:List (Int×Int)):(∀x∈tmC p,yal H (n+1) x)=True:=yy4 (yl1 p) H n
theorem ybz (H:Hp) (n:Nat) (p:List (Int×Int)):(tmC p).map (frzV H (n+1))=tmC p:=yvw (yl1 p) H n
theorem ybn (H:Hp) (n:Nat) (p:List (Int×Int)):(∀x∈tmC p,frzP H (n+1) x)=True:=yr3 (yl1 p) H n
theorem ypy (p:List (Int×Int)) (e c:Int):tmC p++[AV.int .i64 e,AV.int .i64 c]=tmC (p++[(e,c)]):=by simp [tmC]
attribute [go_sem] ya0 y42 y2x yzd yiq ybz ybn ycg
theorem y2y (fr:Fr):unl (lft fr)=fr:=by
 induction fr with
 |nil=>rfl
 |cons q r ih=>
  obtain ⟨t,x⟩:=q
  simp only [lft,unl]
  rw [if_pos (by omega),ih,Nat.add_sub_cancel]
theorem yze (i:Nat) (fr:Fr):fcut i (lft fr)=lft (fcut i fr):=by
 induction fr with
 |nil=>rfl
 |cons q r ih=>obtain ⟨t,x⟩:=q;simp only [lft,fcut,ih]
attribute [go_sem] y2y yze
theorem ynw {p:List (Int×Int)} (h:yl0 p) {i:Nat} (hi:i<p.length): -1125899906842624<=(p.getD i (0,0)).2/\(p.getD i (0,0)).2<=1125899906842624:=h _ (by simp [hi])
end Go.Proofs.YtmdjdekgakidhaaDoor
set_option linter.unusedSimpArgs false
set_option linter.unusedVariables false
namespace Go.Proofs.YtmdjdekgakidhaaDoor
open Go Go.RowKit
set_option maxHeartbeats 8000000
set_option maxRecDepth 100000
theorem Wk.app {F A fr:Fr} {H H':Hp} (hA:subF F H' A) (hH:subH H H' H') (hfr: ∀t,fget fr t= .any\/s3 H' (fget fr t)=true) (h2: ∀t,1000000<=t->fget F t=fget (lft fr) t) (hl:A.all (fun q=>decide (q.1<1000000))=true):Wk F H (A++lft fr) H':=by
 have hf: ∀t,fget (A++lft fr) t= .any\/(fget (A++lft fr) t=fget F t/\s3 H' (fget (A++lft fr) t)=true):=by
  intro t
  have key: ∀(A:Fr),subF F H' A->A.all (fun q=>decide (q.1<1000000))=true->fget (A++lft fr) t= .any\/(fget (A++lft fr) t=fget F t/\s3 H' (fget (A++lft fr) t)=true):=by
   intro A
   induction A with
   |nil=>
    intro _ _
    rw [List.nil_append]
    rcases Nat.lt_or_ge t 1000000 with h|h
    ·left;rw [yb7,if_neg (by omega)]
    ·have e:=h2 t h
     rw [←e]
     rw [yb7,if_pos h] at e
     rcases hfr (t-1000000) with g|g
     ·left;rw [e];exact g
     ·right;exact ⟨rfl,by rw [e];exact g⟩
   |cons q A ih=>
    intro h1 h3
    obtain ⟨t',x⟩:=q
    obtain ⟨g1,g2,g3⟩:=h1
    simp only [List.all_cons,Bool.and_eq_true] at h3
    rw [List.cons_append]
    simp only [fget]
    split
    ·rename_i e;subst e;right;exact ⟨g1.symm,g2⟩
    ·exact ih g3 h3.2
  exact key A hA hl
 intro B w0 Mx N w ρ a hs
 refine ⟨ρ,(hs.weaken (fun id o ho=>(yfz hH id o ho).1) (fun t=>(hf t).imp id (·.1)) (fun id o ho M hr=>?_) (fun t M v hv=>?_))⟩
 ·have hso:=(yfz hH id o ho).2
  cases o with
  |gone=>trivial
  |cells t c=>
   obtain ⟨k1,arr,k2,k3,k4⟩:=hr
   refine ⟨k1,arr,k2,k3,fun j hj=>?_⟩
   obtain ⟨u,hu,hv⟩:=k4 j hj
   refine ⟨u,hu,?_⟩
   cases c with
   |ints l=>exact hv.pure1 rfl
   |bools l=>exact hv.pure1 rfl
   |lst l=>
    simp only [Cs.len] at hj
    simp only [Cs.get,List.getD_eq_getElem?_getD,List.getElem?_eq_getElem hj,Option.getD_some] at hv⊢
    exact hv.sc3 (List.all_eq_true.1 hso _ (List.getElem_mem hj))
  |gmap t ck l=>
   obtain ⟨es,k1,k2,k3⟩:=hr
   exact ⟨es,k1,k2,fun j e q he hl=>let ⟨g1,g2,g3⟩:=k3 j e q he hl;⟨g1,g2,g3.sc3 (List.all_eq_true.1 hso q (List.mem_of_getElem? hl))⟩⟩
  |iter mid s sn la=>
   obtain ⟨_,k2,k3⟩:=hr
   exact ⟨Option.isSome_iff_exists.1 hso,k2,k3⟩
  |imap t l=>
   obtain ⟨k0,es,ck,k1,k2,k3⟩:=hr
   exact ⟨k0,es,ck,k1,k2,fun j e k x he hl=>let ⟨g1,g2,g3⟩:=k3 j e k x he hl;⟨g1,g2.sc3 (List.all_eq_true.1 hso (k,x) (List.mem_of_getElem? hl)),g3⟩⟩
  |fmap t c=>exact hr
 ·rcases hf t with e|⟨_,e⟩
  ·rw [e];exact .any _
  ·exact hv.sc3 e
def wdC (zs:List Int):List AV:=zs.flatMap fun z=>[.int .u64 (z/18446744073709551616 % 18446744073709551616), .int .u64 (z % 18446744073709551616)]
theorem yr8 (p:List Int):(wdC p).length=2*p.length:=by
 unfold wdC;induction p with
 |nil=>rfl
 |cons x p ih=>simp [ih];omega
theorem ypz (p:List Int) (i:Nat) (h:i<p.length):(wdC p).getD (i*2) .any= .int .u64 (p.getD i 0/18446744073709551616 % 18446744073709551616):=by
 unfold wdC;induction p generalizing i with
 |nil=>simp at h
 |cons x p ih=>
  cases i with
  |zero=>simp
  |succ i=>
   have:=ih i (by simpa using h)
   simp only [List.flatMap_cons,List.getD_cons_succ]
   rw [show (i+1)*2=i*2+1+1 by omega]
   simpa using this
theorem yp0 (p:List Int) (i:Nat) (h:i<p.length):(wdC p).getD (i*2+1) .any= .int .u64 (p.getD i 0 % 18446744073709551616):=by
 unfold wdC;induction p generalizing i with
 |nil=>simp at h
 |cons x p ih=>
  cases i with
  |zero=>simp
  |succ i=>
   have:=ih i (by simpa using h)
   simp only [List.flatMap_cons,List.getD_cons_succ]
   rw [show (i+1)*2+1=i*2+1+1+1 by omega]
   simpa using this
theorem y2z (p:List Int) (i:Nat) (z:Int):((wdC p).set (i*2) (.int .u64 (z/18446744073709551616 % 18446744073709551616))).set (i*2+1) (.int .u64 (z % 18446744073709551616))=wdC (p.set i z):=by
 unfold wdC;induction p generalizing i with
 |nil=>simp
 |cons x p ih=>
  cases i with
  |zero=>simp
  |succ i=>
   have:=ih i
   simp only [List.flatMap_cons,List.set_cons_succ,List.cons_append,List.nil_append]
   rw [show (i+1)*2+1=i*2+1+1+1 by omega,show (i+1)*2=i*2+1+1 by omega]
   simp only [List.set_cons_succ]
   rw [this]
theorem yzf (n:Nat):(List.replicate n [AV.int .u64 0,AV.int .u64 0]).flatten=wdC (List.replicate n 0):=by
 unfold wdC;induction n with
 |zero=>rfl
 |succ n ih=>simp [List.replicate_succ,ih]
theorem yr9 {p:List Int} {x:AV} (h:x∈wdC p): ∃n,x= .int .u64 n:=by
 simp only [wdC,List.mem_flatMap] at h
 obtain ⟨z,_,h⟩:=h
 simp at h
 rcases h with rfl|rfl<;>exact ⟨_,rfl⟩
theorem y43 (H:Hp) (p:List Int):(wdC p).all (s3 H)=true:=List.all_eq_true.2 fun x hx=>by obtain ⟨n,rfl⟩:=yr9 hx;rfl
attribute [go_sem] y43
theorem yv5 (p:List (Int×Int)) (h:0<p.length):Fn Tryd.prog 30 [plA false p] (I (p.getD 0 (0,0)).1):=by
 have hc:=ycg p
 have e:=yec p 0 h
 rw [Nat.zero_mul] at e
 have b0:((p.length:Int)==0)=false:=by rw [beq_eq_false_iff_ne];omega
 refine Fn.intro [.tmp 2] Tryd.func30 rfl rfl (by decide) (by simp [Tryd.ntmps30]) ?_;rw [Tryd.ntmps30]
 repeat' (first|omega|(try apply yaa);simp only [go_sem,sevalprocAttr,b0,e,hc]|apply yae<;>(intro h_;(try simp only [h_]);revert h_)|apply yad|apply yab|apply gspI|apply And.intro|with_reducible intro h_|trivial|simp only [go_sem,la2];omega)
theorem ysa (p:List (Int×Int)) (h:0<p.length) (hp:p.length<=1000000):Fn Tryd.prog 31 [plA false p] (I (p.getD (p.length-1) (0,0)).1):=by
 have hc:=ycg p
 have e:=yec p (p.length-1) (by omega)
 have b0:((p.length:Int)==0)=false:=by rw [beq_eq_false_iff_ne];omega
 have e1:((p.length:Int)-1).toNat=p.length-1:=by omega
 refine Fn.intro [.tmp 2] Tryd.func31 rfl rfl (by decide) (by simp [Tryd.ntmps31]) ?_;rw [Tryd.ntmps31]
 repeat' (first|omega|(try apply yaa);simp only [go_sem,sevalprocAttr,b0,e,e1,hc]|apply yae<;>(intro h_;(try simp only [h_]);revert h_)|apply yad|apply yab|apply gspI|apply And.intro|with_reducible intro h_|trivial|simp only [go_sem,la2];omega)
abbrev mulH (p q:List (Int×Int)) (low:Int) (N:Nat) (zs:List Int):Hp:=[(15, .cells 76 (.lst [.sl 2 14 0 N])),(14, .cells 80 (.lst (wdC zs))),(13, .cells 3 (.lst [I low])),(2, .cells 28 (.lst [.bool false, .nils])),(1, .cells 28 (.lst [.bool false,tmA q])),(0, .cells 28 (.lst [.bool false,tmA p]))]
end Go.Proofs.YtmdjdekgakidhaaDoor
