/- Layer 12: integers of 128 bits: sums and negatives. -/
import Derived.Shelf.Spec.BitsCarry
import Derived.WalkKit
import Derived.BigCall
import Derived.Laws.Rows
import Derived.Lib.SmallJoins
import Derived.Test.YtjpnnnognoaaiaaGreatDoorSh
import Derived.Test.YtjpnnnognoaaiaaGreatDoorTy
import Derived.Test.YtjpnnnognoaaiaaGreatDoorZb
set_option linter.unusedSimpArgs false
set_option linter.unusedVariables false
namespace Go.Proofs.YtjpnnnognoaaiaaGreatDoor
open Go Go.RowKit Go.Shelf Go.Joins
set_option maxHeartbeats 4000000
set_option maxRecDepth 100000
def yyt:Ren:=⟨fun|25=>116|26=>171|n=>n,fun|22=>76|n=>n,fun|n=>n⟩
theorem addL:Lays7.n25 Tryz.prog yyt:={mixed:=by kernel_rfl,f25:=Tryz.func116.trans (congrArg some (by kernel_rfl)),t22:=Tryz.underlying76,a22:=Tryz.isAgg76,z22:=Tryz.sizeOf76,v22:=Tryz.zeroValue76,i22:=by kernel_rfl}
theorem subL:Lays7.n26 Tryz.prog yyt:={mixed:=by kernel_rfl,f26:=Tryz.func171.trans (congrArg some (by kernel_rfl)),t22:=Tryz.underlying76,a22:=Tryz.isAgg76,z22:=Tryz.sizeOf76,v22:=Tryz.zeroValue76,i22:=by kernel_rfl}
theorem ytt (x y c:Nat) (hc:c<=1) (w:World):(callFunc 116 #[.int .u64 x, .int .u64 y, .int .u64 c]).run Tryz.prog w=
   .ok (.value (.tuple #[.int .u64 (((x+y+c)% 18446744073709551616:Nat):Int), .int .u64 (((x+y+c)/18446744073709551616:Nat):Int)])) w:=Any7.bits_Add64 addL x y c hc w
theorem ytu (x y c:Nat) (hc:c<=1) (w:World):(callFunc 171 #[.int .u64 x, .int .u64 y, .int .u64 c]).run Tryz.prog w=
   .ok (.value (.tuple #[.int .u64 (((x+18446744073709551616-y-c)% 18446744073709551616:Nat):Int), .int .u64 ((if x<y+c then 1 else 0:Nat):Int)])) w:=Any7.bits_Sub64 subL x y c hc w
theorem y2i (x y:Nat) (w:World):(callFunc 116 #[.int .u64 x, .int .u64 y, .int .u64 0]).run Tryz.prog w=
   .ok (.value (.tuple #[.int .u64 (((x+y)% 18446744073709551616:Nat):Int), .int .u64 (((x+y)/18446744073709551616:Nat):Int)])) w:=ytt x y 0 (by omega) w
theorem y2j (y:Nat) (w:World):(callFunc 171 #[.int .u64 0, .int .u64 y, .int .u64 0]).run Tryz.prog w=
   .ok (.value (.tuple #[.int .u64 (((0+18446744073709551616-y)% 18446744073709551616:Nat):Int), .int .u64 ((if 0<y then 1 else 0:Nat):Int)])) w:=ytu 0 y 0 (by omega) w
theorem y2k (y c:Nat) (hc:c<=1) (w:World):(callFunc 171 #[.int .u64 0, .int .u64 y, .int .u64 c]).run Tryz.prog w=
   .ok (.value (.tuple #[.int .u64 (((0+18446744073709551616-y-c)% 18446744073709551616:Nat):Int), .int .u64 ((if 0<y+c then 1 else 0:Nat):Int)])) w:=ytu 0 y c hc w
theorem al3 (w:World) (o1 o2 o3:Obj):(((w.alloc o1).alloc o2).alloc o3).heap[w.heap.size+1+1]?=some o3:=by
 have h:=heap_alloc_new ((w.alloc o1).alloc o2) o3
 rw [show ((w.alloc o1).alloc o2).heap.size=w.heap.size+1+1 by simp] at h
 exact h
theorem al2 (w:World) (o1 o2:Obj):((w.alloc o1).alloc o2).heap[w.heap.size+1]?=some o2:=by
 have h:=heap_alloc_new (w.alloc o1) o2
 rw [show (w.alloc o1).heap.size=w.heap.size+1 by simp] at h
 exact h
theorem yyu (a b c d:Nat) (hb:b<18446744073709551616) (hd:d<18446744073709551616) (w:World):Calls Tryz.prog 57 #[.agg #[.int .u64 a, .int .u64 b], .agg #[.int .u64 c, .int .u64 d]] w fun e w'=>
  e= .returned (.agg #[.int .u64 (((a+c+(b+d)/18446744073709551616)% 18446744073709551616:Nat):Int), .int .u64 (((b+d)% 18446744073709551616:Nat):Int)])/\Below w.heap.size w w':=by
 obtain ⟨lo,hlo⟩: ∃lo,lo=(b+d)% 18446744073709551616:=⟨_,rfl⟩
 obtain ⟨cy,hcy⟩: ∃cy,cy=(b+d)/18446744073709551616:=⟨_,rfl⟩
 obtain ⟨hi,hhi⟩: ∃hi,hi=(a+c+cy)% 18446744073709551616:=⟨_,rfl⟩
 obtain ⟨cz,hcz⟩: ∃cz,cz=(a+c+cy)/18446744073709551616:=⟨_,rfl⟩
 have r1: ∀w,(callFunc 116 #[.int .u64 b, .int .u64 d, .int .u64 0]).run Tryz.prog w= .ok (.value (.tuple #[.int .u64 lo, .int .u64 cy])) w:=fun w=>by rw [hlo,hcy];exact y2i b d w
 have r2: ∀w,(callFunc 116 #[.int .u64 a, .int .u64 c, .int .u64 cy]).run Tryz.prog w= .ok (.value (.tuple #[.int .u64 hi, .int .u64 cz])) w:=fun w=>by rw [hhi,hcz];exact ytt a c cy (by omega) w
 rw [←hlo,←hcy,←hhi]
 clear hlo hcy hhi hcz
 go_enter Tryz.func57,Tryz.ntmps57
 go_wp2_with (simp only [r1,r2])
 refine ⟨rfl, .agg #[.int .u64 hi, .int .u64 lo],?_,rfl,below_alloc3 _ _ _ _⟩
 exact results_cell_row (fn:=Tryz.f57) rfl _ _ (w.heap.size+1+1) 78 #[.int .u64 hi, .int .u64 lo] (0,0) _ rfl (al3 _ _ _ _) Tryz.underlying78 rfl (by kernel_rfl)
theorem yyv (a b:Nat) (ha:a<18446744073709551616) (hb:b<18446744073709551616) (w:World):Calls Tryz.prog 153 #[.agg #[.int .u64 a, .int .u64 b]] w fun e w'=>
  e= .returned (.agg #[.int .u64 (((18446744073709551616-a-(if 0<b then 1 else 0))% 18446744073709551616:Nat):Int), .int .u64 (((18446744073709551616-b)% 18446744073709551616:Nat):Int)])/\Below w.heap.size w w':=by
 obtain ⟨lo,hlo⟩: ∃lo,lo=(18446744073709551616-b)% 18446744073709551616:=⟨_,rfl⟩
 obtain ⟨cy,hcy⟩: ∃cy,cy=(if 0<b then 1 else 0:Nat):=⟨_,rfl⟩
 have hc1:cy<=1:=by rw [hcy];split<;>omega
 obtain ⟨hi,hhi⟩: ∃hi,hi=(18446744073709551616-a-cy)% 18446744073709551616:=⟨_,rfl⟩
 obtain ⟨cz,hcz⟩: ∃cz,cz=(if 0<a+cy then 1 else 0:Nat):=⟨_,rfl⟩
 have r1: ∀w,(callFunc 171 #[.int .u64 0, .int .u64 b, .int .u64 0]).run Tryz.prog w= .ok (.value (.tuple #[.int .u64 lo, .int .u64 cy])) w:=fun w=>by
  rw [hlo,hcy];have:=y2j b w;rw [Nat.zero_add] at this;exact this
 have r2: ∀w,(callFunc 171 #[.int .u64 0, .int .u64 a, .int .u64 cy]).run Tryz.prog w= .ok (.value (.tuple #[.int .u64 hi, .int .u64 cz])) w:=fun w=>by
  rw [hhi,hcz];have:=y2k a cy hc1 w;rw [Nat.zero_add] at this;exact this
 rw [←hlo,←hcy,←hhi]
 clear hlo hcy hhi hcz hc1
 go_enter Tryz.func153,Tryz.ntmps153
 go_wp2_with (simp only [r1,r2])
 refine ⟨rfl, .agg #[.int .u64 hi, .int .u64 lo],?_,rfl,below_alloc2 _ _ _⟩
 exact results_cell_row (fn:=Tryz.f153) rfl _ _ (w.heap.size+1) 78 #[.int .u64 hi, .int .u64 lo] (0,0) _ rfl (al2 _ _ _) Tryz.underlying78 rfl (by kernel_rfl)
abbrev wdA (z:Int):AV:= .agg [.int .u64 (z/18446744073709551616 % 18446744073709551616), .int .u64 (z % 18446744073709551616)]
attribute [go_sem] wdA
theorem yq1 {w:World} {M:Nat->Prop} {ρ:Nat->Addr} {D:Nat->Prop} {v:Value} {z:Int} (h:VR w M ρ D v (wdA z)): ∃a b:Nat,v= .agg #[.int .u64 a, .int .u64 b]/\(a:Int)=z/18446744073709551616 % 18446744073709551616/\(b:Int)=z % 18446744073709551616:=by
 obtain ⟨vs,rfl,hl,hx⟩:=h.agg_inv
 match vs,hl,hx with
 |[v0,v1],_,hx=>
  have e0:=(hx 0 v0 _ rfl rfl).int_inv
  have e1:=(hx 1 v1 _ rfl rfl).int_inv
  subst e0 e1
  refine ⟨(z/18446744073709551616 % 18446744073709551616).toNat,(z % 18446744073709551616).toNat,?_,by omega,by omega⟩
  rw [Int.toNat_of_nonneg (by omega),Int.toNat_of_nonneg (by omega)]
theorem y28 {w:World} {M:Nat->Prop} {ρ:Nat->Addr} {D:Nat->Prop} {z:Int} {a b:Nat} (h1:(a:Int)=z/18446744073709551616 % 18446744073709551616) (h2:(b:Int)=z % 18446744073709551616):VR w M ρ D (.agg #[.int .u64 a, .int .u64 b]) (wdA z):=by
 refine .agg [.int .u64 a, .int .u64 b] _ rfl fun i u x hu hx=>?_
 match i,hu,hx with
 |0,hu,hx=>cases hu;cases hx;rw [h1];exact .int _ _
 |1,hu,hx=>cases hu;cases hx;rw [h2];exact .int _ _
theorem y50 (x y:Int):Fn Tryz.prog 57 [wdA x,wdA y] (wdA (x+y)):=by
 refine ⟨⟨_,Tryz.func57,rfl,by decide⟩,fun w Mx vs hMx hl hv=>?_⟩
 match vs,hl,hv with
 |[v0,v1],_,hv=>
  obtain ⟨a,b,rfl,e1,e2⟩:=yq1 (hv 0 v0 _ rfl rfl)
  obtain ⟨c,d,rfl,e3,e4⟩:=yq1 (hv 1 v1 _ rfl rfl)
  refine (yyu a b c d (by omega) (by omega) w).mono ?_
  rintro e w' ⟨rfl,hb⟩
  exact ⟨_,rfl,hb,y28 (by omega) (by omega)⟩
theorem ytv (x:Int):Fn Tryz.prog 153 [wdA x] (wdA (-x)):=by
 refine ⟨⟨_,Tryz.func153,rfl,by decide⟩,fun w Mx vs hMx hl hv=>?_⟩
 match vs,hl,hv with
 |[v0],_,hv=>
  obtain ⟨a,b,rfl,e1,e2⟩:=yq1 (hv 0 v0 _ rfl rfl)
  refine (yyv a b (by omega) (by omega) w).mono ?_
  rintro e w' ⟨rfl,hb⟩
  refine ⟨_,rfl,hb,y28 ?_ (by omega)⟩
  split<;>omega
end Go.Proofs.YtjpnnnognoaaiaaGreatDoor
set_option linter.unusedSimpArgs false
set_option linter.unusedVariables false
namespace Go.Proofs.YtjpnnnognoaaiaaGreatDoor
open Go Go.RowKit
set_option maxHeartbeats 4000000
set_option maxRecDepth 100000
theorem yyw (x:Int) (h0: -4611686018427387904<=x) (h1:x<=4611686018427387904):Fn Tryz.prog 152 [I x] (.int .u64 (if x<0 then-x else x)):=by
 by_cases h:x<0
 ·have b0:decide (x<0)=true:=by simpa using h
  have e1:IntKind.u64.wrap (0-IntKind.u64.wrap x)= -x:=by rw [IntKind.wrap_u64,IntKind.wrap_u64];omega
  rw [if_pos h]
  refine Fn.intro [.tmp 2] Tryz.func152 rfl rfl (by decide) (by simp [Tryz.ntmps152]) ?_;rw [Tryz.ntmps152]
  repeat' (first|omega|(try apply yaa);simp only [go_sem,sevalprocAttr,b0,e1]|apply yab<;>(intro h_;(try simp only [h_]);revert h_)|apply And.intro|with_reducible intro h_|trivial|simp only [go_sem,la2];omega)
 ·have b0:decide (x<0)=false:=by simpa using h
  have e1:IntKind.u64.wrap x=x:=by rw [IntKind.wrap_u64];omega
  rw [if_neg h]
  refine Fn.intro [.tmp 2] Tryz.func152 rfl rfl (by decide) (by simp [Tryz.ntmps152]) ?_;rw [Tryz.ntmps152]
  repeat' (first|omega|(try apply yaa);simp only [go_sem,sevalprocAttr,b0,e1]|apply yab<;>(intro h_;(try simp only [h_]);revert h_)|apply And.intro|with_reducible intro h_|trivial|simp only [go_sem,la2];omega)
theorem y2l (a b:Nat) (ha:a<18446744073709551616) (hb:b<18446744073709551616):Fn Tryz.prog 151 [.int .u64 a, .int .u64 b] (.tup [.int .u64 ((a*b/18446744073709551616:Nat):Int), .int .u64 ((a*b % 18446744073709551616:Nat):Int)]):=by
 refine ⟨⟨_,Tryz.func151,rfl,by decide⟩,fun w Mx vs hMx hl hv=>?_⟩
 match vs,hl,hv with
 |[v0,v1],_,hv=>
  have e0:=(hv 0 v0 _ rfl rfl).int_inv
  have e1:=(hv 1 v1 _ rfl rfl).int_inv
  subst e0 e1
  refine (Tryz.bits_Mul64 a b ha hb w).mono ?_
  rintro e w' ⟨rfl,rfl⟩
  refine ⟨_,rfl,Below.refl _ _, .tup [.int .u64 _, .int .u64 _] _ rfl fun i u x hu hx=>?_⟩
  match i,hu,hx with
  |0,hu,hx=>cases hu;cases hx;exact .int _ _
  |1,hu,hx=>cases hu;cases hx;exact .int _ _
theorem yvw (x y:Int) (h0: -4611686018427387904<=x) (h1:x<=4611686018427387904) (h2: -4611686018427387904<=y) (h3:y<=4611686018427387904):Fn Tryz.prog 115 [I x,I y] (wdA (x*y)):=by
 have m1:=yyw x h0 h1
 have m2:=yyw y h2 h3
 obtain ⟨a,ha⟩: ∃a:Nat,(if x<0 then-x else x)=a:=⟨(if x<0 then-x else x).toNat,by split<;>omega⟩
 obtain ⟨b,hb⟩: ∃b:Nat,(if y<0 then-y else y)=b:=⟨(if y<0 then-y else y).toNat,by split<;>omega⟩
 rw [ha] at m1
 rw [hb] at m2
 have hab:a<=4611686018427387904:=by split at ha<;>omega
 have hbb:b<=4611686018427387904:=by split at hb<;>omega
 have hM:=y2l a b (by omega) (by omega)
 have hpb:a*b<=4611686018427387904*4611686018427387904:=Nat.mul_le_mul hab hbb
 have e1:((a*b/18446744073709551616:Nat):Int)=((a*b:Nat):Int)/18446744073709551616 % 18446744073709551616:=by omega
 have e2:((a*b % 18446744073709551616:Nat):Int)=((a*b:Nat):Int)% 18446744073709551616:=by omega
 rw [e1,e2] at hM
 have hN:=ytv ((a*b:Nat):Int)
 have hxy:x*y=if decide (x<0)=decide (y<0) then ((a*b:Nat):Int) else-((a*b:Nat):Int):=by
  rw [Int.natCast_mul,←ha,←hb]
  by_cases c1:x<0<;>by_cases c2:y<0<;>simp [c1,c2,Int.neg_mul,Int.mul_neg]
 obtain ⟨p,hp⟩: ∃p:Int,p=((a*b:Nat):Int):=⟨_,rfl⟩
 rw [←hp] at hM hN hxy
 clear e1 e2
 by_cases hc:decide (x<0)=decide (y<0)
 ·rw [if_pos hc] at hxy
  have b0:(decide (x<0)!=decide (y<0))=false:=by rw [hc];simp
  rw [hxy]
  refine Fn.introL [.cell 4 78] Tryz.func115 rfl rfl (by decide) (by simp [Tryz.ntmps115]) ?_;rw [Tryz.ntmps115]
  repeat' (first|omega|(try apply yaa);simp only [go_sem,sevalprocAttr]|apply yab<;>(intro h_;(try simp only [h_]);revert h_)|apply And.intro|with_reducible intro h_|trivial|simp only [go_sem,la2];omega)
  refine ⟨yad.fn rfl m1 ?_⟩
  repeat' (first|omega|(try apply yaa);simp only [go_sem,sevalprocAttr]|apply yab<;>(intro h_;(try simp only [h_]);revert h_)|apply And.intro|with_reducible intro h_|trivial|simp only [go_sem,la2];omega)
  refine ⟨yad.fn rfl m2 ?_⟩
  repeat' (first|omega|(try apply yaa);simp only [go_sem,sevalprocAttr]|apply yab<;>(intro h_;(try simp only [h_]);revert h_)|apply And.intro|with_reducible intro h_|trivial|simp only [go_sem,la2];omega)
  refine ⟨yad.fn rfl hM ?_⟩
  repeat' (first|omega|(try apply yaa);simp only [go_sem,sevalprocAttr,b0]|apply yab<;>(intro h_;(try simp only [h_]);revert h_)|apply And.intro|with_reducible intro h_|trivial|simp only [go_sem,la2];omega)
  all_goals exact LeA.refl _
 ·rw [if_neg hc] at hxy
  have b0:(decide (x<0)!=decide (y<0))=true:=by simpa [bne] using hc
  rw [hxy]
  refine Fn.introL [.cell 4 78] Tryz.func115 rfl rfl (by decide) (by simp [Tryz.ntmps115]) ?_;rw [Tryz.ntmps115]
  repeat' (first|omega|(try apply yaa);simp only [go_sem,sevalprocAttr]|apply yab<;>(intro h_;(try simp only [h_]);revert h_)|apply And.intro|with_reducible intro h_|trivial|simp only [go_sem,la2];omega)
  refine ⟨yad.fn rfl m1 ?_⟩
  repeat' (first|omega|(try apply yaa);simp only [go_sem,sevalprocAttr]|apply yab<;>(intro h_;(try simp only [h_]);revert h_)|apply And.intro|with_reducible intro h_|trivial|simp only [go_sem,la2];omega)
  refine ⟨yad.fn rfl m2 ?_⟩
  repeat' (first|omega|(try apply yaa);simp only [go_sem,sevalprocAttr]|apply yab<;>(intro h_;(try simp only [h_]);revert h_)|apply And.intro|with_reducible intro h_|trivial|simp only [go_sem,la2];omega)
  refine ⟨yad.fn rfl hM ?_⟩
  repeat' (first|omega|(try apply yaa);simp only [go_sem,sevalprocAttr,b0]|apply yab<;>(intro h_;(try simp only [h_]);revert h_)|apply And.intro|with_reducible intro h_|trivial|simp only [go_sem,la2];omega)
  refine ⟨yad.fn rfl hN ?_⟩
  repeat' (first|omega|(try apply yaa);simp only [go_sem,sevalprocAttr]|apply yab<;>(intro h_;(try simp only [h_]);revert h_)|apply And.intro|with_reducible intro h_|trivial|simp only [go_sem,la2];omega)
  all_goals exact LeA.refl _
theorem y2m (z:Int) (h0: -170141183460469231731687303715884105728<=z) (h1:z<170141183460469231731687303715884105728):Fn Tryz.prog 117 [wdA z] (.tup [wdA (if z<0 then-z else z), .bool (decide (z<0))]):=by
 have hN:=ytv z
 by_cases h:z<0
 ·have b0:(z/18446744073709551616 % 18446744073709551616/2^(63:Int).toNat==1)=true:=by
   rw [show (2:Int)^(63:Int).toNat=9223372036854775808 by decide,beq_iff_eq];omega
  have b1:decide (z<0)=true:=by simpa using h
  rw [if_pos h,b1]
  refine Fn.introL [.cell 2 78, .tmp 3] Tryz.func117 rfl rfl (by decide) (by simp [Tryz.ntmps117]) ?_;rw [Tryz.ntmps117]
  repeat' (first|omega|(try apply yaa);simp only [go_sem,sevalprocAttr,b0]|apply yab<;>(intro h_;(try simp only [h_]);revert h_)|apply And.intro|with_reducible intro h_|trivial|simp only [go_sem,la2];omega)
  refine ⟨yad.fn rfl hN ?_⟩
  repeat' (first|omega|(try apply yaa);simp only [go_sem,sevalprocAttr]|apply yab<;>(intro h_;(try simp only [h_]);revert h_)|apply And.intro|with_reducible intro h_|trivial|simp only [go_sem,la2];omega)
  all_goals exact LeA.refl _
 ·have b0:(z/18446744073709551616 % 18446744073709551616/2^(63:Int).toNat==1)=false:=by
   rw [show (2:Int)^(63:Int).toNat=9223372036854775808 by decide,beq_eq_false_iff_ne];omega
  have b1:decide (z<0)=false:=by simpa using h
  rw [if_neg h,b1]
  refine Fn.introL [.cell 2 78, .tmp 3] Tryz.func117 rfl rfl (by decide) (by simp [Tryz.ntmps117]) ?_;rw [Tryz.ntmps117]
  repeat' (first|omega|(try apply yaa);simp only [go_sem,sevalprocAttr,b0]|apply yab<;>(intro h_;(try simp only [h_]);revert h_)|apply And.intro|with_reducible intro h_|trivial|simp only [go_sem,la2];omega)
  all_goals exact LeA.refl _
theorem y2n (z:Int) (h0: -1125899906842624<=z) (h1:z<=1125899906842624):Fn Tryz.prog 58 [wdA z] (.tup [I z, .bool true]):=by
 have hS:=y2m z (by omega) (by omega)
 have b0:((if z<0 then-z else z)/18446744073709551616 % 18446744073709551616 !=0)=false:=by
  simp only [bne_eq_false_iff_eq];split<;>omega
 have e1:(if z<0 then-z else z)% 18446744073709551616=if z<0 then-z else z:=by split<;>omega
 obtain ⟨u,hu⟩: ∃u,u=(if z<0 then-z else z):=⟨_,rfl⟩
 rw [←hu] at hS b0 e1
 have u0:0<=u/\u<=1125899906842624:=by rw [hu];split<;>omega
 have b1:decide (1125899906842624<u)=false:=by simp;omega
 have e2:IntKind.i64.wrap u=u:=ypt (by unfold InI;omega)
 by_cases h:z<0
 ·have b2:decide (z<0)=true:=by simpa using h
  rw [b2] at hS
  have e3:0-u=z:=by rw [hu,if_pos h];omega
  refine Fn.introL [.tmp 2, .tmp 3] Tryz.func58 rfl rfl (by decide) (by simp [Tryz.ntmps58]) ?_;rw [Tryz.ntmps58]
  repeat' (first|omega|(try apply yaa);simp only [go_sem,sevalprocAttr]|apply yab<;>(intro h_;(try simp only [h_]);revert h_)|apply And.intro|with_reducible intro h_|trivial|simp only [go_sem,la2];omega)
  refine ⟨yad.fn rfl hS ?_⟩
  repeat' (first|omega|(try apply yaa);simp only [go_sem,sevalprocAttr,b0,b1,e1,e2]|apply yab<;>(intro h_;(try simp only [h_]);revert h_)|apply And.intro|with_reducible intro h_|trivial|simp only [go_sem,la2];omega)
  all_goals (first|omega|exact LeA.of (by rw [e3]))
 ·have b2:decide (z<0)=false:=by simpa using h
  rw [b2] at hS
  have e3:u=z:=by rw [hu,if_neg h]
  refine Fn.introL [.tmp 2, .tmp 3] Tryz.func58 rfl rfl (by decide) (by simp [Tryz.ntmps58]) ?_;rw [Tryz.ntmps58]
  repeat' (first|omega|(try apply yaa);simp only [go_sem,sevalprocAttr]|apply yab<;>(intro h_;(try simp only [h_]);revert h_)|apply And.intro|with_reducible intro h_|trivial|simp only [go_sem,la2];omega)
  refine ⟨yad.fn rfl hS ?_⟩
  repeat' (first|omega|(try apply yaa);simp only [go_sem,sevalprocAttr,b0,b1,e1,e2]|apply yab<;>(intro h_;(try simp only [h_]);revert h_)|apply And.intro|with_reducible intro h_|trivial|simp only [go_sem,la2];omega)
  all_goals (first|omega|exact LeA.of (by rw [e3]))
end Go.Proofs.YtjpnnnognoaaiaaGreatDoor
