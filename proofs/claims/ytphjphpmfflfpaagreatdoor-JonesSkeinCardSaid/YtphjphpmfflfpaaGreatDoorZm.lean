/- Layer 12: integers of 128 bits: sums and negatives. -/
import Derived.Shelf.Spec.BitsCarry
import Derived.WalkKit
import Derived.BigCall
import Derived.Laws.Rows
import Derived.Lib.SmallJoins
import Derived.Test.YtphjphpmfflfpaaGreatDoorSh
import Derived.Test.YtphjphpmfflfpaaGreatDoorTy
import Derived.Test.YtphjphpmfflfpaaGreatDoorZc
import Derived.Test.YtphjphpmfflfpaaGreatDoorZd
set_option linter.unusedSimpArgs false
set_option linter.unusedVariables false
namespace Go.Proofs.YtphjphpmfflfpaaGreatDoor
open Go Go.RowKit Go.Shelf Go.Joins
set_option maxHeartbeats 4000000
set_option maxRecDepth 100000
def Q3:Ren:=⟨fun|25=>124|26=>187|n=>n,fun|22=>79|n=>n,fun|n=>n⟩
theorem Mh:Lays7.n25 Tryz.prog Q3:={mixed:=by kernel_rfl,f25:=Tryz.func124.trans (congrArg some (by kernel_rfl)),t22:=Tryz.underlying79,a22:=Tryz.isAgg79,z22:=Tryz.sizeOf79,v22:=Tryz.zeroValue79,i22:=by kernel_rfl}
theorem J9:Lays7.n26 Tryz.prog Q3:={mixed:=by kernel_rfl,f26:=Tryz.func187.trans (congrArg some (by kernel_rfl)),t22:=Tryz.underlying79,a22:=Tryz.isAgg79,z22:=Tryz.sizeOf79,v22:=Tryz.zeroValue79,i22:=by kernel_rfl}
theorem M3 (x y c:Nat) (hc:c<=1) (w:World):(callFunc 124 #[.int .u64 x, .int .u64 y, .int .u64 c]).run Tryz.prog w=
   .ok (.value (.tuple #[.int .u64 (((x+y+c)% 18446744073709551616:Nat):Int), .int .u64 (((x+y+c)/18446744073709551616:Nat):Int)])) w:=Any7.bits_Add64 Mh x y c hc w
theorem M1 (x y c:Nat) (hc:c<=1) (w:World):(callFunc 187 #[.int .u64 x, .int .u64 y, .int .u64 c]).run Tryz.prog w=
   .ok (.value (.tuple #[.int .u64 (((x+18446744073709551616-y-c)% 18446744073709551616:Nat):Int), .int .u64 ((if x<y+c then 1 else 0:Nat):Int)])) w:=Any7.bits_Sub64 J9 x y c hc w
theorem VL (x y:Nat) (w:World):(callFunc 124 #[.int .u64 x, .int .u64 y, .int .u64 0]).run Tryz.prog w=
   .ok (.value (.tuple #[.int .u64 (((x+y)% 18446744073709551616:Nat):Int), .int .u64 (((x+y)/18446744073709551616:Nat):Int)])) w:=M3 x y 0 (by omega) w
theorem VK (y:Nat) (w:World):(callFunc 187 #[.int .u64 0, .int .u64 y, .int .u64 0]).run Tryz.prog w=
   .ok (.value (.tuple #[.int .u64 (((0+18446744073709551616-y)% 18446744073709551616:Nat):Int), .int .u64 ((if 0<y then 1 else 0:Nat):Int)])) w:=M1 0 y 0 (by omega) w
theorem VJ (y c:Nat) (hc:c<=1) (w:World):(callFunc 187 #[.int .u64 0, .int .u64 y, .int .u64 c]).run Tryz.prog w=
   .ok (.value (.tuple #[.int .u64 (((0+18446744073709551616-y-c)% 18446744073709551616:Nat):Int), .int .u64 ((if 0<y+c then 1 else 0:Nat):Int)])) w:=M1 0 y c hc w
theorem Zj (w:World) (o1 o2 o3:Obj):(((w.alloc o1).alloc o2).alloc o3).heap[w.heap.size+1+1]?=some o3:=by
 have h:=heap_alloc_new ((w.alloc o1).alloc o2) o3;rw [show ((w.alloc o1).alloc o2).heap.size=w.heap.size+1+1 by simp] at h;exact h
theorem Zk (w:World) (o1 o2:Obj):((w.alloc o1).alloc o2).heap[w.heap.size+1]?=some o2:=by
 have h:=heap_alloc_new (w.alloc o1) o2;rw [show (w.alloc o1).heap.size=w.heap.size+1 by simp] at h;exact h
theorem WZ (a b c d:Nat) (hb:b<18446744073709551616) (hd:d<18446744073709551616) (w:World):Calls Tryz.prog 64 #[.agg #[.int .u64 a, .int .u64 b], .agg #[.int .u64 c, .int .u64 d]] w fun e w'=>
  e= .returned (.agg #[.int .u64 (((a+c+(b+d)/18446744073709551616)% 18446744073709551616:Nat):Int), .int .u64 (((b+d)% 18446744073709551616:Nat):Int)])/\Below w.heap.size w w':=by
 obtain ⟨lo,kx⟩: ∃lo,lo=(b+d)% 18446744073709551616:=⟨_,rfl⟩;obtain ⟨cy,sq⟩: ∃cy,cy=(b+d)/18446744073709551616:=⟨_,rfl⟩;obtain ⟨hi,vP⟩: ∃hi,hi=(a+c+cy)% 18446744073709551616:=⟨_,rfl⟩;obtain ⟨cz,xD⟩: ∃cz,cz=(a+c+cy)/18446744073709551616:=⟨_,rfl⟩
 have r1: ∀w,(callFunc 124 #[.int .u64 b, .int .u64 d, .int .u64 0]).run Tryz.prog w= .ok (.value (.tuple #[.int .u64 lo, .int .u64 cy])) w:=fun w=>by rw [kx,sq];exact VL b d w
 have r2: ∀w,(callFunc 124 #[.int .u64 a, .int .u64 c, .int .u64 cy]).run Tryz.prog w= .ok (.value (.tuple #[.int .u64 hi, .int .u64 cz])) w:=fun w=>by rw [vP,xD];exact M3 a c cy (by omega) w
 rw [←kx,←sq,←vP];clear kx sq vP xD
 go_enter Tryz.func64,Tryz.ntmps64
 go_wp2_with (simp only [r1,r2])
 refine ⟨rfl, .agg #[.int .u64 hi, .int .u64 lo],?_,rfl,below_alloc3 _ _ _ _⟩;exact results_cell_row (fn:=Tryz.f64) rfl _ _ (w.heap.size+1+1) 81 #[.int .u64 hi, .int .u64 lo] (0,0) _ rfl (Zj _ _ _ _) Tryz.underlying81 rfl (by kernel_rfl)
theorem WY (a b:Nat) (ha:a<18446744073709551616) (hb:b<18446744073709551616) (w:World):Calls Tryz.prog 167 #[.agg #[.int .u64 a, .int .u64 b]] w fun e w'=>
  e= .returned (.agg #[.int .u64 (((18446744073709551616-a-(if 0<b then 1 else 0))% 18446744073709551616:Nat):Int), .int .u64 (((18446744073709551616-b)% 18446744073709551616:Nat):Int)])/\Below w.heap.size w w':=by
 obtain ⟨lo,kx⟩: ∃lo,lo=(18446744073709551616-b)% 18446744073709551616:=⟨_,rfl⟩;obtain ⟨cy,sq⟩: ∃cy,cy=(if 0<b then 1 else 0:Nat):=⟨_,rfl⟩;have gm:cy<=1:=by rw [sq];split<;>omega
 obtain ⟨hi,vP⟩: ∃hi,hi=(18446744073709551616-a-cy)% 18446744073709551616:=⟨_,rfl⟩;obtain ⟨cz,xD⟩: ∃cz,cz=(if 0<a+cy then 1 else 0:Nat):=⟨_,rfl⟩;have r1: ∀w,(callFunc 187 #[.int .u64 0, .int .u64 b, .int .u64 0]).run Tryz.prog w= .ok (.value (.tuple #[.int .u64 lo, .int .u64 cy])) w:=fun w=>by
  rw [kx,sq];have:=VK b w;rw [Nat.zero_add] at this;exact this
 have r2: ∀w,(callFunc 187 #[.int .u64 0, .int .u64 a, .int .u64 cy]).run Tryz.prog w= .ok (.value (.tuple #[.int .u64 hi, .int .u64 cz])) w:=fun w=>by
  rw [vP,xD];have:=VJ a cy gm w;rw [Nat.zero_add] at this;exact this
 rw [←kx,←sq,←vP];clear kx sq vP xD gm
 go_enter Tryz.func167,Tryz.ntmps167
 go_wp2_with (simp only [r1,r2])
 refine ⟨rfl, .agg #[.int .u64 hi, .int .u64 lo],?_,rfl,below_alloc2 _ _ _⟩;exact results_cell_row (fn:=Tryz.f167) rfl _ _ (w.heap.size+1) 81 #[.int .u64 hi, .int .u64 lo] (0,0) _ rfl (Zk _ _ _) Tryz.underlying81 rfl (by kernel_rfl)
abbrev wdA (z:Int):AV:= .agg [.int .u64 (z/18446744073709551616 % 18446744073709551616), .int .u64 (z % 18446744073709551616)]
attribute [go_sem] wdA
theorem Gj {w:World} {M:Nat->Prop} {ρ:Nat->Addr} {D:Nat->Prop} {v:Value} {z:Int} (h:VR w M ρ D v (wdA z)): ∃a b:Nat,v= .agg #[.int .u64 a, .int .u64 b]/\(a:Int)=z/18446744073709551616 % 18446744073709551616/\(b:Int)=z % 18446744073709551616:=by
 obtain ⟨vs,rfl,hl,hx⟩:=h.aQ
 match vs,hl,hx with
 |[v0,v1],_,hx=>
  have e0:=(hx 0 v0 _ rfl rfl).aq;have e1:=(hx 1 v1 _ rfl rfl).aq;subst e0 e1;refine ⟨(z/18446744073709551616 % 18446744073709551616).toNat,(z % 18446744073709551616).toNat,?_,by omega,by omega⟩;rw [Int.toNat_of_nonneg (by omega),Int.toNat_of_nonneg (by omega)]
theorem Qp {w:World} {M:Nat->Prop} {ρ:Nat->Addr} {D:Nat->Prop} {z:Int} {a b:Nat} (h1:(a:Int)=z/18446744073709551616 % 18446744073709551616) (h2:(b:Int)=z % 18446744073709551616):VR w M ρ D (.agg #[.int .u64 a, .int .u64 b]) (wdA z):=by
 refine .agg [.int .u64 a, .int .u64 b] _ rfl fun i u x hu hx=>?_
 match i,hu,hx with
 |0,hu,hx=>cases hu;cases hx;rw [h1];exact .int _ _
 |1,hu,hx=>cases hu;cases hx;rw [h2];exact .int _ _
theorem U9 (x y:Int):Fn Tryz.prog 64 [wdA x,wdA y] (wdA (x+y)):=by
 refine ⟨⟨_,Tryz.func64,rfl,by decide⟩,fun w Mx vs gn hl hv=>?_⟩
 match vs,hl,hv with
 |[v0,v1],_,hv=>
  obtain ⟨a,b,rfl,e1,e2⟩:=Gj (hv 0 v0 _ rfl rfl);obtain ⟨c,d,rfl,e3,e4⟩:=Gj (hv 1 v1 _ rfl rfl);refine (WZ a b c d (by omega) (by omega) w).mono ?_;rintro e w' ⟨rfl,hb⟩;exact ⟨_,rfl,hb,Qp (by omega) (by omega)⟩
theorem MZ (x:Int):Fn Tryz.prog 167 [wdA x] (wdA (-x)):=by
 refine ⟨⟨_,Tryz.func167,rfl,by decide⟩,fun w Mx vs gn hl hv=>?_⟩
 match vs,hl,hv with
 |[v0],_,hv=>
  obtain ⟨a,b,rfl,e1,e2⟩:=Gj (hv 0 v0 _ rfl rfl);refine (WY a b (by omega) (by omega) w).mono ?_;rintro e w' ⟨rfl,hb⟩;refine ⟨_,rfl,hb,Qp ?_ (by omega)⟩
  split<;>omega
end Go.Proofs.YtphjphpmfflfpaaGreatDoor
namespace Go.Proofs.YtphjphpmfflfpaaGreatDoor
open Go Go.RowKit
set_option maxHeartbeats 4000000
set_option maxRecDepth 100000
theorem Q2 (x:Int) (h0: -4611686018427387904<=x) (h1:x<=4611686018427387904):Fn Tryz.prog 166 [I x] (.int .u64 (if x<0 then-x else x)):=by
 by_cases h:x<0
 ·have b0:decide (x<0)=true:=by simpa using h
  have e1:IntKind.u64.wrap (0-IntKind.u64.wrap x)= -x:=by rw [IntKind.wrap_u64,IntKind.wrap_u64];omega
  rw [if_pos h];refine Fn.intro [.tmp 2] Tryz.func166 rfl rfl (by decide) (by simp [Tryz.ntmps166]) ?_;rw [Tryz.ntmps166]
  repeat' (first|omega|(try apply aj);simp only [go_sem,sevalprocAttr,b0,e1]|apply ag<;>(intro h_;(try simp only [h_]);revert h_)|apply ah|apply ai|apply ae|apply And.intro|with_reducible intro h_|trivial|simp only [go_sem,ak];omega)
 ·have b0:decide (x<0)=false:=by simpa using h
  have e1:IntKind.u64.wrap x=x:=by rw [IntKind.wrap_u64];omega
  rw [if_neg h];refine Fn.intro [.tmp 2] Tryz.func166 rfl rfl (by decide) (by simp [Tryz.ntmps166]) ?_;rw [Tryz.ntmps166]
  repeat' (first|omega|(try apply aj);simp only [go_sem,sevalprocAttr,b0,e1]|apply ag<;>(intro h_;(try simp only [h_]);revert h_)|apply ah|apply ai|apply ae|apply And.intro|with_reducible intro h_|trivial|simp only [go_sem,ak];omega)
theorem VI (a b:Nat) (ha:a<18446744073709551616) (hb:b<18446744073709551616):Fn Tryz.prog 165 [.int .u64 a, .int .u64 b] (.tup [.int .u64 ((a*b/18446744073709551616:Nat):Int), .int .u64 ((a*b % 18446744073709551616:Nat):Int)]):=by
 refine ⟨⟨_,Tryz.func165,rfl,by decide⟩,fun w Mx vs gn hl hv=>?_⟩
 match vs,hl,hv with
 |[v0,v1],_,hv=>
  have e0:=(hv 0 v0 _ rfl rfl).aq;have e1:=(hv 1 v1 _ rfl rfl).aq;subst e0 e1;refine (Tryz.bits_Mul64 a b ha hb w).mono ?_;rintro e w' ⟨rfl,rfl⟩;refine ⟨_,rfl,Below.refl _ _, .tup [.int .u64 _, .int .u64 _] _ rfl fun i u x hu hx=>?_⟩
  match i,hu,hx with
  |0,hu,hx=>cases hu;cases hx;exact .int _ _
  |1,hu,hx=>cases hu;cases hx;exact .int _ _
theorem S6 (x y:Int) (h0: -4611686018427387904<=x) (h1:x<=4611686018427387904) (h2: -4611686018427387904<=y) (h3:y<=4611686018427387904):Fn Tryz.prog 123 [I x,I y] (wdA (x*y)):=by
 have m1:=Q2 x h0 h1;have m2:=Q2 y h2 h3;obtain ⟨a,ha⟩: ∃a:Nat,(if x<0 then-x else x)=a:=⟨(if x<0 then-x else x).toNat,by split<;>omega⟩;obtain ⟨b,hb⟩: ∃b:Nat,(if y<0 then-y else y)=b:=⟨(if y<0 then-y else y).toNat,by split<;>omega⟩;rw [ha] at m1;rw [hb] at m2;have fh:a<=4611686018427387904:=by split at ha<;>omega
 have YC:b<=4611686018427387904:=by split at hb<;>omega
 have hM:=VI a b (by omega) (by omega);have xj:a*b<=4611686018427387904*4611686018427387904:=Nat.mul_le_mul fh YC;have e1:((a*b/18446744073709551616:Nat):Int)=((a*b:Nat):Int)/18446744073709551616 % 18446744073709551616:=by omega
 have e2:((a*b % 18446744073709551616:Nat):Int)=((a*b:Nat):Int)% 18446744073709551616:=by omega
 rw [e1,e2] at hM;have hN:=MZ ((a*b:Nat):Int);have oQ:x*y=if decide (x<0)=decide (y<0) then ((a*b:Nat):Int) else-((a*b:Nat):Int):=by
  rw [Int.natCast_mul,←ha,←hb];by_cases c1:x<0<;>by_cases c2:y<0<;>simp [c1,c2,Int.neg_mul,Int.mul_neg]
 obtain ⟨p,hp⟩: ∃p:Int,p=((a*b:Nat):Int):=⟨_,rfl⟩;rw [←hp] at hM hN oQ;clear e1 e2;by_cases hc:decide (x<0)=decide (y<0)
 ·rw [if_pos hc] at oQ;have b0:(decide (x<0)!=decide (y<0))=false:=by rw [hc];simp
  rw [oQ];refine Fn.au [.cell 4 81] Tryz.func123 rfl rfl (by decide) (by simp [Tryz.ntmps123]) ?_;rw [Tryz.ntmps123]
  repeat' (first|omega|(try apply aj);simp only [go_sem,sevalprocAttr]|apply ag<;>(intro h_;(try simp only [h_]);revert h_)|apply ah|apply ai|apply ae|apply And.intro|with_reducible intro h_|trivial|simp only [go_sem,ak];omega)
  refine ⟨az.fn rfl m1 ?_⟩
  repeat' (first|omega|(try apply aj);simp only [go_sem,sevalprocAttr]|apply ag<;>(intro h_;(try simp only [h_]);revert h_)|apply ah|apply ai|apply ae|apply And.intro|with_reducible intro h_|trivial|simp only [go_sem,ak];omega)
  refine ⟨az.fn rfl m2 ?_⟩
  repeat' (first|omega|(try apply aj);simp only [go_sem,sevalprocAttr]|apply ag<;>(intro h_;(try simp only [h_]);revert h_)|apply ah|apply ai|apply ae|apply And.intro|with_reducible intro h_|trivial|simp only [go_sem,ak];omega)
  refine ⟨az.fn rfl hM ?_⟩
  repeat' (first|omega|(try apply aj);simp only [go_sem,sevalprocAttr,b0]|apply ag<;>(intro h_;(try simp only [h_]);revert h_)|apply ah|apply ai|apply ae|apply And.intro|with_reducible intro h_|trivial|simp only [go_sem,ak];omega)
  all_goals exact aM.refl _
 ·rw [if_neg hc] at oQ;have b0:(decide (x<0)!=decide (y<0))=true:=by simpa [bne] using hc
  rw [oQ];refine Fn.au [.cell 4 81] Tryz.func123 rfl rfl (by decide) (by simp [Tryz.ntmps123]) ?_;rw [Tryz.ntmps123]
  repeat' (first|omega|(try apply aj);simp only [go_sem,sevalprocAttr]|apply ag<;>(intro h_;(try simp only [h_]);revert h_)|apply ah|apply ai|apply ae|apply And.intro|with_reducible intro h_|trivial|simp only [go_sem,ak];omega)
  refine ⟨az.fn rfl m1 ?_⟩
  repeat' (first|omega|(try apply aj);simp only [go_sem,sevalprocAttr]|apply ag<;>(intro h_;(try simp only [h_]);revert h_)|apply ah|apply ai|apply ae|apply And.intro|with_reducible intro h_|trivial|simp only [go_sem,ak];omega)
  refine ⟨az.fn rfl m2 ?_⟩
  repeat' (first|omega|(try apply aj);simp only [go_sem,sevalprocAttr]|apply ag<;>(intro h_;(try simp only [h_]);revert h_)|apply ah|apply ai|apply ae|apply And.intro|with_reducible intro h_|trivial|simp only [go_sem,ak];omega)
  refine ⟨az.fn rfl hM ?_⟩
  repeat' (first|omega|(try apply aj);simp only [go_sem,sevalprocAttr,b0]|apply ag<;>(intro h_;(try simp only [h_]);revert h_)|apply ah|apply ai|apply ae|apply And.intro|with_reducible intro h_|trivial|simp only [go_sem,ak];omega)
  refine ⟨az.fn rfl hN ?_⟩
  repeat' (first|omega|(try apply aj);simp only [go_sem,sevalprocAttr]|apply ag<;>(intro h_;(try simp only [h_]);revert h_)|apply ah|apply ai|apply ae|apply And.intro|with_reducible intro h_|trivial|simp only [go_sem,ak];omega)
  all_goals exact aM.refl _
theorem VH (z:Int) (h0: -170141183460469231731687303715884105728<=z) (h1:z<170141183460469231731687303715884105728):Fn Tryz.prog 125 [wdA z] (.tup [wdA (if z<0 then-z else z), .bool (decide (z<0))]):=by
 have hN:=MZ z;by_cases h:z<0
 ·have b0:(z/18446744073709551616 % 18446744073709551616/2^(63:Int).toNat==1)=true:=by
   rw [show (2:Int)^(63:Int).toNat=9223372036854775808 by decide,beq_iff_eq];omega
  have b1:decide (z<0)=true:=by simpa using h
  rw [if_pos h,b1];refine Fn.au [.cell 2 81, .tmp 3] Tryz.func125 rfl rfl (by decide) (by simp [Tryz.ntmps125]) ?_;rw [Tryz.ntmps125]
  repeat' (first|omega|(try apply aj);simp only [go_sem,sevalprocAttr,b0]|apply ag<;>(intro h_;(try simp only [h_]);revert h_)|apply ah|apply ai|apply ae|apply And.intro|with_reducible intro h_|trivial|simp only [go_sem,ak];omega)
  refine ⟨az.fn rfl hN ?_⟩
  repeat' (first|omega|(try apply aj);simp only [go_sem,sevalprocAttr]|apply ag<;>(intro h_;(try simp only [h_]);revert h_)|apply ah|apply ai|apply ae|apply And.intro|with_reducible intro h_|trivial|simp only [go_sem,ak];omega)
  all_goals exact aM.refl _
 ·have b0:(z/18446744073709551616 % 18446744073709551616/2^(63:Int).toNat==1)=false:=by
   rw [show (2:Int)^(63:Int).toNat=9223372036854775808 by decide,beq_eq_false_iff_ne];omega
  have b1:decide (z<0)=false:=by simpa using h
  rw [if_neg h,b1];refine Fn.au [.cell 2 81, .tmp 3] Tryz.func125 rfl rfl (by decide) (by simp [Tryz.ntmps125]) ?_;rw [Tryz.ntmps125]
  repeat' (first|omega|(try apply aj);simp only [go_sem,sevalprocAttr,b0]|apply ag<;>(intro h_;(try simp only [h_]);revert h_)|apply ah|apply ai|apply ae|apply And.intro|with_reducible intro h_|trivial|simp only [go_sem,ak];omega)
  all_goals exact aM.refl _
theorem VG (z:Int) (h0: -1125899906842624<=z) (h1:z<=1125899906842624):Fn Tryz.prog 65 [wdA z] (.tup [I z, .bool true]):=by
 have hS:=VH z (by omega) (by omega);have b0:((if z<0 then-z else z)/18446744073709551616 % 18446744073709551616 !=0)=false:=by
  simp only [bne_eq_false_iff_eq];split<;>omega
 have e1:(if z<0 then-z else z)% 18446744073709551616=if z<0 then-z else z:=by split<;>omega
 obtain ⟨u,hu⟩: ∃u,u=(if z<0 then-z else z):=⟨_,rfl⟩;rw [←hu] at hS b0 e1;have u0:0<=u/\u<=1125899906842624:=by rw [hu];split<;>omega
 have b1:decide (1125899906842624<u)=false:=by simp;omega
 have e2:IntKind.i64.wrap u=u:=O7 (by unfold InI;omega);by_cases h:z<0
 ·have b2:decide (z<0)=true:=by simpa using h
  rw [b2] at hS;have e3:0-u=z:=by rw [hu,if_pos h];omega
  refine Fn.au [.tmp 2, .tmp 3] Tryz.func65 rfl rfl (by decide) (by simp [Tryz.ntmps65]) ?_;rw [Tryz.ntmps65]
  repeat' (first|omega|(try apply aj);simp only [go_sem,sevalprocAttr]|apply ag<;>(intro h_;(try simp only [h_]);revert h_)|apply ah|apply ai|apply ae|apply And.intro|with_reducible intro h_|trivial|simp only [go_sem,ak];omega)
  refine ⟨az.fn rfl hS ?_⟩
  repeat' (first|omega|(try apply aj);simp only [go_sem,sevalprocAttr,b0,b1,e1,e2]|apply ag<;>(intro h_;(try simp only [h_]);revert h_)|apply ah|apply ai|apply ae|apply And.intro|with_reducible intro h_|trivial|simp only [go_sem,ak];omega)
  all_goals (first|omega|exact aM.of (by rw [e3]))
 ·have b2:decide (z<0)=false:=by simpa using h
  rw [b2] at hS;have e3:u=z:=by rw [hu,if_neg h]
  refine Fn.au [.tmp 2, .tmp 3] Tryz.func65 rfl rfl (by decide) (by simp [Tryz.ntmps65]) ?_;rw [Tryz.ntmps65]
  repeat' (first|omega|(try apply aj);simp only [go_sem,sevalprocAttr]|apply ag<;>(intro h_;(try simp only [h_]);revert h_)|apply ah|apply ai|apply ae|apply And.intro|with_reducible intro h_|trivial|simp only [go_sem,ak];omega)
  refine ⟨az.fn rfl hS ?_⟩
  repeat' (first|omega|(try apply aj);simp only [go_sem,sevalprocAttr,b0,b1,e1,e2]|apply ag<;>(intro h_;(try simp only [h_]);revert h_)|apply ah|apply ai|apply ae|apply And.intro|with_reducible intro h_|trivial|simp only [go_sem,ak];omega)
  all_goals (first|omega|exact aM.of (by rw [e3]))
set_option maxHeartbeats 8000000
theorem Wk.app {F A fr:Fr} {H H':Hp} (hA:subF F H' A) (hH:subH H H' H') (c7: ∀t,fget fr t= .any\/s3 H' (fget fr t)=true) (h2: ∀t,1000000<=t->fget F t=fget (lft fr) t) (hl:A.all (fun q=>decide (q.1<1000000))=true):Wk F H (A++lft fr) H':=by
 have hf: ∀t,fget (A++lft fr) t= .any\/(fget (A++lft fr) t=fget F t/\s3 H' (fget (A++lft fr) t)=true):=by
  intro t;have key: ∀(A:Fr),subF F H' A->A.all (fun q=>decide (q.1<1000000))=true->fget (A++lft fr) t= .any\/(fget (A++lft fr) t=fget F t/\s3 H' (fget (A++lft fr) t)=true):=by
   intro A
   induction A with
   |nil=>
    intro _ _;rw [List.nil_append];rcases Nat.lt_or_ge t 1000000 with h|h
    ·left;rw [s7,if_neg (by omega)]
    ·have e:=h2 t h;rw [←e];rw [s7,if_pos h] at e;rcases c7 (t-1000000) with g|g
     ·left;rw [e];exact g
     ·right;exact ⟨rfl,by rw [e];exact g⟩
   |cons q A ih=>
    intro h1 h3;obtain ⟨t',x⟩:=q;obtain ⟨g1,g2,g3⟩:=h1;simp only [List.all_cons,Bool.and_eq_true] at h3;rw [List.cons_append];simp only [fget]
    split
    ·rename_i e;subst e;right;exact ⟨g1.symm,g2⟩
    ·exact ih g3 h3.2
  exact key A hA hl
 intro B w0 Mx N w ρ a hs;refine ⟨ρ,(hs.weaken (fun id o ho=>(yI hH id o ho).1) (fun t=>(hf t).imp id (·.1)) (fun id o ho M hr=>?_) (fun t M v hv=>?_))⟩
 ·have iR:=(yI hH id o ho).2;cases o with
  |gone=>trivial
  |cells t c=>
   obtain ⟨k1,arr,k2,k3,k4⟩:=hr;refine ⟨k1,arr,k2,k3,fun j hj=>?_⟩;obtain ⟨u,hu,hv⟩:=k4 j hj;refine ⟨u,hu,?_⟩;cases c with
   |ints l=>exact hv.aY rfl
   |bools l=>exact hv.aY rfl
   |lst l=>
    simp only [Cs.len] at hj;simp only [Cs.get,List.getD_eq_getElem?_getD,List.getElem?_eq_getElem hj,Option.getD_some] at hv⊢;exact hv.mK (List.all_eq_true.1 iR _ (List.getElem_mem hj))
  |gmap t ck l=>
   obtain ⟨es,k1,k2,k3⟩:=hr;exact ⟨es,k1,k2,fun j e q he hl=>let ⟨g1,g2,g3⟩:=k3 j e q he hl;⟨g1,g2,g3.mK (List.all_eq_true.1 iR q (List.mem_of_getElem? hl))⟩⟩
  |iter mid s sn la=>
   obtain ⟨_,k2,k3⟩:=hr;exact ⟨Option.isSome_iff_exists.1 iR,k2,k3⟩
  |imap t l=>
   obtain ⟨k0,es,ck,k1,k2,k3⟩:=hr;exact ⟨k0,es,ck,k1,k2,fun j e k x he hl=>let ⟨g1,g2,g3⟩:=k3 j e k x he hl;⟨g1,g2.mK (List.all_eq_true.1 iR (k,x) (List.mem_of_getElem? hl)),g3⟩⟩
  |fmap t c=>exact hr
 ·rcases hf t with e|⟨_,e⟩
  ·rw [e];exact .any _
  ·exact hv.mK e
def kL (zs:List Int):List AV:=zs.flatMap fun z=>[.int .u64 (z/18446744073709551616 % 18446744073709551616), .int .u64 (z % 18446744073709551616)]
theorem MY (p:List Int):(kL p).length=2*p.length:=by
 unfold kL;induction p with
 |nil=>rfl
 |cons x p ih=>simp [ih];omega
theorem Ol (p:List Int) (i:Nat) (h:i<p.length):(kL p).getD (i*2) .any= .int .u64 (p.getD i 0/18446744073709551616 % 18446744073709551616):=by
 unfold kL;induction p generalizing i with
 |nil=>simp at h
 |cons x p ih=>
  cases i with
  |zero=>simp
  |succ i=>
   have:=ih i (by simpa using h)
   simp only [List.flatMap_cons,List.getD_cons_succ];rw [show (i+1)*2=i*2+1+1 by omega];simpa using this
theorem Ok (p:List Int) (i:Nat) (h:i<p.length):(kL p).getD (i*2+1) .any= .int .u64 (p.getD i 0 % 18446744073709551616):=by
 unfold kL;induction p generalizing i with
 |nil=>simp at h
 |cons x p ih=>
  cases i with
  |zero=>simp
  |succ i=>
   have:=ih i (by simpa using h)
   simp only [List.flatMap_cons,List.getD_cons_succ];rw [show (i+1)*2+1=i*2+1+1+1 by omega];simpa using this
theorem U8 (p:List Int) (i:Nat) (z:Int):((kL p).set (i*2) (.int .u64 (z/18446744073709551616 % 18446744073709551616))).set (i*2+1) (.int .u64 (z % 18446744073709551616))=kL (p.set i z):=by
 unfold kL;induction p generalizing i with
 |nil=>simp
 |cons x p ih=>
  cases i with
  |zero=>simp
  |succ i=>
   have:=ih i
   simp only [List.flatMap_cons,List.set_cons_succ,List.cons_append,List.nil_append];rw [show (i+1)*2+1=i*2+1+1+1 by omega,show (i+1)*2=i*2+1+1 by omega];simp only [List.set_cons_succ];rw [this]
theorem VF (n:Nat):(List.replicate n [AV.int .u64 0,AV.int .u64 0]).flatten=kL (List.replicate n 0):=by
 unfold kL;induction n with
 |zero=>rfl
 |succ n ih=>simp [List.replicate_succ,ih]
theorem MX {p:List Int} {x:AV} (h:x∈kL p): ∃n,x= .int .u64 n:=by
 simp only [kL,List.mem_flatMap] at h;obtain ⟨z,_,h⟩:=h;simp at h;rcases h with rfl|rfl<;>exact ⟨_,rfl⟩
theorem yabq (H:Hp) (p:List Int):(kL p).all (s3 H)=true:=List.all_eq_true.2 fun x hx=>by obtain ⟨n,rfl⟩:=MX hx;rfl
attribute [go_sem] yabq
theorem Gi (p:List (Int×Int)) (h:0<p.length):Fn Tryz.prog 51 [plA false p] (I (p.getD 0 (0,0)).1):=by
 have hc:=ybu p;have e:=oF p 0 h;rw [Nat.zero_mul] at e;have b0:((p.length:Int)==0)=false:=by rw [beq_eq_false_iff_ne];omega
 refine Fn.intro [.tmp 2] Tryz.func51 rfl rfl (by decide) (by simp [Tryz.ntmps51]) ?_;rw [Tryz.ntmps51]
 repeat' (first|omega|(try apply aj);simp only [go_sem,sevalprocAttr,b0,e,hc]|apply ag<;>(intro h_;(try simp only [h_]);revert h_)|apply ah|apply ai|apply ae|apply And.intro|with_reducible intro h_|trivial|simp only [go_sem,ak];omega)
theorem GO (p:List (Int×Int)) (h:0<p.length) (hp:p.length<=1000000):Fn Tryz.prog 52 [plA false p] (I (p.getD (p.length-1) (0,0)).1):=by
 have hc:=ybu p;have e:=oF p (p.length-1) (by omega);have b0:((p.length:Int)==0)=false:=by rw [beq_eq_false_iff_ne];omega
 have e1:((p.length:Int)-1).toNat=p.length-1:=by omega
 refine Fn.intro [.tmp 2] Tryz.func52 rfl rfl (by decide) (by simp [Tryz.ntmps52]) ?_;rw [Tryz.ntmps52]
 repeat' (first|omega|(try apply aj);simp only [go_sem,sevalprocAttr,b0,e,e1,hc]|apply ag<;>(intro h_;(try simp only [h_]);revert h_)|apply ah|apply ai|apply ae|apply And.intro|with_reducible intro h_|trivial|simp only [go_sem,ak];omega)
abbrev rD (p q:List (Int×Int)) (low:Int) (N:Nat) (zs:List Int):Hp:=[(15, .cells 77 (.lst [.sl 2 14 0 N])),(14, .cells 81 (.lst (kL zs))),(13, .cells 3 (.lst [I low])),(2, .cells 29 (.lst [.bool false, .nils])),(1, .cells 29 (.lst [.bool false,tmA q])),(0, .cells 29 (.lst [.bool false,tmA p]))]
end Go.Proofs.YtphjphpmfflfpaaGreatDoor
