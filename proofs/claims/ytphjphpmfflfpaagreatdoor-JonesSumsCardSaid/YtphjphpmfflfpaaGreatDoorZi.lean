/- Layer 12: integers of 128 bits: sums and negatives. -/
import Derived.Shelf.Spec.BitsCarry
import Derived.WalkKit
import Derived.BigCall
import Derived.Laws.Rows
import Derived.Lib.SmallJoins
import Derived.Test.YtphjphpmfflfpaaGreatDoorSh
import Derived.Test.YtphjphpmfflfpaaGreatDoorTy
import Derived.Test.YtphjphpmfflfpaaGreatDoorZb
set_option linter.unusedSimpArgs false
set_option linter.unusedVariables false
namespace Go.Proofs.YtphjphpmfflfpaaGreatDoor
open Go Go.RowKit Go.Shelf Go.Joins
set_option maxHeartbeats 4000000
set_option maxRecDepth 100000
def Vw:Ren:=⟨fun|25=>124|26=>187|n=>n,fun|22=>79|n=>n,fun|n=>n⟩
theorem QX:Lays7.n25 Tryz.prog Vw:={mixed:=by kernel_rfl,f25:=Tryz.func124.trans (congrArg some (by kernel_rfl)),t22:=Tryz.underlying79,a22:=Tryz.isAgg79,z22:=Tryz.sizeOf79,v22:=Tryz.zeroValue79,i22:=by kernel_rfl}
theorem OV:Lays7.n26 Tryz.prog Vw:={mixed:=by kernel_rfl,f26:=Tryz.func187.trans (congrArg some (by kernel_rfl)),t22:=Tryz.underlying79,a22:=Tryz.isAgg79,z22:=Tryz.sizeOf79,v22:=Tryz.zeroValue79,i22:=by kernel_rfl}
theorem Re (x y c:Nat) (hc:c<=1) (w:World):(callFunc 124 #[.int .u64 x, .int .u64 y, .int .u64 c]).run Tryz.prog w=
   .ok (.value (.tuple #[.int .u64 (((x+y+c)% 18446744073709551616:Nat):Int), .int .u64 (((x+y+c)/18446744073709551616:Nat):Int)])) w:=Any7.bits_Add64 QX x y c hc w
theorem Rd (x y c:Nat) (hc:c<=1) (w:World):(callFunc 187 #[.int .u64 x, .int .u64 y, .int .u64 c]).run Tryz.prog w=
   .ok (.value (.tuple #[.int .u64 (((x+18446744073709551616-y-c)% 18446744073709551616:Nat):Int), .int .u64 ((if x<y+c then 1 else 0:Nat):Int)])) w:=Any7.bits_Sub64 OV x y c hc w
theorem Zp (x y:Nat) (w:World):(callFunc 124 #[.int .u64 x, .int .u64 y, .int .u64 0]).run Tryz.prog w=
   .ok (.value (.tuple #[.int .u64 (((x+y)% 18446744073709551616:Nat):Int), .int .u64 (((x+y)/18446744073709551616:Nat):Int)])) w:=Re x y 0 (by omega) w
theorem Zo (y:Nat) (w:World):(callFunc 187 #[.int .u64 0, .int .u64 y, .int .u64 0]).run Tryz.prog w=
   .ok (.value (.tuple #[.int .u64 (((0+18446744073709551616-y)% 18446744073709551616:Nat):Int), .int .u64 ((if 0<y then 1 else 0:Nat):Int)])) w:=Rd 0 y 0 (by omega) w
theorem Zn (y c:Nat) (hc:c<=1) (w:World):(callFunc 187 #[.int .u64 0, .int .u64 y, .int .u64 c]).run Tryz.prog w=
   .ok (.value (.tuple #[.int .u64 (((0+18446744073709551616-y-c)% 18446744073709551616:Nat):Int), .int .u64 ((if 0<y+c then 1 else 0:Nat):Int)])) w:=Rd 0 y c hc w
theorem al3 (w:World) (o1 o2 o3:Obj):(((w.alloc o1).alloc o2).alloc o3).heap[w.heap.size+1+1]?=some o3:=by
 have h:=heap_alloc_new ((w.alloc o1).alloc o2) o3;rw [show ((w.alloc o1).alloc o2).heap.size=w.heap.size+1+1 by simp] at h;exact h
theorem al2 (w:World) (o1 o2:Obj):((w.alloc o1).alloc o2).heap[w.heap.size+1]?=some o2:=by
 have h:=heap_alloc_new (w.alloc o1) o2;rw [show (w.alloc o1).heap.size=w.heap.size+1 by simp] at h;exact h
theorem y4s (a b c d:Nat) (hb:b<18446744073709551616) (hd:d<18446744073709551616) (w:World):Calls Tryz.prog 64 #[.agg #[.int .u64 a, .int .u64 b], .agg #[.int .u64 c, .int .u64 d]] w fun e w'=>
  e= .returned (.agg #[.int .u64 (((a+c+(b+d)/18446744073709551616)% 18446744073709551616:Nat):Int), .int .u64 (((b+d)% 18446744073709551616:Nat):Int)])/\Below w.heap.size w w':=by
 obtain ⟨lo,lN⟩: ∃lo,lo=(b+d)% 18446744073709551616:=⟨_,rfl⟩;obtain ⟨cy,rS⟩: ∃cy,cy=(b+d)/18446744073709551616:=⟨_,rfl⟩;obtain ⟨hi,yt⟩: ∃hi,hi=(a+c+cy)% 18446744073709551616:=⟨_,rfl⟩;obtain ⟨cz,Aq⟩: ∃cz,cz=(a+c+cy)/18446744073709551616:=⟨_,rfl⟩
 have r1: ∀w,(callFunc 124 #[.int .u64 b, .int .u64 d, .int .u64 0]).run Tryz.prog w= .ok (.value (.tuple #[.int .u64 lo, .int .u64 cy])) w:=fun w=>by rw [lN,rS];exact Zp b d w
 have r2: ∀w,(callFunc 124 #[.int .u64 a, .int .u64 c, .int .u64 cy]).run Tryz.prog w= .ok (.value (.tuple #[.int .u64 hi, .int .u64 cz])) w:=fun w=>by rw [yt,Aq];exact Re a c cy (by omega) w
 rw [←lN,←rS,←yt];clear lN rS yt Aq
 go_enter Tryz.func64,Tryz.ntmps64
 go_wp2_with (simp only [r1,r2])
 refine ⟨rfl, .agg #[.int .u64 hi, .int .u64 lo],?_,rfl,below_alloc3 _ _ _ _⟩;exact results_cell_row (fn:=Tryz.f64) rfl _ _ (w.heap.size+1+1) 81 #[.int .u64 hi, .int .u64 lo] (0,0) _ rfl (al3 _ _ _ _) Tryz.underlying81 rfl (by kernel_rfl)
theorem y4t (a b:Nat) (ha:a<18446744073709551616) (hb:b<18446744073709551616) (w:World):Calls Tryz.prog 167 #[.agg #[.int .u64 a, .int .u64 b]] w fun e w'=>
  e= .returned (.agg #[.int .u64 (((18446744073709551616-a-(if 0<b then 1 else 0))% 18446744073709551616:Nat):Int), .int .u64 (((18446744073709551616-b)% 18446744073709551616:Nat):Int)])/\Below w.heap.size w w':=by
 obtain ⟨lo,lN⟩: ∃lo,lo=(18446744073709551616-b)% 18446744073709551616:=⟨_,rfl⟩;obtain ⟨cy,rS⟩: ∃cy,cy=(if 0<b then 1 else 0:Nat):=⟨_,rfl⟩;have iA:cy<=1:=by rw [rS];split<;>omega
 obtain ⟨hi,yt⟩: ∃hi,hi=(18446744073709551616-a-cy)% 18446744073709551616:=⟨_,rfl⟩;obtain ⟨cz,Aq⟩: ∃cz,cz=(if 0<a+cy then 1 else 0:Nat):=⟨_,rfl⟩;have r1: ∀w,(callFunc 187 #[.int .u64 0, .int .u64 b, .int .u64 0]).run Tryz.prog w= .ok (.value (.tuple #[.int .u64 lo, .int .u64 cy])) w:=fun w=>by
  rw [lN,rS];have:=Zo b w;rw [Nat.zero_add] at this;exact this
 have r2: ∀w,(callFunc 187 #[.int .u64 0, .int .u64 a, .int .u64 cy]).run Tryz.prog w= .ok (.value (.tuple #[.int .u64 hi, .int .u64 cz])) w:=fun w=>by
  rw [yt,Aq];have:=Zn a cy iA w;rw [Nat.zero_add] at this;exact this
 rw [←lN,←rS,←yt];clear lN rS yt Aq iA
 go_enter Tryz.func167,Tryz.ntmps167
 go_wp2_with (simp only [r1,r2])
 refine ⟨rfl, .agg #[.int .u64 hi, .int .u64 lo],?_,rfl,below_alloc2 _ _ _⟩;exact results_cell_row (fn:=Tryz.f167) rfl _ _ (w.heap.size+1) 81 #[.int .u64 hi, .int .u64 lo] (0,0) _ rfl (al2 _ _ _) Tryz.underlying81 rfl (by kernel_rfl)
abbrev wdA (z:Int):AV:= .agg [.int .u64 (z/18446744073709551616 % 18446744073709551616), .int .u64 (z % 18446744073709551616)]
attribute [go_sem] wdA
theorem Jw {w:World} {M:Nat->Prop} {ρ:Nat->Addr} {D:Nat->Prop} {v:Value} {z:Int} (h:VR w M ρ D v (wdA z)): ∃a b:Nat,v= .agg #[.int .u64 a, .int .u64 b]/\(a:Int)=z/18446744073709551616 % 18446744073709551616/\(b:Int)=z % 18446744073709551616:=by
 obtain ⟨vs,rfl,hl,hx⟩:=h.bp
 match vs,hl,hx with
 |[v0,v1],_,hx=>
  have e0:=(hx 0 v0 _ rfl rfl).av;have e1:=(hx 1 v1 _ rfl rfl).av;subst e0 e1;refine ⟨(z/18446744073709551616 % 18446744073709551616).toNat,(z % 18446744073709551616).toNat,?_,by omega,by omega⟩;rw [Int.toNat_of_nonneg (by omega),Int.toNat_of_nonneg (by omega)]
theorem xG {w:World} {M:Nat->Prop} {ρ:Nat->Addr} {D:Nat->Prop} {z:Int} {a b:Nat} (h1:(a:Int)=z/18446744073709551616 % 18446744073709551616) (h2:(b:Int)=z % 18446744073709551616):VR w M ρ D (.agg #[.int .u64 a, .int .u64 b]) (wdA z):=by
 refine .agg [.int .u64 a, .int .u64 b] _ rfl fun i u x hu hx=>?_
 match i,hu,hx with
 |0,hu,hx=>cases hu;cases hx;rw [h1];exact .int _ _
 |1,hu,hx=>cases hu;cases hx;rw [h2];exact .int _ _
theorem Rc (x y:Int):Fn Tryz.prog 64 [wdA x,wdA y] (wdA (x+y)):=by
 refine ⟨⟨_,Tryz.func64,rfl,by decide⟩,fun w Mx vs fY hl hv=>?_⟩
 match vs,hl,hv with
 |[v0,v1],_,hv=>
  obtain ⟨a,b,rfl,e1,e2⟩:=Jw (hv 0 v0 _ rfl rfl);obtain ⟨c,d,rfl,e3,e4⟩:=Jw (hv 1 v1 _ rfl rfl);refine (y4s a b c d (by omega) (by omega) w).mono ?_;rintro e w' ⟨rfl,hb⟩;exact ⟨_,rfl,hb,xG (by omega) (by omega)⟩
theorem Rb (x:Int):Fn Tryz.prog 167 [wdA x] (wdA (-x)):=by
 refine ⟨⟨_,Tryz.func167,rfl,by decide⟩,fun w Mx vs fY hl hv=>?_⟩
 match vs,hl,hv with
 |[v0],_,hv=>
  obtain ⟨a,b,rfl,e1,e2⟩:=Jw (hv 0 v0 _ rfl rfl);refine (y4t a b (by omega) (by omega) w).mono ?_;rintro e w' ⟨rfl,hb⟩;refine ⟨_,rfl,hb,xG ?_ (by omega)⟩
  split<;>omega
end Go.Proofs.YtphjphpmfflfpaaGreatDoor
namespace Go.Proofs.YtphjphpmfflfpaaGreatDoor
open Go Go.RowKit
set_option maxHeartbeats 4000000
set_option maxRecDepth 100000
theorem Vv (x:Int) (h0: -4611686018427387904<=x) (h1:x<=4611686018427387904):Fn Tryz.prog 166 [I x] (.int .u64 (if x<0 then-x else x)):=by
 by_cases h:x<0
 ·have b0:decide (x<0)=true:=by simpa using h
  have e1:IntKind.u64.wrap (0-IntKind.u64.wrap x)= -x:=by rw [IntKind.wrap_u64,IntKind.wrap_u64];omega
  rw [if_pos h];refine Fn.intro [.tmp 2] Tryz.func166 rfl rfl (by decide) (by simp [Tryz.ntmps166]) ?_;rw [Tryz.ntmps166]
  repeat' (first|omega|(try apply ag);simp only [go_sem,sevalprocAttr,b0,e1]|apply ah<;>(intro h_;(try simp only [h_]);revert h_)|apply ai|apply aj|apply ae|apply And.intro|with_reducible intro h_|trivial|simp only [go_sem,ak];omega)
 ·have b0:decide (x<0)=false:=by simpa using h
  have e1:IntKind.u64.wrap x=x:=by rw [IntKind.wrap_u64];omega
  rw [if_neg h];refine Fn.intro [.tmp 2] Tryz.func166 rfl rfl (by decide) (by simp [Tryz.ntmps166]) ?_;rw [Tryz.ntmps166]
  repeat' (first|omega|(try apply ag);simp only [go_sem,sevalprocAttr,b0,e1]|apply ah<;>(intro h_;(try simp only [h_]);revert h_)|apply ai|apply aj|apply ae|apply And.intro|with_reducible intro h_|trivial|simp only [go_sem,ak];omega)
theorem Zm (a b:Nat) (ha:a<18446744073709551616) (hb:b<18446744073709551616):Fn Tryz.prog 165 [.int .u64 a, .int .u64 b] (.tup [.int .u64 ((a*b/18446744073709551616:Nat):Int), .int .u64 ((a*b % 18446744073709551616:Nat):Int)]):=by
 refine ⟨⟨_,Tryz.func165,rfl,by decide⟩,fun w Mx vs fY hl hv=>?_⟩
 match vs,hl,hv with
 |[v0,v1],_,hv=>
  have e0:=(hv 0 v0 _ rfl rfl).av;have e1:=(hv 1 v1 _ rfl rfl).av;subst e0 e1;refine (Tryz.bits_Mul64 a b ha hb w).mono ?_;rintro e w' ⟨rfl,rfl⟩;refine ⟨_,rfl,Below.refl _ _, .tup [.int .u64 _, .int .u64 _] _ rfl fun i u x hu hx=>?_⟩
  match i,hu,hx with
  |0,hu,hx=>cases hu;cases hx;exact .int _ _
  |1,hu,hx=>cases hu;cases hx;exact .int _ _
theorem y17 (x y:Int) (h0: -4611686018427387904<=x) (h1:x<=4611686018427387904) (h2: -4611686018427387904<=y) (h3:y<=4611686018427387904):Fn Tryz.prog 123 [I x,I y] (wdA (x*y)):=by
 have m1:=Vv x h0 h1;have m2:=Vv y h2 h3;obtain ⟨a,ha⟩: ∃a:Nat,(if x<0 then-x else x)=a:=⟨(if x<0 then-x else x).toNat,by split<;>omega⟩;obtain ⟨b,hb⟩: ∃b:Nat,(if y<0 then-y else y)=b:=⟨(if y<0 then-y else y).toNat,by split<;>omega⟩;rw [ha] at m1;rw [hb] at m2;have fC:a<=4611686018427387904:=by split at ha<;>omega
 have hbb:b<=4611686018427387904:=by split at hb<;>omega
 have hM:=Zm a b (by omega) (by omega);have zY:a*b<=4611686018427387904*4611686018427387904:=Nat.mul_le_mul fC hbb;have e1:((a*b/18446744073709551616:Nat):Int)=((a*b:Nat):Int)/18446744073709551616 % 18446744073709551616:=by omega
 have e2:((a*b % 18446744073709551616:Nat):Int)=((a*b:Nat):Int)% 18446744073709551616:=by omega
 rw [e1,e2] at hM;have hN:=Rb ((a*b:Nat):Int);have nS:x*y=if decide (x<0)=decide (y<0) then ((a*b:Nat):Int) else-((a*b:Nat):Int):=by
  rw [Int.natCast_mul,←ha,←hb];by_cases c1:x<0<;>by_cases c2:y<0<;>simp [c1,c2,Int.neg_mul,Int.mul_neg]
 obtain ⟨p,hp⟩: ∃p:Int,p=((a*b:Nat):Int):=⟨_,rfl⟩;rw [←hp] at hM hN nS;clear e1 e2;by_cases hc:decide (x<0)=decide (y<0)
 ·rw [if_pos hc] at nS;have b0:(decide (x<0)!=decide (y<0))=false:=by rw [hc];simp
  rw [nS];refine Fn.aq [.cell 4 81] Tryz.func123 rfl rfl (by decide) (by simp [Tryz.ntmps123]) ?_;rw [Tryz.ntmps123]
  repeat' (first|omega|(try apply ag);simp only [go_sem,sevalprocAttr]|apply ah<;>(intro h_;(try simp only [h_]);revert h_)|apply ai|apply aj|apply ae|apply And.intro|with_reducible intro h_|trivial|simp only [go_sem,ak];omega)
  refine ⟨aA.fn rfl m1 ?_⟩
  repeat' (first|omega|(try apply ag);simp only [go_sem,sevalprocAttr]|apply ah<;>(intro h_;(try simp only [h_]);revert h_)|apply ai|apply aj|apply ae|apply And.intro|with_reducible intro h_|trivial|simp only [go_sem,ak];omega)
  refine ⟨aA.fn rfl m2 ?_⟩
  repeat' (first|omega|(try apply ag);simp only [go_sem,sevalprocAttr]|apply ah<;>(intro h_;(try simp only [h_]);revert h_)|apply ai|apply aj|apply ae|apply And.intro|with_reducible intro h_|trivial|simp only [go_sem,ak];omega)
  refine ⟨aA.fn rfl hM ?_⟩
  repeat' (first|omega|(try apply ag);simp only [go_sem,sevalprocAttr,b0]|apply ah<;>(intro h_;(try simp only [h_]);revert h_)|apply ai|apply aj|apply ae|apply And.intro|with_reducible intro h_|trivial|simp only [go_sem,ak];omega)
  all_goals exact aR.refl _
 ·rw [if_neg hc] at nS;have b0:(decide (x<0)!=decide (y<0))=true:=by simpa [bne] using hc
  rw [nS];refine Fn.aq [.cell 4 81] Tryz.func123 rfl rfl (by decide) (by simp [Tryz.ntmps123]) ?_;rw [Tryz.ntmps123]
  repeat' (first|omega|(try apply ag);simp only [go_sem,sevalprocAttr]|apply ah<;>(intro h_;(try simp only [h_]);revert h_)|apply ai|apply aj|apply ae|apply And.intro|with_reducible intro h_|trivial|simp only [go_sem,ak];omega)
  refine ⟨aA.fn rfl m1 ?_⟩
  repeat' (first|omega|(try apply ag);simp only [go_sem,sevalprocAttr]|apply ah<;>(intro h_;(try simp only [h_]);revert h_)|apply ai|apply aj|apply ae|apply And.intro|with_reducible intro h_|trivial|simp only [go_sem,ak];omega)
  refine ⟨aA.fn rfl m2 ?_⟩
  repeat' (first|omega|(try apply ag);simp only [go_sem,sevalprocAttr]|apply ah<;>(intro h_;(try simp only [h_]);revert h_)|apply ai|apply aj|apply ae|apply And.intro|with_reducible intro h_|trivial|simp only [go_sem,ak];omega)
  refine ⟨aA.fn rfl hM ?_⟩
  repeat' (first|omega|(try apply ag);simp only [go_sem,sevalprocAttr,b0]|apply ah<;>(intro h_;(try simp only [h_]);revert h_)|apply ai|apply aj|apply ae|apply And.intro|with_reducible intro h_|trivial|simp only [go_sem,ak];omega)
  refine ⟨aA.fn rfl hN ?_⟩
  repeat' (first|omega|(try apply ag);simp only [go_sem,sevalprocAttr]|apply ah<;>(intro h_;(try simp only [h_]);revert h_)|apply ai|apply aj|apply ae|apply And.intro|with_reducible intro h_|trivial|simp only [go_sem,ak];omega)
  all_goals exact aR.refl _
theorem Zl (z:Int) (h0: -170141183460469231731687303715884105728<=z) (h1:z<170141183460469231731687303715884105728):Fn Tryz.prog 125 [wdA z] (.tup [wdA (if z<0 then-z else z), .bool (decide (z<0))]):=by
 have hN:=Rb z;by_cases h:z<0
 ·have b0:(z/18446744073709551616 % 18446744073709551616/2^(63:Int).toNat==1)=true:=by
   rw [show (2:Int)^(63:Int).toNat=9223372036854775808 by decide,beq_iff_eq];omega
  have b1:decide (z<0)=true:=by simpa using h
  rw [if_pos h,b1];refine Fn.aq [.cell 2 81, .tmp 3] Tryz.func125 rfl rfl (by decide) (by simp [Tryz.ntmps125]) ?_;rw [Tryz.ntmps125]
  repeat' (first|omega|(try apply ag);simp only [go_sem,sevalprocAttr,b0]|apply ah<;>(intro h_;(try simp only [h_]);revert h_)|apply ai|apply aj|apply ae|apply And.intro|with_reducible intro h_|trivial|simp only [go_sem,ak];omega)
  refine ⟨aA.fn rfl hN ?_⟩
  repeat' (first|omega|(try apply ag);simp only [go_sem,sevalprocAttr]|apply ah<;>(intro h_;(try simp only [h_]);revert h_)|apply ai|apply aj|apply ae|apply And.intro|with_reducible intro h_|trivial|simp only [go_sem,ak];omega)
  all_goals exact aR.refl _
 ·have b0:(z/18446744073709551616 % 18446744073709551616/2^(63:Int).toNat==1)=false:=by
   rw [show (2:Int)^(63:Int).toNat=9223372036854775808 by decide,beq_eq_false_iff_ne];omega
  have b1:decide (z<0)=false:=by simpa using h
  rw [if_neg h,b1];refine Fn.aq [.cell 2 81, .tmp 3] Tryz.func125 rfl rfl (by decide) (by simp [Tryz.ntmps125]) ?_;rw [Tryz.ntmps125]
  repeat' (first|omega|(try apply ag);simp only [go_sem,sevalprocAttr,b0]|apply ah<;>(intro h_;(try simp only [h_]);revert h_)|apply ai|apply aj|apply ae|apply And.intro|with_reducible intro h_|trivial|simp only [go_sem,ak];omega)
  all_goals exact aR.refl _
theorem Sw (z:Int) (h0: -1125899906842624<=z) (h1:z<=1125899906842624):Fn Tryz.prog 65 [wdA z] (.tup [I z, .bool true]):=by
 have hS:=Zl z (by omega) (by omega);have b0:((if z<0 then-z else z)/18446744073709551616 % 18446744073709551616 !=0)=false:=by
  simp only [bne_eq_false_iff_eq];split<;>omega
 have e1:(if z<0 then-z else z)% 18446744073709551616=if z<0 then-z else z:=by split<;>omega
 obtain ⟨u,hu⟩: ∃u,u=(if z<0 then-z else z):=⟨_,rfl⟩;rw [←hu] at hS b0 e1;have u0:0<=u/\u<=1125899906842624:=by rw [hu];split<;>omega
 have b1:decide (1125899906842624<u)=false:=by simp;omega
 have e2:IntKind.i64.wrap u=u:=SS (by unfold InI;omega);by_cases h:z<0
 ·have b2:decide (z<0)=true:=by simpa using h
  rw [b2] at hS;have e3:0-u=z:=by rw [hu,if_pos h];omega
  refine Fn.aq [.tmp 2, .tmp 3] Tryz.func65 rfl rfl (by decide) (by simp [Tryz.ntmps65]) ?_;rw [Tryz.ntmps65]
  repeat' (first|omega|(try apply ag);simp only [go_sem,sevalprocAttr]|apply ah<;>(intro h_;(try simp only [h_]);revert h_)|apply ai|apply aj|apply ae|apply And.intro|with_reducible intro h_|trivial|simp only [go_sem,ak];omega)
  refine ⟨aA.fn rfl hS ?_⟩
  repeat' (first|omega|(try apply ag);simp only [go_sem,sevalprocAttr,b0,b1,e1,e2]|apply ah<;>(intro h_;(try simp only [h_]);revert h_)|apply ai|apply aj|apply ae|apply And.intro|with_reducible intro h_|trivial|simp only [go_sem,ak];omega)
  all_goals (first|omega|exact aR.of (by rw [e3]))
 ·have b2:decide (z<0)=false:=by simpa using h
  rw [b2] at hS;have e3:u=z:=by rw [hu,if_neg h]
  refine Fn.aq [.tmp 2, .tmp 3] Tryz.func65 rfl rfl (by decide) (by simp [Tryz.ntmps65]) ?_;rw [Tryz.ntmps65]
  repeat' (first|omega|(try apply ag);simp only [go_sem,sevalprocAttr]|apply ah<;>(intro h_;(try simp only [h_]);revert h_)|apply ai|apply aj|apply ae|apply And.intro|with_reducible intro h_|trivial|simp only [go_sem,ak];omega)
  refine ⟨aA.fn rfl hS ?_⟩
  repeat' (first|omega|(try apply ag);simp only [go_sem,sevalprocAttr,b0,b1,e1,e2]|apply ah<;>(intro h_;(try simp only [h_]);revert h_)|apply ai|apply aj|apply ae|apply And.intro|with_reducible intro h_|trivial|simp only [go_sem,ak];omega)
  all_goals (first|omega|exact aR.of (by rw [e3]))
set_option maxHeartbeats 8000000
theorem Wk.app {F A fr:Fr} {H H':Hp} (hA:subF F H' A) (hH:subH H H' H') (dA: ∀t,fget fr t= .any\/s3 H' (fget fr t)=true) (h2: ∀t,1000000<=t->fget F t=fget (lft fr) t) (hl:A.all (fun q=>decide (q.1<1000000))=true):Wk F H (A++lft fr) H':=by
 have hf: ∀t,fget (A++lft fr) t= .any\/(fget (A++lft fr) t=fget F t/\s3 H' (fget (A++lft fr) t)=true):=by
  intro t;have key: ∀(A:Fr),subF F H' A->A.all (fun q=>decide (q.1<1000000))=true->fget (A++lft fr) t= .any\/(fget (A++lft fr) t=fget F t/\s3 H' (fget (A++lft fr) t)=true):=by
   intro A
   induction A with
   |nil=>
    intro _ _;rw [List.nil_append];rcases Nat.lt_or_ge t 1000000 with h|h
    ·left;rw [u4,if_neg (by omega)]
    ·have e:=h2 t h;rw [←e];rw [u4,if_pos h] at e;rcases dA (t-1000000) with g|g
     ·left;rw [e];exact g
     ·right;exact ⟨rfl,by rw [e];exact g⟩
   |cons q A ih=>
    intro h1 h3;obtain ⟨t',x⟩:=q;obtain ⟨g1,g2,g3⟩:=h1;simp only [List.all_cons,Bool.and_eq_true] at h3;rw [List.cons_append];simp only [fget]
    split
    ·rename_i e;subst e;right;exact ⟨g1.symm,g2⟩
    ·exact ih g3 h3.2
  exact key A hA hl
 intro B w0 Mx N w ρ a hs;refine ⟨ρ,(hs.weaken (fun id o ho=>(BM hH id o ho).1) (fun t=>(hf t).imp id (·.1)) (fun id o ho M hr=>?_) (fun t M v hv=>?_))⟩
 ·have jJ:=(BM hH id o ho).2;cases o with
  |gone=>trivial
  |cells t c=>
   obtain ⟨k1,arr,k2,k3,k4⟩:=hr;refine ⟨k1,arr,k2,k3,fun j hj=>?_⟩;obtain ⟨u,hu,hv⟩:=k4 j hj;refine ⟨u,hu,?_⟩;cases c with
   |ints l=>exact hv.bG rfl
   |bools l=>exact hv.bG rfl
   |lst l=>
    simp only [Cs.len] at hj;simp only [Cs.get,List.getD_eq_getElem?_getD,List.getElem?_eq_getElem hj,Option.getD_some] at hv⊢;exact hv.oe (List.all_eq_true.1 jJ _ (List.getElem_mem hj))
  |gmap t ck l=>
   obtain ⟨es,k1,k2,k3⟩:=hr;exact ⟨es,k1,k2,fun j e q he hl=>let ⟨g1,g2,g3⟩:=k3 j e q he hl;⟨g1,g2,g3.oe (List.all_eq_true.1 jJ q (List.mem_of_getElem? hl))⟩⟩
  |iter mid s sn la=>
   obtain ⟨_,k2,k3⟩:=hr;exact ⟨Option.isSome_iff_exists.1 jJ,k2,k3⟩
  |imap t l=>
   obtain ⟨k0,es,ck,k1,k2,k3⟩:=hr;exact ⟨k0,es,ck,k1,k2,fun j e k x he hl=>let ⟨g1,g2,g3⟩:=k3 j e k x he hl;⟨g1,g2.oe (List.all_eq_true.1 jJ (k,x) (List.mem_of_getElem? hl)),g3⟩⟩
  |fmap t c=>exact hr
 ·rcases hf t with e|⟨_,e⟩
  ·rw [e];exact .any _
  ·exact hv.oe e
def mb (zs:List Int):List AV:=zs.flatMap fun z=>[.int .u64 (z/18446744073709551616 % 18446744073709551616), .int .u64 (z % 18446744073709551616)]
theorem Ra (p:List Int):(mb p).length=2*p.length:=by
 unfold mb;induction p with
 |nil=>rfl
 |cons x p ih=>simp [ih];omega
theorem Sv (p:List Int) (i:Nat) (h:i<p.length):(mb p).getD (i*2) .any= .int .u64 (p.getD i 0/18446744073709551616 % 18446744073709551616):=by
 unfold mb;induction p generalizing i with
 |nil=>simp at h
 |cons x p ih=>
  cases i with
  |zero=>simp
  |succ i=>
   have:=ih i (by simpa using h)
   simp only [List.flatMap_cons,List.getD_cons_succ];rw [show (i+1)*2=i*2+1+1 by omega];simpa using this
theorem Su (p:List Int) (i:Nat) (h:i<p.length):(mb p).getD (i*2+1) .any= .int .u64 (p.getD i 0 % 18446744073709551616):=by
 unfold mb;induction p generalizing i with
 |nil=>simp at h
 |cons x p ih=>
  cases i with
  |zero=>simp
  |succ i=>
   have:=ih i (by simpa using h)
   simp only [List.flatMap_cons,List.getD_cons_succ];rw [show (i+1)*2+1=i*2+1+1+1 by omega];simpa using this
theorem NQ (p:List Int) (i:Nat) (z:Int):((mb p).set (i*2) (.int .u64 (z/18446744073709551616 % 18446744073709551616))).set (i*2+1) (.int .u64 (z % 18446744073709551616))=mb (p.set i z):=by
 unfold mb;induction p generalizing i with
 |nil=>simp
 |cons x p ih=>
  cases i with
  |zero=>simp
  |succ i=>
   have:=ih i
   simp only [List.flatMap_cons,List.set_cons_succ,List.cons_append,List.nil_append];rw [show (i+1)*2+1=i*2+1+1+1 by omega,show (i+1)*2=i*2+1+1 by omega];simp only [List.set_cons_succ];rw [this]
theorem Zk (n:Nat):(List.replicate n [AV.int .u64 0,AV.int .u64 0]).flatten=mb (List.replicate n 0):=by
 unfold mb;induction n with
 |zero=>rfl
 |succ n ih=>simp [List.replicate_succ,ih]
theorem Q9 {p:List Int} {x:AV} (h:x∈mb p): ∃n,x= .int .u64 n:=by
 simp only [mb,List.mem_flatMap] at h;obtain ⟨z,_,h⟩:=h;simp at h;rcases h with rfl|rfl<;>exact ⟨_,rfl⟩
theorem yafw (H:Hp) (p:List Int):(mb p).all (s3 H)=true:=List.all_eq_true.2 fun x hx=>by obtain ⟨n,rfl⟩:=Q9 hx;rfl
attribute [go_sem] yafw
theorem Jv (p:List (Int×Int)) (h:0<p.length):Fn Tryz.prog 51 [plA false p] (I (p.getD 0 (0,0)).1):=by
 have hc:=ybn p;have e:=l7 p 0 h;rw [Nat.zero_mul] at e;have b0:((p.length:Int)==0)=false:=by rw [beq_eq_false_iff_ne];omega
 refine Fn.intro [.tmp 2] Tryz.func51 rfl rfl (by decide) (by simp [Tryz.ntmps51]) ?_;rw [Tryz.ntmps51]
 repeat' (first|omega|(try apply ag);simp only [go_sem,sevalprocAttr,b0,e,hc]|apply ah<;>(intro h_;(try simp only [h_]);revert h_)|apply ai|apply aj|apply ae|apply And.intro|with_reducible intro h_|trivial|simp only [go_sem,ak];omega)
theorem Kf (p:List (Int×Int)) (h:0<p.length) (hp:p.length<=1000000):Fn Tryz.prog 52 [plA false p] (I (p.getD (p.length-1) (0,0)).1):=by
 have hc:=ybn p;have e:=l7 p (p.length-1) (by omega);have b0:((p.length:Int)==0)=false:=by rw [beq_eq_false_iff_ne];omega
 have e1:((p.length:Int)-1).toNat=p.length-1:=by omega
 refine Fn.intro [.tmp 2] Tryz.func52 rfl rfl (by decide) (by simp [Tryz.ntmps52]) ?_;rw [Tryz.ntmps52]
 repeat' (first|omega|(try apply ag);simp only [go_sem,sevalprocAttr,b0,e,e1,hc]|apply ah<;>(intro h_;(try simp only [h_]);revert h_)|apply ai|apply aj|apply ae|apply And.intro|with_reducible intro h_|trivial|simp only [go_sem,ak];omega)
abbrev tA (p q:List (Int×Int)) (low:Int) (N:Nat) (zs:List Int):Hp:=[(15, .cells 77 (.lst [.sl 2 14 0 N])),(14, .cells 81 (.lst (mb zs))),(13, .cells 3 (.lst [I low])),(2, .cells 29 (.lst [.bool false, .nils])),(1, .cells 29 (.lst [.bool false,tmA q])),(0, .cells 29 (.lst [.bool false,tmA p]))]
def Gj:List (List Nat):=[[7,8,9,10,11,12,13,14,15,16,17],[6,8,10,11,12,13,14,15,16,17],[6,7,10,11,12,13,14,15,16,17],[6,10,11,12,13,14,15,16,17],[6,7,8,9,11,12,13,16],[6,7,8,9,10,12,16],[6,7,8,9,10,11,16],[6,7,8,9,10,16],[6,7,8,9,16],[6,7,8,9,16],[6,7,8,9,10,11,12,13,14,15],[6,7,8,9],[],[]]
def Gi:List (List Nat):=[[],[0],[0,1],[0],[0,1,2,3],[0,1,2,3,4],[0,1,2,3,4,5],[0,1,2,3,4],[0,1,2,3],[0,1,2,3],[0,1,2,3,4,5,6,7,8,9],[0,1,2,3],[],[]]
def Bm:List (List Nat):=[[25,26,27,28,29,30,31,32,33,34],[24,27,28,30,31,32,33,34],[24,27,28,30,31,32,33,34],[24,25,26,30,31,32,33,34],[24,25,26,30,31,32,33,34],[24,30,31,32,33,34],[24,25,26,27,28,29,32,33],[24,25,26,27,28,29,32,33],[24,25,26,27,28,29,30,31],[24,25,26,27,28,29,30,31],[24,25,26,27,28,29],[]]
def Bl:List (List Nat):=[[],[0],[0],[0,1,2],[0,1,2],[0],[0,1,2,3,4,5],[0,1,2,3,4,5],[0,1,2,3,4,5,6,7],[0,1,2,3,4,5,6,7],[0,1,2,3,4,5],[]]
abbrev Wz (p q:List (Int×Int)) (low:Int) (N:Nat) (zs:List Int) (e1 c1 e2 c2:Int):Hp:=(19, .cells 75 (.lst [I e2,I c2]))::(18, .cells 75 (.lst [I e1,I c1]))::(17, .cells 29 (.lst [.bool false,tmA q]))::(16, .cells 29 (.lst [.bool false,tmA p]))::tA p q low N zs
theorem y4v (p q:List (Int×Int)) (low:Int) (zs:List Int) (e1 c1 e2 c2 e w:Int) (N:Nat) (hN:zs.length=N) (hl: -2000000<=low/\low<=2000000) (he:low<=e/\e<low+N) (XT:N<=4000000) {fr:Fr} {K:AV->Fr->Hp->Prop}
  (hK:K (.tup []) fr ((20, .cells 81 (.lst [.int .u64 (w/18446744073709551616 % 18446744073709551616), .int .u64 (w % 18446744073709551616)]))::Wz p q low N (zs.set (e-low).toNat (zs.getD (e-low).toNat 0+w)) e1 c1 e2 c2)):
  fM Tryz.prog 63 [I e,wdA w, .ptr 15 0, .ptr 13 0] fr (Wz p q low N zs e1 c1 e2 c2) K:=by
 have hi:(e-low).toNat<zs.length:=by omega
 have g0:=Sv zs (e-low).toNat hi;have g1:=Su zs (e-low).toNat hi;have gl:=Ra zs;have hA:=Rc (zs.getD (e-low).toNat 0) w;have hS:=NQ zs (e-low).toNat (zs.getD (e-low).toNat 0+w);generalize hk:(e-low).toNat=k at*;refine fM.intro [] Tryz.func63 rfl rfl (by decide) (by simp [Tryz.ntmps63]) ?_;rw [Tryz.ntmps63]
 repeat' (first|omega|(first|apply ag|(refine an.intro (id:=1) Gj Gi (by decide+kernel) mixed ?_)|skip);simp only [go_sem,sevalprocAttr,g0,g1,hk,↓reduceIte,reduceCtorEq,Gj,Gi]|apply ah<;>(intro h_;(try simp only [h_]);revert h_)|apply ai|apply aj|apply ae|apply And.intro|with_reducible intro h_|trivial|simp only [go_sem,ak];omega)
 refine ⟨bC.fn rfl hA ?_⟩;simp only [go_sem,sevalprocAttr,g0,g1,hk,hS]
 repeat' (first|omega|(first|apply ag|(refine an.intro (id:=1) Gj Gi (by decide+kernel) mixed ?_)|skip);simp only [go_sem,sevalprocAttr,g0,g1,hk,hS,↓reduceIte,reduceCtorEq,Gj,Gi]|apply ah<;>(intro h_;(try simp only [h_]);revert h_)|apply ai|apply aj|apply ae|apply And.intro|with_reducible intro h_|trivial|simp only [go_sem,ak];omega)
 all_goals exact hK
theorem OT {H:Hp}: ∀{fr:Fr},fr.all (fun q=>s3 H q.2)=true-> ∀t,fget fr t= .any\/s3 H (fget fr t)=true
 |[],_,t=> .inl rfl
 |(s,x)::r,h,t=>by
  simp only [List.all_cons,Bool.and_eq_true] at h;simp only [fget]
  split
  ·exact .inr h.1
  ·exact OT h.2 t
theorem YP (p q:List (Int×Int)) (low:Int) (zs:List Int) (N:Nat) (hN:zs.length=N) (hl: -2000000<=low/\low<=2000000) (XT:N<=4000000) (hp:uE p) (hq:uE q) (lI:p.length<=500000) (Cm:q.length<=500000)
  (hx: ∀i j,i<p.length->j<q.length->low<=(p.getD i (0,0)).1+(q.getD j (0,0)).1/\(p.getD i (0,0)).1+(q.getD j (0,0)).1<low+N) (zX: ∀i,i<p.length-> -2000000<=(p.getD i (0,0)).1/\(p.getD i (0,0)).1<=2000000) (zT: ∀i,i<q.length-> -2000000<=(q.getD i (0,0)).1/\(q.getD i (0,0)).1<=2000000)
  {fr:Fr} {K:AV->Fr->Hp->Prop} (dA: ∀H':Hp,(hget H' 0).isSome=true->(hget H' 1).isSome=true->(hget H' 2).isSome=true->(hget H' 13).isSome=true->(hget H' 14).isSome=true->(hget H' 15).isSome=true-> ∀t,fget fr t= .any\/s3 H' (fget fr t)=true)
  (hK:K (.tup []) fr ((17, .cells 29 (.lst [.bool false,tmA q]))::(16, .cells 29 (.lst [.bool false,tmA p]))::tA p q low N (qC p q low p.length zs))):
  fM Tryz.prog 62 [plA false p,plA false q, .fn 63 [.ptr 15 0, .ptr 13 0]] fr (tA p q low N zs) K:=by
 have pq:=ybn p;have sR:=ybn q;refine fM.intro [] Tryz.func62 rfl rfl (by decide) (by simp [Tryz.ntmps62]) ?_;rw [Tryz.ntmps62]
 repeat' (first|omega|(try apply ag);simp only [go_sem,sevalprocAttr]|apply ah<;>(intro h_;(try simp only [h_]);revert h_)|apply ai|apply aj|apply ae|apply And.intro|with_reducible intro h_|trivial|simp only [go_sem,ak];omega)
 refine bV.intro (fun n fr' H=> ∃i:Nat,i<=p.length/\n=p.length-i/\fr'=[(13,I i),(12,I p.length),(11,tmA p),(4, .ptr 17 0),(3, .ptr 16 0),(2, .fn 63 [.ptr 15 0, .ptr 13 0])]++lft fr/\H=(17, .cells 29 (.lst [.bool false,tmA q]))::(16, .cells 29 (.lst [.bool false,tmA p]))::tA p q low N (qC p q low i zs)) ?_ ?_
 ·refine ⟨_,_,_,?_,0,by omega,rfl,rfl,rfl⟩;refine Wk.app ?_ ?_ (dA _ rfl rfl rfl rfl rfl rfl) (fun t ht=>?_) rfl<;>(simp only [go_sem,sevalprocAttr,yap,qC])
  all_goals repeat rw [if_neg (by omega)]
 rintro n fr' H ⟨i,hi,rfl,rfl,rfl⟩;by_cases fi:i<p.length
 ·have t0:=l7 p i fi;have t1:=qt p i fi;have hpi:=zX i fi;have Fj:=Ds hp fi;have Ch:=fun j=>hx i j fi;have eP:qC p q low (i+1) zs=pz2 q low (p.getD i (0,0)).1 (p.getD i (0,0)).2 q.length (qC p q low i zs):=rfl;obtain ⟨e1,uc⟩: ∃e1,e1=(p.getD i (0,0)).1:=⟨_,rfl⟩;obtain ⟨c1,iA⟩: ∃c1,c1=(p.getD i (0,0)).2:=⟨_,rfl⟩;rw [←uc] at t0 hpi Ch eP;rw [←iA] at t1 Fj eP;clear uc iA
  have zI:=C6 p q low i zs;rw [hN] at zI;generalize qC p q low i zs=zs1 at*
  repeat' (first|omega|(try apply ag);simp only [go_sem,sevalprocAttr,t0,t1,pq]|apply ah<;>(intro h_;(try simp only [h_]);revert h_)|apply ai|apply aj|apply ae|apply And.intro|with_reducible intro h_|trivial|simp only [go_sem,ak];omega)
  refine bV.intro (fun n fr' H=> ∃j:Nat,j<=q.length/\n=q.length-j/\fr'=[(20,I j),(19,I q.length),(18,tmA q),(7, .ptr 18 0),(13,I i),(12,I p.length),(11,tmA p),(4, .ptr 17 0),(3, .ptr 16 0),(2, .fn 63 [.ptr 15 0, .ptr 13 0])]++lft fr/\H=(18, .cells 75 (.lst [I e1,I c1]))::(17, .cells 29 (.lst [.bool false,tmA q]))::(16, .cells 29 (.lst [.bool false,tmA p]))::tA p q low N (pz2 q low e1 c1 j zs1)) ?_ ?_
  ·refine ⟨_,_,_,?_,0,by omega,rfl,rfl,rfl⟩;refine Wk.app ?_ ?_ (dA _ rfl rfl rfl rfl rfl rfl) (fun t ht=>?_) rfl<;>(simp only [go_sem,sevalprocAttr,yap,pz2])
   all_goals repeat rw [if_neg (by omega)]
  rintro n fr' H ⟨j,hj,rfl,rfl,rfl⟩;by_cases cO:j<q.length
  ·have s0:=l7 q j cO;have s1:=qt q j cO;have hqj:=zT j cO;have hcj:=Ds hq cO;have WS:=Ch j cO;have eQ:pz2 q low e1 c1 (j+1) zs1=(pz2 q low e1 c1 j zs1).set (e1+(q.getD j (0,0)).1-low).toNat ((pz2 q low e1 c1 j zs1).getD (e1+(q.getD j (0,0)).1-low).toNat 0+c1*(q.getD j (0,0)).2):=rfl;obtain ⟨e2,vy⟩: ∃e2,e2=(q.getD j (0,0)).1:=⟨_,rfl⟩;obtain ⟨c2,rU⟩: ∃c2,c2=(q.getD j (0,0)).2:=⟨_,rfl⟩
   rw [←vy] at s0 hqj WS eQ;rw [←rU] at s1 hcj eQ;clear vy rU;have j8:=GR q low e1 c1 j zs1;rw [zI] at j8;have hP:=y17 c1 c2 (by omega) (by omega) (by omega) (by omega)
   repeat' (first|omega|(first|apply ag|(refine an.aq (id:=7) Bm Bl (by decide+kernel) mixed ?_)|(refine an.intro (id:=7) Bm Bl (by decide+kernel) mixed ?_)|skip);simp only [go_sem,sevalprocAttr,s0,s1,sR,↓reduceIte,reduceCtorEq,Bm,Bl]|apply ah<;>(intro h_;(try simp only [h_]);revert h_)|apply ai|apply aj|apply ae|apply And.intro|with_reducible intro h_|trivial|simp only [go_sem,ak];omega)
   refine ⟨bC.fn rfl hP ?_⟩;simp only [go_sem,sevalprocAttr,s0,s1,sR]
   repeat' (first|omega|(first|apply ag|(refine an.aq (id:=7) Bm Bl (by decide+kernel) mixed ?_)|(refine an.intro (id:=7) Bm Bl (by decide+kernel) mixed ?_)|skip);simp only [go_sem,sevalprocAttr,s0,s1,sR,↓reduceIte,reduceCtorEq,Bm,Bl]|apply ah<;>(intro h_;(try simp only [h_]);revert h_)|apply ai|apply aj|apply ae|apply And.intro|with_reducible intro h_|trivial|simp only [go_sem,ak];omega)
   refine ⟨aA.inline (y4v p q low (pz2 q low e1 c1 j zs1) e1 c1 e2 c2 (e1+e2) (c1*c2) N j8 hl WS XT ?_)⟩;rw [←eQ]
   repeat' (first|omega|(try apply ag);simp only [go_sem,sevalprocAttr]|apply ah<;>(intro h_;(try simp only [h_]);revert h_)|apply ai|apply aj|apply ae|apply And.intro|with_reducible intro h_|trivial|simp only [go_sem,ak];omega)
   refine ⟨_,_,_,?_,?_,⟨j+1,by omega,rfl,rfl,rfl⟩⟩
   ·omega
   ·refine Wk.app (A:=[(20,I ((j+1:Nat):Int)),(19,I q.length),(18,tmA q),(7, .ptr 18 0),(13,I i),(12,I p.length),(11,tmA p),(4, .ptr 17 0),(3, .ptr 16 0),(2, .fn 63 [.ptr 15 0, .ptr 13 0])]) ?_ ?_ (dA _ rfl rfl rfl rfl rfl rfl) (fun t ht=>?_) rfl<;>(simp only [go_sem,sevalprocAttr,yap])
    all_goals first|omega|repeat rw [if_neg (by omega)]
  ·obtain rfl:j=q.length:=by omega
   repeat' (first|omega|(try apply ag);simp only [go_sem,sevalprocAttr]|apply ah<;>(intro h_;(try simp only [h_]);revert h_)|apply ai|apply aj|apply ae|apply And.intro|with_reducible intro h_|trivial|simp only [go_sem,ak];omega)
   refine ⟨_,_,_,?_,?_,⟨i+1,by omega,rfl,rfl,rfl⟩⟩
   ·omega
   ·rw [eP];refine Wk.app (A:=[(13,I ((i+1:Nat):Int)),(12,I p.length),(11,tmA p),(4, .ptr 17 0),(3, .ptr 16 0),(2, .fn 63 [.ptr 15 0, .ptr 13 0])]) ?_ ?_ (dA _ rfl rfl rfl rfl rfl rfl) (fun t ht=>?_) rfl<;>(simp only [go_sem,sevalprocAttr,yap])
    all_goals first|omega|repeat rw [if_neg (by omega)]
 ·obtain rfl:i=p.length:=by omega
  repeat' (first|omega|(try apply ag);simp only [go_sem,sevalprocAttr]|apply ah<;>(intro h_;(try simp only [h_]);revert h_)|apply ai|apply aj|apply ae|apply And.intro|with_reducible intro h_|trivial|simp only [go_sem,ak];omega)
  all_goals exact hK
def Bk:List (List Nat):=[[33,36,38,5],[33,36,38,5],[31,32,36,38,5],[36,38,5],[36,37,38,39,40,5],[31,32,33,34,35,38,5],[35,38,5],[31,32,33,34,35,36,37,5],[35,5],[35,5],[31,32,33,34,35,36,37,38,39,40],[40],[]]
def Bj:List (List Nat):=[[],[],[0,1],[],[],[0,1,2,3,4],[4],[0,1,2,3,4,5,6],[4],[4],[0,1,2,3,4,5,6,7,8,9],[9],[]]
structure Ju (p:List (Int×Int)):Prop where
 fits:uE p
 len:p.length<=100000
 asc: ∀i j,i<=j->j<p.length->(p.getD i (0,0)).1<=(p.getD j (0,0)).1
 exp: ∀i,i<p.length-> -1000000<=(p.getD i (0,0)).1/\(p.getD i (0,0)).1<=1000000
theorem Lm {l:List Int} {k:Nat} (h:k<l.length):l.take (k+1)=l.take k++[l.getD k 0]:=by
 rw [List.take_succ_eq_append_getElem h];simp [h]
theorem NP (i:Nat) (p:List Int):(mb p).map (cutV i)=mb p:=by
 conv=>rhs;rw [←List.map_id (mb p)]
 exact List.map_congr_left fun x hx=>by obtain ⟨n,rfl⟩:=Q9 hx;rfl
theorem MC (p q:List (Int×Int)) (hp:Ju p) (hq:Ju q) (lf:0<p.length) (qM:0<q.length) (lN: -1048576<=aS p+aS q) (yt:fv p+fv q<=1048576)
  (eZ:fv p+fv q-(aS p+aS q)<1048576) (hde:fv p+fv q-(aS p+aS q)<=64+4*p.length*q.length) (hz: ∀z∈mW p q,-1125899906842624<=z/\z<=1125899906842624):
  Fn Tryz.prog 16 [plA false p,plA false q] (plA false (tmI (aS p+aS q) (mW p q))):=by
 have L1:=Jv p lf;have L2:=Jv q qM;have H1:=Kf p lf (by have:=hp.len;omega);have H2:=Kf q qM (by have:=hq.len;omega);have a1:=hp.asc 0 (p.length-1) (by omega) (by omega);have a2:=hq.asc 0 (q.length-1) (by omega) (by omega);have x1:=hp.exp 0 lf;have x2:=hq.exp 0 qM;have x3:=hp.exp (p.length-1) (by omega);have x4:=hq.exp (q.length-1) (by omega);have pl:=hp.len;have ql:=hq.len
 have hx: ∀i j,i<p.length->j<q.length->aS p+aS q<=(p.getD i (0,0)).1+(q.getD j (0,0)).1/\(p.getD i (0,0)).1+(q.getD j (0,0)).1<=fv p+fv q:=fun i j hi hj=>by
  have b1:=hp.asc 0 i (by omega) hi;have b2:=hq.asc 0 j (by omega) hj;have b3:=hp.asc i (p.length-1) (by omega) (by omega);have b4:=hq.asc j (q.length-1) (by omega) (by omega);unfold aS fv;omega
 have zX: ∀i,i<p.length-> -2000000<=(p.getD i (0,0)).1/\(p.getD i (0,0)).1<=2000000:=fun i hi=>by have:=hp.exp i hi;omega
 have zT: ∀i,i<q.length-> -2000000<=(q.getD i (0,0)).1/\(q.getD i (0,0)).1<=2000000:=fun i hi=>by have:=hq.exp i hi;omega
 have rM:p.length*q.length<=100000*100000:=Nat.mul_le_mul pl ql;have Ir:(4:Int)*p.length*q.length=4*((p.length*q.length:Nat):Int):=by rw [Int.natCast_mul,Int.mul_assoc]
 unfold mW at hz⊢;unfold aS fv at*;generalize (p.getD 0 (0,0)).1=lp at*;generalize (q.getD 0 (0,0)).1=lq at*;generalize (p.getD (p.length-1) (0,0)).1=cQ at*;generalize (q.getD (q.length-1) (0,0)).1=pd at*;have b0:((p.length:Int)==0)=false:=by rw [beq_eq_false_iff_ne];omega
 have b1:((q.length:Int)==0)=false:=by rw [beq_eq_false_iff_ne];omega
 have b2:decide (lp+lq< -1048576)=false:=by simp;omega
 have b3:decide (1048576<cQ+pd)=false:=by simp;omega
 have b4:decide (64+4*(p.length:Int)*q.length<cQ+pd-(lp+lq))=false:=by simp;omega
 refine Fn.aq [.cell 4 29] Tryz.func16 rfl rfl (by decide) (by simp [Tryz.ntmps16]) ?_;rw [Tryz.ntmps16]
 repeat' (first|omega|(first|apply ag|(refine an.intro (id:=5) Bk Bj (by decide+kernel) mixed ?_)|skip);simp only [go_sem,sevalprocAttr,b0,b1,↓reduceIte,reduceCtorEq,Bk,Bj]|apply ah<;>(intro h_;(try simp only [h_]);revert h_)|apply ai|apply aj|apply ae|apply And.intro|with_reducible intro h_|trivial|simp only [go_sem,ak];omega)
 refine ⟨bC.fn rfl L1 ?_⟩;simp only [go_sem,sevalprocAttr];refine ⟨bC.fn rfl L2 ?_⟩;simp only [go_sem,sevalprocAttr]
 repeat' (first|omega|(first|apply ag|(refine an.intro (id:=5) Bk Bj (by decide+kernel) mixed ?_)|skip);simp only [go_sem,sevalprocAttr,b0,b1,↓reduceIte,reduceCtorEq,Bk,Bj]|apply ah<;>(intro h_;(try simp only [h_]);revert h_)|apply ai|apply aj|apply ae|apply And.intro|with_reducible intro h_|trivial|simp only [go_sem,ak];omega)
 refine ⟨bC.fn rfl H1 ?_⟩;simp only [go_sem,sevalprocAttr];refine ⟨bC.fn rfl H2 ?_⟩;simp only [go_sem,sevalprocAttr]
 repeat' (first|omega|(first|apply ag|(refine an.intro (id:=5) Bk Bj (by decide+kernel) mixed ?_)|skip);simp only [go_sem,sevalprocAttr,b2,b3,b4,Zk,↓reduceIte,reduceCtorEq,Bk,Bj]|apply ah<;>(intro h_;(try simp only [h_]);revert h_)|apply ai|apply aj|apply ae|apply And.intro|with_reducible intro h_|trivial|simp only [go_sem,ak];omega)
 obtain ⟨N,hN⟩: ∃N:Nat,(cQ+pd-(lp+lq)+1).toNat=N:=⟨_,rfl⟩;rw [hN] at hz⊢
 refine ⟨aA.inline (YP p q (lp+lq) (List.replicate N 0) N (by simp) (by omega) (by omega) hp.fits hq.fits (by omega) (by omega) (fun i j hi hj=>by have:=hx i j hi hj;omega) zX zT
  (fun H' g0 g1 g2 g13 g14 g15=>OT (by simp only [go_sem,sevalprocAttr,g0,g1,g2,g13,g14,g15])) ?_)⟩
 have zI:=C6 p q (lp+lq) p.length (List.replicate N 0);rw [List.length_replicate] at zI;generalize qC p q (lp+lq) p.length (List.replicate N 0)=zs at*;have sI:=Ra zs
 repeat' (first|omega|(try apply ag);simp only [go_sem,sevalprocAttr]|apply ah<;>(intro h_;(try simp only [h_]);revert h_)|apply ai|apply aj|apply ae|apply And.intro|with_reducible intro h_|trivial|simp only [go_sem,ak];omega)
 refine bV.intro (fun n fr H=> ∃k:Nat,k<=N/\n=N-k/\fr=[(75,I k),(74,I N),(73, .sl 2 14 0 N),(8, .ptr 18 0),(5, .ptr 13 0),(4, .ptr 2 0)]/\
  ((tmI (lp+lq) (zs.take k)=[]/\H=[(18, .cells 29 (.lst [.bool false, .nils])),(14, .cells 81 (.lst (mb zs))),(13, .cells 3 (.lst [I (lp+lq)])),(2, .cells 29 (.lst [.bool false, .nils]))])\/
   H=[(21, .cells 75 (.lst (dw (tmI (lp+lq) (zs.take k))))),(18, .cells 29 (.lst [.bool false, .sl 2 21 0 (tmI (lp+lq) (zs.take k)).length])),(14, .cells 81 (.lst (mb zs))),(13, .cells 3 (.lst [I (lp+lq)])),(2, .cells 29 (.lst [.bool false, .nils]))])) ?_ ?_
 ·refine ⟨_,_,_,?_,0,by omega,rfl,rfl, .inl ⟨by simp [tmI],rfl⟩⟩;refine Wk.sub ?_ ?_<;>(simp only [go_sem,sevalprocAttr,yap])
  all_goals simp_all
 rintro n fr H ⟨k,hk,rfl,rfl,hc⟩;have yi:=GQ (lp+lq) (zs.take k);rw [List.length_take] at yi;by_cases bN:k<N
 ·have g0:=Sv zs k (by omega);have g1:=Su zs k (by omega);have Ia:=hz (zs.getD k 0) (by simp [List.getD_eq_getElem?_getD,List.getElem?_eq_getElem (show k<zs.length by omega)]);have hS:=Sw (zs.getD k 0) Ia.1 Ia.2;have eT:=Hn (lp+lq) (zs.take k) (zs.getD k 0);rw [←Lm (by omega),List.length_take,show min k zs.length=k by omega] at eT;generalize zs.getD k 0=z at*
  have hlen:=ybn (tmI (lp+lq) (zs.take k));by_cases je:z=0
  ·subst je;rw [if_pos rfl,List.append_nil] at eT;rcases hc with ⟨hn,rfl⟩|rfl
   ·repeat' (first|omega|(try apply ag);simp only [go_sem,sevalprocAttr,g0,g1,sI]|apply ah<;>(intro h_;(try simp only [h_]);revert h_)|apply ai|apply aj|apply ae|apply And.intro|with_reducible intro h_|trivial|simp only [go_sem,ak];omega)
    refine ⟨aA.fn rfl hS ?_⟩
    repeat' (first|omega|(try apply ag);simp only [go_sem,sevalprocAttr]|apply ah<;>(intro h_;(try simp only [h_]);revert h_)|apply ai|apply aj|apply ae|apply And.intro|with_reducible intro h_|trivial|simp only [go_sem,ak];omega)
    refine ⟨_,_,_,?_,?_,⟨k+1,by omega,rfl,rfl, .inl ⟨by rw [eT];exact hn,rfl⟩⟩⟩
    ·omega
    ·refine Wk.sub ?_ ?_<;>(simp only [go_sem,sevalprocAttr,yap])
     all_goals simp_all
   ·repeat' (first|omega|(try apply ag);simp only [go_sem,sevalprocAttr,g0,g1,sI]|apply ah<;>(intro h_;(try simp only [h_]);revert h_)|apply ai|apply aj|apply ae|apply And.intro|with_reducible intro h_|trivial|simp only [go_sem,ak];omega)
    refine ⟨aA.fn rfl hS ?_⟩
    repeat' (first|omega|(try apply ag);simp only [go_sem,sevalprocAttr]|apply ah<;>(intro h_;(try simp only [h_]);revert h_)|apply ai|apply aj|apply ae|apply And.intro|with_reducible intro h_|trivial|simp only [go_sem,ak];omega)
    refine ⟨_,_,_,?_,?_,⟨k+1,by omega,rfl,rfl, .inr rfl⟩⟩
    ·omega
    ·rw [eT];refine Wk.sub ?_ ?_<;>(simp only [go_sem,sevalprocAttr,yap])
     all_goals simp_all
  ·rw [if_neg je] at eT;have bz:(z !=0)=true:=by simpa using je
   rcases hc with ⟨hn,rfl⟩|rfl
   ·rw [hn,List.nil_append] at eT
    repeat' (first|omega|(try apply ag);simp only [go_sem,sevalprocAttr,g0,g1,sI]|apply ah<;>(intro h_;(try simp only [h_]);revert h_)|apply ai|apply aj|apply ae|apply And.intro|with_reducible intro h_|trivial|simp only [go_sem,ak];omega)
    refine ⟨aA.fn rfl hS ?_⟩
    repeat' (first|omega|(try apply ag);simp only [go_sem,sevalprocAttr,bz]|apply ah<;>(intro h_;(try simp only [h_]);revert h_)|apply ai|apply aj|apply ae|apply And.intro|with_reducible intro h_|trivial|simp only [go_sem,ak];omega)
    refine ⟨_,_,_,?_,?_,⟨k+1,by omega,rfl,rfl, .inr rfl⟩⟩
    ·omega
    ·rw [eT];refine Wk.sub ?_ ?_<;>(simp only [go_sem,sevalprocAttr,yap])
     all_goals rfl
   ·repeat' (first|omega|(try apply ag);simp only [go_sem,sevalprocAttr,g0,g1,sI]|apply ah<;>(intro h_;(try simp only [h_]);revert h_)|apply ai|apply aj|apply ae|apply And.intro|with_reducible intro h_|trivial|simp only [go_sem,ak];omega)
    refine ⟨aA.fn rfl hS ?_⟩
    repeat' (first|omega|(try apply ag);simp only [go_sem,sevalprocAttr,bz,hlen,NP]|apply ah<;>(intro h_;(try simp only [h_]);revert h_)|apply ai|apply aj|apply ae|apply And.intro|with_reducible intro h_|trivial|simp only [go_sem,ak];omega)
    rw [zr];refine ⟨_,_,_,?_,?_,⟨k+1,by omega,rfl,rfl, .inr rfl⟩⟩
    ·omega
    ·rw [eT];refine Wk.sub ?_ ?_<;>(simp only [go_sem,sevalprocAttr,yap,List.length_append])
     all_goals simp_all
 ·obtain rfl:k=N:=by omega
  rw [List.take_of_length_le (by omega)] at hc yi;rcases hc with ⟨hn,rfl⟩|rfl
  ·repeat' (first|omega|(try apply ag);simp only [go_sem,sevalprocAttr]|apply ah<;>(intro h_;(try simp only [h_]);revert h_)|apply ai|apply aj|apply ae|apply And.intro|with_reducible intro h_|trivial|simp only [go_sem,ak];omega)
   all_goals rw [hn]
   all_goals exact aR.js (.cons (aR.refl _) (.cons (aR.nils (by omega) rfl) .nil))
  ·have hlen:=ybn (tmI (lp+lq) zs)
   repeat' (first|omega|(try apply ag);simp only [go_sem,sevalprocAttr,yfy]|apply ah<;>(intro h_;(try simp only [h_]);revert h_)|apply ai|apply aj|apply ae|apply And.intro|with_reducible intro h_|trivial|simp only [go_sem,ak];omega)
   all_goals exact aR.of (by rw [List.take_of_length_le (by omega)])
theorem Hl {v l:Int} (h0: -l<=v) (h1:v<=l):gC v l=true:=by unfold gC;simp;omega
theorem OS (low:Int) (cs:List Int) (hl: -1000000<=low/\low+cs.length<=1000000) (hn:cs.length<=100000) (hc: ∀c∈cs,-1125899906842624<=c/\c<=1125899906842624):
  Fn Tryz.prog 45 [I low,roI cs] (plA false (tmI low cs)):=by
 refine Fn.aq [.cell 4 29] Tryz.func45 rfl rfl (by decide) (by simp [Tryz.ntmps45]) ?_;rw [Tryz.ntmps45]
 repeat' (first|omega|(try apply ag);simp only [go_sem,sevalprocAttr]|apply ah<;>(intro h_;(try simp only [h_]);revert h_)|apply ai|apply aj|apply ae|apply And.intro|with_reducible intro h_|trivial|simp only [go_sem,ak];omega)
 refine bV.intro (fun n fr H=> ∃k:Nat,k<=cs.length/\n=cs.length-k/\fr=[(10,I k),(9,I cs.length),(8,roI cs),(5, .ptr 1 0),(4, .ptr 0 0),(0,I low)]/\
  ((tmI low (cs.take k)=[]/\H=[(1, .cells 29 (.lst [.bool false, .nils])),(0, .cells 29 (.lst [.bool false, .nils]))])\/
   H=[(3, .cells 75 (.lst (dw (tmI low (cs.take k))))),(1, .cells 29 (.lst [.bool false, .sl 2 3 0 (tmI low (cs.take k)).length])),(0, .cells 29 (.lst [.bool false, .nils]))])) ?_ ?_
 ·refine ⟨_,_,_,?_,0,by omega,rfl,rfl, .inl ⟨by simp [tmI],rfl⟩⟩;refine Wk.sub ?_ ?_<;>simp only [go_sem,sevalprocAttr]
  all_goals simp_all
 rintro n fr H ⟨k,hk,rfl,rfl,fA⟩;have yi:=GQ low (cs.take k);rw [List.length_take] at yi;by_cases bN:k<cs.length
 ·have Ia:=hc (cs.getD k 0) (by simp [List.getD_eq_getElem?_getD,List.getElem?_eq_getElem bN]);have eT:=Hn low (cs.take k) (cs.getD k 0);rw [←Lm bN,List.length_take,show min k cs.length=k by omega] at eT;have mj:=u9 (cs.getD k 0) 1125899906842624 (by omega) (by omega);have iV:=u9 (low+k) 1048576 (by omega) (by omega);rw [Hl (by omega) (by omega)] at mj iV
  have bl:decide (1048576<low)=false:=by simp;omega
  have hlen:=ybn (tmI low (cs.take k));by_cases je:cs.getD k 0=0
  ·have bz:(cs.getD k 0==0)=true:=by simpa using je
   rw [if_pos je,List.append_nil] at eT;rcases fA with ⟨hn,rfl⟩|rfl
   ·repeat' (first|omega|(try apply ag);simp only [go_sem,sevalprocAttr,bz]|apply ah<;>(intro h_;(try simp only [h_]);revert h_)|apply ai|apply aj|apply ae|apply And.intro|with_reducible intro h_|trivial|simp only [go_sem,ak];omega)
    refine ⟨_,_,_,?_,?_,⟨k+1,by omega,rfl,rfl, .inl ⟨by rw [eT];exact hn,rfl⟩⟩⟩
    ·omega
    ·refine Wk.sub ?_ ?_<;>(simp only [go_sem,sevalprocAttr,yap])
     all_goals simp_all
   ·repeat' (first|omega|(try apply ag);simp only [go_sem,sevalprocAttr,bz]|apply ah<;>(intro h_;(try simp only [h_]);revert h_)|apply ai|apply aj|apply ae|apply And.intro|with_reducible intro h_|trivial|simp only [go_sem,ak];omega)
    refine ⟨_,_,_,?_,?_,⟨k+1,by omega,rfl,rfl, .inr rfl⟩⟩
    ·omega
    ·rw [eT];refine Wk.sub ?_ ?_<;>(simp only [go_sem,sevalprocAttr,yap])
     all_goals simp_all
  ·have bz:(cs.getD k 0==0)=false:=by rw [beq_eq_false_iff_ne];exact je
   rw [if_neg je] at eT;rcases fA with ⟨hn,rfl⟩|rfl
   ·rw [hn,List.nil_append] at eT
    repeat' (first|omega|(try apply ag);simp only [go_sem,sevalprocAttr,bz]|apply ah<;>(intro h_;(try simp only [h_]);revert h_)|apply ai|apply aj|apply ae|apply And.intro|with_reducible intro h_|trivial|simp only [go_sem,ak];omega)
    refine ⟨aA.fn rfl mj ?_⟩
    repeat' (first|omega|(try apply ag);simp only [go_sem,sevalprocAttr,bl]|apply ah<;>(intro h_;(try simp only [h_]);revert h_)|apply ai|apply aj|apply ae|apply And.intro|with_reducible intro h_|trivial|simp only [go_sem,ak];omega)
    refine ⟨aA.fn rfl iV ?_⟩
    repeat' (first|omega|(try apply ag);simp only [go_sem,sevalprocAttr]|apply ah<;>(intro h_;(try simp only [h_]);revert h_)|apply ai|apply aj|apply ae|apply And.intro|with_reducible intro h_|trivial|simp only [go_sem,ak];omega)
    refine ⟨_,_,_,?_,?_,⟨k+1,by omega,rfl,rfl, .inr rfl⟩⟩
    ·omega
    ·rw [eT];refine Wk.sub ?_ ?_<;>(simp only [go_sem,sevalprocAttr,yap])
     all_goals first|rfl|simp_all
   ·repeat' (first|omega|(try apply ag);simp only [go_sem,sevalprocAttr,bz]|apply ah<;>(intro h_;(try simp only [h_]);revert h_)|apply ai|apply aj|apply ae|apply And.intro|with_reducible intro h_|trivial|simp only [go_sem,ak];omega)
    refine ⟨aA.fn rfl mj ?_⟩
    repeat' (first|omega|(try apply ag);simp only [go_sem,sevalprocAttr,bl]|apply ah<;>(intro h_;(try simp only [h_]);revert h_)|apply ai|apply aj|apply ae|apply And.intro|with_reducible intro h_|trivial|simp only [go_sem,ak];omega)
    refine ⟨aA.fn rfl iV ?_⟩
    repeat' (first|omega|(try apply ag);simp only [go_sem,sevalprocAttr,hlen]|apply ah<;>(intro h_;(try simp only [h_]);revert h_)|apply ai|apply aj|apply ae|apply And.intro|with_reducible intro h_|trivial|simp only [go_sem,ak];omega)
    rw [zr];refine ⟨_,_,_,?_,?_,⟨k+1,by omega,rfl,rfl, .inr rfl⟩⟩
    ·omega
    ·rw [eT];refine Wk.sub ?_ ?_<;>(simp only [go_sem,sevalprocAttr,yap,List.length_append])
     all_goals simp_all
 ·obtain rfl:k=cs.length:=by omega
  rw [List.take_of_length_le (Nat.le_refl _)] at fA yi;rcases fA with ⟨hn,rfl⟩|rfl
  ·repeat' (first|omega|(try apply ag);simp only [go_sem,sevalprocAttr]|apply ah<;>(intro h_;(try simp only [h_]);revert h_)|apply ai|apply aj|apply ae|apply And.intro|with_reducible intro h_|trivial|simp only [go_sem,ak];omega)
   all_goals rw [hn]
   all_goals exact aR.js (.cons (aR.refl _) (.cons (aR.nils (by omega) rfl) .nil))
  ·have hlen:=ybn (tmI low cs)
   repeat' (first|omega|(try apply ag);simp only [go_sem,sevalprocAttr,yfy]|apply ah<;>(intro h_;(try simp only [h_]);revert h_)|apply ai|apply aj|apply ae|apply And.intro|with_reducible intro h_|trivial|simp only [go_sem,ak];omega)
   all_goals exact aR.of (by rw [List.take_of_length_le (by omega)])
def B6 (c e:Int):List (Int×Int):=if c=0 then [] else [(e,c)]
theorem NO (c e:Int) (h0: -1125899906842624<=c/\c<=1125899906842624) (h1: -1048576<=e/\e<=1048576):Fn Tryz.prog 131 [I c,I e] (plA false (B6 c e)):=by
 have mj:=u9 c 1125899906842624 (by omega) (by omega);have iV:=u9 e 1048576 (by omega) (by omega);rw [Hl (by omega) (by omega)] at mj iV;unfold B6;by_cases h:c=0
 ·have bz:(c==0)=true:=by simpa using h
  rw [if_pos h];refine Fn.aq [.cell 4 29] Tryz.func131 rfl rfl (by decide) (by simp [Tryz.ntmps131]) ?_;rw [Tryz.ntmps131]
  repeat' (first|omega|(try apply ag);simp only [go_sem,sevalprocAttr,bz]|apply ah<;>(intro h_;(try simp only [h_]);revert h_)|apply ai|apply aj|apply ae|apply And.intro|with_reducible intro h_|trivial|simp only [go_sem,ak];omega)
  all_goals exact aR.js (.cons (aR.refl _) (.cons (aR.nils (by omega) rfl) .nil))
 ·have bz:(c==0)=false:=by rw [beq_eq_false_iff_ne];exact h
  rw [if_neg h];refine Fn.aq [.cell 4 29] Tryz.func131 rfl rfl (by decide) (by simp [Tryz.ntmps131]) ?_;rw [Tryz.ntmps131]
  repeat' (first|omega|(try apply ag);simp only [go_sem,sevalprocAttr,bz]|apply ah<;>(intro h_;(try simp only [h_]);revert h_)|apply ai|apply aj|apply ae|apply And.intro|with_reducible intro h_|trivial|simp only [go_sem,ak];omega)
  refine ⟨aA.fn rfl mj ?_⟩
  repeat' (first|omega|(try apply ag);simp only [go_sem,sevalprocAttr]|apply ah<;>(intro h_;(try simp only [h_]);revert h_)|apply ai|apply aj|apply ae|apply And.intro|with_reducible intro h_|trivial|simp only [go_sem,ak];omega)
  refine ⟨aA.fn rfl iV ?_⟩
  repeat' (first|omega|(try apply ag);simp only [go_sem,sevalprocAttr]|apply ah<;>(intro h_;(try simp only [h_]);revert h_)|apply ai|apply aj|apply ae|apply And.intro|with_reducible intro h_|trivial|simp only [go_sem,ak];omega)
  all_goals exact aR.of rfl
theorem Q8 (q:List (Int×Int)):Fn Tryz.prog 16 [plA false [],plA false q] (plA false []):=by
 refine Fn.aq [.cell 4 29] Tryz.func16 rfl rfl (by decide) (by simp [Tryz.ntmps16]) ?_;rw [Tryz.ntmps16]
 repeat' (first|omega|(try apply ag);simp only [go_sem,sevalprocAttr]|apply ah<;>(intro h_;(try simp only [h_]);revert h_)|apply ai|apply aj|apply ae|apply And.intro|with_reducible intro h_|trivial|simp only [go_sem,ak];omega)
 all_goals exact aR.js (.cons (aR.refl _) (.cons (aR.nils (by omega) rfl) .nil))
end Go.Proofs.YtphjphpmfflfpaaGreatDoor
namespace Go.Proofs.YtphjphpmfflfpaaGreatDoor
end Go.Proofs.YtphjphpmfflfpaaGreatDoor
