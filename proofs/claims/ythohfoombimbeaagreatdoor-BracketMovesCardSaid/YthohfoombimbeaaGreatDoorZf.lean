/- Layer 12: integers of 128 bits: sums and negatives. -/
import Derived.Shelf.Spec.BitsCarry
import Derived.WalkKit
import Derived.BigCall
import Derived.Laws.Rows
import Derived.Lib.SmallJoins
import Derived.Test.YthohfoombimbeaaGreatDoorSh
import Derived.Test.YthohfoombimbeaaGreatDoorZe
set_option linter.unusedSimpArgs false
set_option linter.unusedVariables false
namespace Go.Proofs.YthohfoombimbeaaGreatDoor
open Go Go.RowKit Go.Shelf Go.Joins
set_option maxHeartbeats 4000000
set_option maxRecDepth 99999
def Vk:Ren:=⟨fun|25=>91|26=>111|n=>n,fun|22=>110|n=>n,fun|n=>n⟩
theorem Qs:Lays7.n25 Tryz.prog Vk:={mixed:=by kernel_rfl,f25:=Tryz.func91.trans (congrArg some (by kernel_rfl)),t22:=Tryz.underlying110,a22:=Tryz.isAgg110,z22:=Tryz.sizeOf110,v22:=Tryz.zeroValue110,i22:=by kernel_rfl}
theorem NK:Lays7.n26 Tryz.prog Vk:={mixed:=by kernel_rfl,f26:=Tryz.func111.trans (congrArg some (by kernel_rfl)),t22:=Tryz.underlying110,a22:=Tryz.isAgg110,z22:=Tryz.sizeOf110,v22:=Tryz.zeroValue110,i22:=by kernel_rfl}
theorem Ru(x y c:Nat)(hc:c<=1)(w:World):(callFunc 91 #[.int .u64 x,.int .u64 y,.int .u64 c]).run Tryz.prog w=
   .ok (.value (.tuple #[.int .u64 (((x+y+c)% 18446744073709551616:Nat):Int),.int .u64 (((x+y+c)/18446744073709551616:Nat):Int)])) w:=Any7.bits_Add64 Qs x y c hc w
theorem Rt(x y c:Nat)(hc:c<=1)(w:World):(callFunc 111 #[.int .u64 x,.int .u64 y,.int .u64 c]).run Tryz.prog w=
   .ok (.value (.tuple #[.int .u64 (((x+18446744073709551616-y-c)% 18446744073709551616:Nat):Int),.int .u64 ((if x<y+c then 1 else 0:Nat):Int)])) w:=Any7.bits_Sub64 NK x y c hc w
theorem y3s(x y:Nat)(w:World):(callFunc 91 #[.int .u64 x,.int .u64 y,.int .u64 0]).run Tryz.prog w=
   .ok (.value (.tuple #[.int .u64 (((x+y)% 18446744073709551616:Nat):Int),.int .u64 (((x+y)/18446744073709551616:Nat):Int)])) w:=Ru x y 0 (by omega) w
theorem y3t(y:Nat)(w:World):(callFunc 111 #[.int .u64 0,.int .u64 y,.int .u64 0]).run Tryz.prog w=
   .ok (.value (.tuple #[.int .u64 (((0+18446744073709551616-y)% 18446744073709551616:Nat):Int),.int .u64 ((if 0<y then 1 else 0:Nat):Int)])) w:=Rt 0 y 0 (by omega) w
theorem y3u(y c:Nat)(hc:c<=1)(w:World):(callFunc 111 #[.int .u64 0,.int .u64 y,.int .u64 c]).run Tryz.prog w=
   .ok (.value (.tuple #[.int .u64 (((0+18446744073709551616-y-c)% 18446744073709551616:Nat):Int),.int .u64 ((if 0<y+c then 1 else 0:Nat):Int)])) w:=Rt 0 y c hc w
theorem al3(w:World)(o1 o2 o3:Obj):(((w.alloc o1).alloc o2).alloc o3).heap[w.heap.size+1+1]?=some o3:=by
 have h:=heap_alloc_new ((w.alloc o1).alloc o2) o3;rw[show ((w.alloc o1).alloc o2).heap.size=w.heap.size+1+1 by simp]at h;exact h
theorem pH(w:World)(o1 o2:Obj):((w.alloc o1).alloc o2).heap[w.heap.size+1]?=some o2:=by
 have h:=heap_alloc_new (w.alloc o1) o2;rw[show (w.alloc o1).heap.size=w.heap.size+1 by simp]at h;exact h
theorem y0d(a b c d:Nat)(hb:b<18446744073709551616)(hd:d<18446744073709551616)(w:World):Calls Tryz.prog 66 #[.agg #[.int .u64 a,.int .u64 b],.agg #[.int .u64 c,.int .u64 d]] w fun e w'=>
  e= .returned (.agg #[.int .u64 (((a+c+(b+d)/18446744073709551616)% 18446744073709551616:Nat):Int),.int .u64 (((b+d)% 18446744073709551616:Nat):Int)])/\Below w.heap.size w w':=by
 obtain⟨lo,sr⟩:∃lo,lo=(b+d)% 18446744073709551616:=⟨_,rfl⟩;obtain⟨cy,AG⟩:∃cy,cy=(b+d)/18446744073709551616:=⟨_,rfl⟩;obtain⟨hi,gJ⟩:∃hi,hi=(a+c+cy)% 18446744073709551616:=⟨_,rfl⟩;obtain⟨cz,GI⟩:∃cz,cz=(a+c+cy)/18446744073709551616:=⟨_,rfl⟩
 have r1:∀w,(callFunc 91 #[.int .u64 b,.int .u64 d,.int .u64 0]).run Tryz.prog w= .ok (.value (.tuple #[.int .u64 lo,.int .u64 cy])) w:=fun w=>by rw[sr,AG];exact y3s b d w
 have r2:∀w,(callFunc 91 #[.int .u64 a,.int .u64 c,.int .u64 cy]).run Tryz.prog w= .ok (.value (.tuple #[.int .u64 hi,.int .u64 cz])) w:=fun w=>by rw[gJ,GI];exact Ru a c cy (by omega) w
 rw[<-sr,<-AG,<-gJ];clear sr AG gJ GI
 go_enter Tryz.func66,Tryz.ntmps66
 go_wp2_with (simp only[r1,r2])
 refine⟨rfl,.agg #[.int .u64 hi,.int .u64 lo],?_,rfl,below_alloc3 _ _ _ _⟩;exact results_cell_row (fn:=Tryz.f66) rfl _ _ (w.heap.size+1+1) 112 #[.int .u64 hi,.int .u64 lo] (0,0) _ rfl (al3 _ _ _ _) Tryz.underlying112 rfl (by kernel_rfl)
theorem y0e(a b:Nat)(ha:a<18446744073709551616)(hb:b<18446744073709551616)(w:World):Calls Tryz.prog 103 #[.agg #[.int .u64 a,.int .u64 b]] w fun e w'=>
  e= .returned (.agg #[.int .u64 (((18446744073709551616-a-(if 0<b then 1 else 0))% 18446744073709551616:Nat):Int),.int .u64 (((18446744073709551616-b)% 18446744073709551616:Nat):Int)])/\Below w.heap.size w w':=by
 obtain⟨lo,sr⟩:∃lo,lo=(18446744073709551616-b)% 18446744073709551616:=⟨_,rfl⟩;obtain⟨cy,AG⟩:∃cy,cy=(if 0<b then 1 else 0:Nat):=⟨_,rfl⟩;have eG:cy<=1:=by rw[AG];split<;>omega
 obtain⟨hi,gJ⟩:∃hi,hi=(18446744073709551616-a-cy)% 18446744073709551616:=⟨_,rfl⟩;obtain⟨cz,GI⟩:∃cz,cz=(if 0<a+cy then 1 else 0:Nat):=⟨_,rfl⟩;have r1:∀w,(callFunc 111 #[.int .u64 0,.int .u64 b,.int .u64 0]).run Tryz.prog w= .ok (.value (.tuple #[.int .u64 lo,.int .u64 cy])) w:=fun w=>by
  rw[sr,AG];have:=y3t b w;rw[Nat.zero_add]at this;exact this
 have r2:∀w,(callFunc 111 #[.int .u64 0,.int .u64 a,.int .u64 cy]).run Tryz.prog w= .ok (.value (.tuple #[.int .u64 hi,.int .u64 cz])) w:=fun w=>by
  rw[gJ,GI];have:=y3u a cy eG w;rw[Nat.zero_add]at this;exact this
 rw[<-sr,<-AG,<-gJ];clear sr AG gJ GI eG
 go_enter Tryz.func103,Tryz.ntmps103
 go_wp2_with (simp only[r1,r2])
 refine⟨rfl,.agg #[.int .u64 hi,.int .u64 lo],?_,rfl,below_alloc2 _ _ _⟩;exact results_cell_row (fn:=Tryz.f103) rfl _ _ (w.heap.size+1) 112 #[.int .u64 hi,.int .u64 lo] (0,0) _ rfl (pH _ _ _) Tryz.underlying112 rfl (by kernel_rfl)
abbrev wdA(z:Int):AV:= .agg [.int .u64 (z/18446744073709551616 % 18446744073709551616),.int .u64 (z % 18446744073709551616)]
attribute [go_sem] wdA
theorem La{w:World}{M:Nat->Prop}{ρ:Nat->Addr}{D:Nat->Prop}{v:Value}{z:Int}(h:VR w M ρ D v (wdA z)):∃a b:Nat,v= .agg #[.int .u64 a,.int .u64 b]/\(a:Int)=z/18446744073709551616 % 18446744073709551616/\(b:Int)=z % 18446744073709551616:=by
 obtain⟨vs,rfl,hl,hx⟩:=h.bD
 match vs,hl,hx with
 |[v0,v1],_,hx=>
  have e0:=(hx 0 v0 _ rfl rfl).aq;have e1:=(hx 1 v1 _ rfl rfl).aq;subst e0 e1;refine⟨(z/18446744073709551616 % 18446744073709551616).toNat,(z % 18446744073709551616).toNat,?_,by omega,by omega⟩;rw[Int.toNat_of_nonneg (by omega),Int.toNat_of_nonneg (by omega)]
theorem UX{w:World}{M:Nat->Prop}{ρ:Nat->Addr}{D:Nat->Prop}{z:Int}{a b:Nat}(h1:(a:Int)=z/18446744073709551616 % 18446744073709551616)(h2:(b:Int)=z % 18446744073709551616):VR w M ρ D (.agg #[.int .u64 a,.int .u64 b]) (wdA z):=by
 refine .agg [.int .u64 a,.int .u64 b] _ rfl fun i u x hu hx=>?_
 match i,hu,hx with
 |0,hu,hx=>cases hu;cases hx;rw[h1];exact .int _ _
 |1,hu,hx=>cases hu;cases hx;rw[h2];exact .int _ _
theorem y7h(x y:Int):Fn Tryz.prog 66 [wdA x,wdA y] (wdA (x+y)):=by
 refine⟨⟨_,Tryz.func66,rfl,by decide⟩,fun w Mx vs mT hl hv=>?_⟩
 match vs,hl,hv with
 |[v0,v1],_,hv=>
  obtain⟨a,b,rfl,e1,e2⟩:=La (hv 0 v0 _ rfl rfl);obtain⟨c,d,rfl,e3,e4⟩:=La (hv 1 v1 _ rfl rfl);refine(y0d a b c d (by omega) (by omega) w).mono ?_;rintro e w' ⟨rfl,hb⟩;exact⟨_,rfl,hb,UX (by omega) (by omega)⟩
theorem Rs(x:Int):Fn Tryz.prog 103 [wdA x] (wdA (-x)):=by
 refine⟨⟨_,Tryz.func103,rfl,by decide⟩,fun w Mx vs mT hl hv=>?_⟩
 match vs,hl,hv with
 |[v0],_,hv=>
  obtain⟨a,b,rfl,e1,e2⟩:=La (hv 0 v0 _ rfl rfl);refine(y0e a b (by omega) (by omega) w).mono ?_;rintro e w' ⟨rfl,hb⟩;refine⟨_,rfl,hb,UX ?_ (by omega)⟩
  split<;>omega
end Go.Proofs.YthohfoombimbeaaGreatDoor
namespace Go.Proofs.YthohfoombimbeaaGreatDoor
open Go Go.RowKit
set_option maxHeartbeats 4000000
set_option maxRecDepth 99999
theorem Vj(x:Int)(h0: -4611686018427387904<=x)(h1:x<=4611686018427387904):Fn Tryz.prog 102 [I x] (.int .u64 (if x<0 then-x else x)):=by
 by_cases h:x<0
 ·have b0:decide (x<0)=true:=by simpa using h
  have e1:IntKind.u64.wrap (0-IntKind.u64.wrap x)= -x:=by rw[IntKind.wrap_u64,IntKind.wrap_u64];omega
  rw[zM h];refine Fn.intro [.tmp 2] Tryz.func102 rfl rfl (by decide) (by simp[Tryz.ntmps102]) ?_;rw[Tryz.ntmps102]
  repeat' (first|omega|(try apply ah);simp only[go_sem,b0,e1]|apply ag<;>(intro h_;(try simp only[h_]);revert h_)|apply zO|with_reducible intro h_|trivial)
 ·have b0:decide (x<0)=false:=by simpa using h
  have e1:IntKind.u64.wrap x=x:=by rw[IntKind.wrap_u64];omega
  rw[zL h];refine Fn.intro [.tmp 2] Tryz.func102 rfl rfl (by decide) (by simp[Tryz.ntmps102]) ?_;rw[Tryz.ntmps102]
  repeat' (first|omega|(try apply ah);simp only[go_sem,b0,e1]|apply ag<;>(intro h_;(try simp only[h_]);revert h_)|apply zO|with_reducible intro h_|trivial)
theorem y3v(a b:Nat)(ha:a<18446744073709551616)(hb:b<18446744073709551616):Fn Tryz.prog 101 [.int .u64 a,.int .u64 b] (.tup [.int .u64 ((a*b/18446744073709551616:Nat):Int),.int .u64 ((a*b % 18446744073709551616:Nat):Int)]):=by
 refine⟨⟨_,Tryz.func101,rfl,by decide⟩,fun w Mx vs mT hl hv=>?_⟩
 match vs,hl,hv with
 |[v0,v1],_,hv=>
  have e0:=(hv 0 v0 _ rfl rfl).aq;have e1:=(hv 1 v1 _ rfl rfl).aq;subst e0 e1;refine(Tryz.bits_Mul64 a b ha hb w).mono ?_;rintro e w' ⟨rfl,rfl⟩;refine⟨_,rfl,Below.refl _ _,.tup [.int .u64 _,.int .u64 _] _ rfl fun i u x hu hx=>?_⟩
  match i,hu,hx with
  |0,hu,hx=>cases hu;cases hx;exact .int _ _
  |1,hu,hx=>cases hu;cases hx;exact .int _ _
theorem Yg(x y:Int)(h0: -4611686018427387904<=x)(h1:x<=4611686018427387904)(h2: -4611686018427387904<=y)(h3:y<=4611686018427387904):Fn Tryz.prog 90 [I x,I y] (wdA (x*y)):=by
 have m1:=Vj x h0 h1;have m2:=Vj y h2 h3;obtain⟨a,ha⟩:∃a:Nat,(if x<0 then-x else x)=a:=⟨(if x<0 then-x else x).toNat,by split<;>omega⟩;obtain⟨b,hb⟩:∃b:Nat,(if y<0 then-y else y)=b:=⟨(if y<0 then-y else y).toNat,by split<;>omega⟩;rw[ha]at m1;rw[hb]at m2;have gL:a<=4611686018427387904:=by split at ha<;>omega
 have hbb:b<=4611686018427387904:=by split at hb<;>omega
 have hM:=y3v a b (by omega) (by omega);have hpb:a*b<=4611686018427387904*4611686018427387904:=Nat.mul_le_mul gL hbb;have e1:((a*b/18446744073709551616:Nat):Int)=((a*b:Nat):Int)/18446744073709551616 % 18446744073709551616:=by omega
 have e2:((a*b % 18446744073709551616:Nat):Int)=((a*b:Nat):Int)% 18446744073709551616:=by omega
 rw[e1,e2]at hM;have hN:=Rs ((a*b:Nat):Int);have mu:x*y=if decide (x<0)=decide (y<0) then ((a*b:Nat):Int) else-((a*b:Nat):Int):=by
  rw[Int.natCast_mul,<-ha,<-hb];by_cases c1:x<0<;>by_cases c2:y<0<;>simp[c1,c2,Int.neg_mul,Int.mul_neg]
 obtain⟨p,hp⟩:∃p:Int,p=((a*b:Nat):Int):=⟨_,rfl⟩;rw[<-hp]at hM hN mu;clear e1 e2;by_cases hc:decide (x<0)=decide (y<0)
 ·rw[zM hc]at mu;have b0:(decide (x<0)!=decide (y<0))=false:=by rw[hc];simp
  rw[mu];refine Fn.av [.cell 4 112] Tryz.func90 rfl rfl (by decide) (by simp[Tryz.ntmps90]) ?_;rw[Tryz.ntmps90]
  repeat' (first|omega|(try apply ah);simp only[go_sem]|apply ag<;>(intro h_;(try simp only[h_]);revert h_)|apply zO|with_reducible intro h_|trivial)
  refine⟨aL.fn rfl m1 ?_⟩
  repeat' (first|omega|(try apply ah);simp only[go_sem]|apply ag<;>(intro h_;(try simp only[h_]);revert h_)|apply zO|with_reducible intro h_|trivial)
  refine⟨aL.fn rfl m2 ?_⟩
  repeat' (first|omega|(try apply ah);simp only[go_sem]|apply ag<;>(intro h_;(try simp only[h_]);revert h_)|apply zO|with_reducible intro h_|trivial)
  refine⟨aL.fn rfl hM ?_⟩
  repeat' (first|omega|(try apply ah);simp only[go_sem,b0]|apply ag<;>(intro h_;(try simp only[h_]);revert h_)|apply zO|with_reducible intro h_|trivial)
  all_goals exact aT.refl _
 ·rw[zL hc]at mu;have b0:(decide (x<0)!=decide (y<0))=true:=by simpa [bne] using hc
  rw[mu];refine Fn.av [.cell 4 112] Tryz.func90 rfl rfl (by decide) (by simp[Tryz.ntmps90]) ?_;rw[Tryz.ntmps90]
  repeat' (first|omega|(try apply ah);simp only[go_sem]|apply ag<;>(intro h_;(try simp only[h_]);revert h_)|apply zO|with_reducible intro h_|trivial)
  refine⟨aL.fn rfl m1 ?_⟩
  repeat' (first|omega|(try apply ah);simp only[go_sem]|apply ag<;>(intro h_;(try simp only[h_]);revert h_)|apply zO|with_reducible intro h_|trivial)
  refine⟨aL.fn rfl m2 ?_⟩
  repeat' (first|omega|(try apply ah);simp only[go_sem]|apply ag<;>(intro h_;(try simp only[h_]);revert h_)|apply zO|with_reducible intro h_|trivial)
  refine⟨aL.fn rfl hM ?_⟩
  repeat' (first|omega|(try apply ah);simp only[go_sem,b0]|apply ag<;>(intro h_;(try simp only[h_]);revert h_)|apply zO|with_reducible intro h_|trivial)
  refine⟨aL.fn rfl hN ?_⟩
  repeat' (first|omega|(try apply ah);simp only[go_sem]|apply ag<;>(intro h_;(try simp only[h_]);revert h_)|apply zO|with_reducible intro h_|trivial)
  all_goals exact aT.refl _
theorem y3w(z:Int)(h0: -170141183460469231731687303715884105728<=z)(h1:z<170141183460469231731687303715884105728):Fn Tryz.prog 92 [wdA z] (.tup [wdA (if z<0 then-z else z),.bool (decide (z<0))]):=by
 have hN:=Rs z;by_cases h:z<0
 ·have b0:(z/18446744073709551616 % 18446744073709551616/2^(63:Int).toNat==1)=true:=by
   rw[show (2:Int)^(63:Int).toNat=9223372036854775808 by decide,beq_iff_eq];omega
  have b1:decide (z<0)=true:=by simpa using h
  rw[zM h,b1];refine Fn.av [.cell 2 112,.tmp 3] Tryz.func92 rfl rfl (by decide) (by simp[Tryz.ntmps92]) ?_;rw[Tryz.ntmps92]
  repeat' (first|omega|(try apply ah);simp only[go_sem,b0]|apply ag<;>(intro h_;(try simp only[h_]);revert h_)|apply zO|with_reducible intro h_|trivial)
  refine⟨aL.fn rfl hN ?_⟩
  repeat' (first|omega|(try apply ah);simp only[go_sem]|apply ag<;>(intro h_;(try simp only[h_]);revert h_)|apply zO|with_reducible intro h_|trivial)
  all_goals exact aT.refl _
 ·have b0:(z/18446744073709551616 % 18446744073709551616/2^(63:Int).toNat==1)=false:=by
   rw[show (2:Int)^(63:Int).toNat=9223372036854775808 by decide,zX];omega
  have b1:decide (z<0)=false:=by simpa using h
  rw[zL h,b1];refine Fn.av [.cell 2 112,.tmp 3] Tryz.func92 rfl rfl (by decide) (by simp[Tryz.ntmps92]) ?_;rw[Tryz.ntmps92]
  repeat' (first|omega|(try apply ah);simp only[go_sem,b0]|apply ag<;>(intro h_;(try simp only[h_]);revert h_)|apply zO|with_reducible intro h_|trivial)
  all_goals exact aT.refl _
theorem y3x(z:Int)(h0: -1125899906842624<=z)(h1:z<=1125899906842624):Fn Tryz.prog 67 [wdA z] (.tup [I z,.bool true]):=by
 have hS:=y3w z (by omega) (by omega);have b0:((if z<0 then-z else z)/18446744073709551616 % 18446744073709551616 !=0)=false:=by
  simp only[bne_eq_false_iff_eq];split<;>omega
 have e1:(if z<0 then-z else z)% 18446744073709551616=if z<0 then-z else z:=by split<;>omega
 obtain⟨u,hu⟩:∃u,u=(if z<0 then-z else z):=⟨_,rfl⟩;rw[<-hu]at hS b0 e1;have u0:0<=u/\u<=1125899906842624:=by rw[hu];split<;>omega
 have b1:decide (1125899906842624<u)=false:=by simp;omega
 have e2:IntKind.i64.wrap u=u:=Mw (by unfold InI;omega);by_cases h:z<0
 ·have b2:decide (z<0)=true:=by simpa using h
  rw[b2]at hS;have e3:0-u=z:=by rw[hu,zM h];omega
  refine Fn.av [.tmp 2,.tmp 3] Tryz.func67 rfl rfl (by decide) (by simp[Tryz.ntmps67]) ?_;rw[Tryz.ntmps67]
  repeat' (first|omega|(try apply ah);simp only[go_sem]|apply ag<;>(intro h_;(try simp only[h_]);revert h_)|apply zO|with_reducible intro h_|trivial)
  refine⟨aL.fn rfl hS ?_⟩
  repeat' (first|omega|(try apply ah);simp only[go_sem,b0,b1,e1,e2]|apply ag<;>(intro h_;(try simp only[h_]);revert h_)|apply zO|with_reducible intro h_|trivial)
  all_goals (first|omega|exact aT.of (by rw[e3]))
 ·have b2:decide (z<0)=false:=by simpa using h
  rw[b2]at hS;have e3:u=z:=by rw[hu,zL h]
  refine Fn.av [.tmp 2,.tmp 3] Tryz.func67 rfl rfl (by decide) (by simp[Tryz.ntmps67]) ?_;rw[Tryz.ntmps67]
  repeat' (first|omega|(try apply ah);simp only[go_sem]|apply ag<;>(intro h_;(try simp only[h_]);revert h_)|apply zO|with_reducible intro h_|trivial)
  refine⟨aL.fn rfl hS ?_⟩
  repeat' (first|omega|(try apply ah);simp only[go_sem,b0,b1,e1,e2]|apply ag<;>(intro h_;(try simp only[h_]);revert h_)|apply zO|with_reducible intro h_|trivial)
  all_goals (first|omega|exact aT.of (by rw[e3]))
set_option maxHeartbeats 8000000
theorem Wk.NL{fr fr':Fr}{H H':Hp}(hf:∀t,fget fr' t= .any\/(fget fr' t=fget fr t/\s3 H' (fget fr' t)=true))(hh:∀i o,hget H' i=some o->hget H i=some o/\sO H' o=true):Wk fr H fr' H':=by
 intro B w0 Mx N w ρ a hs;refine⟨ρ,(hs.weaken (fun id o ho=>(hh id o ho).1) (fun t=>(hf t).imp id (·.1)) (fun id o ho M hr=>?_) (fun t M v hv=>?_))⟩
 ·have my:=(hh id o ho).2;cases o with
  |gone=>trivial
  |cells t c=>
   obtain⟨k1,arr,k2,k3,k4⟩:=hr;refine⟨k1,arr,k2,k3,fun j hj=>?_⟩;obtain⟨u,hu,hv⟩:=k4 j hj;refine⟨u,hu,?_⟩;cases c with
   |ints l=>exact hv.bP rfl
   |bools l=>exact hv.bP rfl
   |lst l=>
    simp only[Cs.len]at hj;simp only[Cs.get,zB,zJ hj,Option.getD_some]at hv⊢;exact hv.qm (zZ.1 my _ (List.getElem_mem hj))
  |gmap t ck l=>
   obtain⟨es,k1,k2,k3⟩:=hr;exact⟨es,k1,k2,fun j e q he hl=>let ⟨g1,g2,g3⟩:=k3 j e q he hl;⟨g1,g2,g3.qm (zZ.1 my q (zQ hl))⟩⟩
  |iter dB s sn la=>
   obtain⟨_,k2,k3⟩:=hr;exact⟨Option.isSome_iff_exists.1 my,k2,k3⟩
  |imap t l=>
   obtain⟨k0,es,ck,k1,k2,k3⟩:=hr;exact⟨k0,es,ck,k1,k2,fun j e k x he hl=>let ⟨g1,g2,g3⟩:=k3 j e k x he hl;⟨g1,g2.qm (zZ.1 my (k,x) (zQ hl)),g3⟩⟩
  |fmap t c=>exact hr
 ·rcases hf t with e|⟨_,e⟩
  ·rw[e];exact .any _
  ·exact hv.qm e
theorem zg{H H':Hp}(hm:∀k,(hget H k).isSome=true->(hget H' k).isSome=true):∀(x:AV),s1 H x=true->s1 H' x=true
 |.ptr i _,h=>hm i h
 |.sl _ i _ _,h=>hm i h
 |.mp i,h=>hm i h
 |.agg _,h=>h
 |.tup _,h=>h
 |.fn _ _,h=>h
 |.any,h=>h
 |.int _ _,h=>h
 |.bool _,h=>h
 |.str _,h=>h
 |.nils,h=>h
 |.ro _ _ _,h=>h
 |.rp _ _,h=>h
theorem L5{H H':Hp}(hm:∀k,(hget H k).isSome=true->(hget H' k).isSome=true):∀(x:AV),s2 H x=true->s2 H' x=true
 |.ptr i o,h=>zg hm (.ptr i o) h
 |.sl e i o l,h=>zg hm (.sl e i o l) h
 |.mp i,h=>zg hm (.mp i) h
 |.agg xs,h=>zZ.2 fun y hy=>zg hm y (zZ.1 h y hy)
 |.tup _,h=>h
 |.fn _ xs,h=>zZ.2 fun y hy=>zg hm y (zZ.1 h y hy)
 |.any,h=>h
 |.int _ _,h=>h
 |.bool _,h=>h
 |.str _,h=>h
 |.nils,h=>h
 |.ro _ _ _,h=>h
 |.rp _ _,h=>h
theorem y7i{H H':Hp}(hm:∀k,(hget H k).isSome=true->(hget H' k).isSome=true):∀(x:AV),s3 H x=true->s3 H' x=true
 |.ptr i o,h=>zg hm (.ptr i o) h
 |.sl e i o l,h=>zg hm (.sl e i o l) h
 |.mp i,h=>zg hm (.mp i) h
 |.agg xs,h=>zZ.2 fun y hy=>L5 hm y (zZ.1 h y hy)
 |.tup xs,h=>zZ.2 fun y hy=>L5 hm y (zZ.1 h y hy)
 |.fn _ xs,h=>zZ.2 fun y hy=>L5 hm y (zZ.1 h y hy)
 |.any,h=>h
 |.int _ _,h=>h
 |.bool _,h=>h
 |.str _,h=>h
 |.nils,h=>h
 |.ro _ _ _,h=>h
 |.rp _ _,h=>h
theorem En{i j n:Nat}{xs:List AV}(h:∀x∈xs,swV i j n x=x):xs.map (swV i j n)=xs:=by
 conv=>rhs;rw[<-List.map_id xs]
 exact List.map_congr_left h
section
variable{O:Hp}{i j:Nat}(hi:(hget O i).isSome=false)(hj:(hget O j).isSome=false)
include hi hj
theorem L4(k:Nat)(hk:(hget O k).isSome=true):swI i j k=k:=by
 unfold swI;rw[zL (fun e=>by rw[e,hi]at hk;cases hk),zL (fun e=>by rw[e,hj]at hk;cases hk)]
theorem zf(n:Nat):∀(x:AV),s1 O x=true->swV i j (n+1) x=x
 |.ptr k o,h=>by simp only[swV,L4 hi hj k h]
 |.sl e k o l,h=>by simp only[swV,L4 hi hj k h]
 |.mp k,h=>by simp only[swV,L4 hi hj k h]
 |.agg _,h=>by cases h
 |.tup _,h=>by cases h
 |.fn _ _,h=>by cases h
 |.any,h=>rfl
 |.int _ _,h=>rfl
 |.bool _,h=>rfl
 |.str _,h=>rfl
 |.nils,h=>rfl
 |.ro _ _ _,h=>rfl
 |.rp _ _,h=>rfl
theorem LZ(n:Nat):∀(x:AV),s2 O x=true->swV i j (n+2) x=x
 |.agg xs,h=>by show AV.agg (xs.map (swV i j (n+1)))=_;rw[En fun y hy=>zf hi hj n y (zZ.1 h y hy)]
 |.tup _,h=>by cases h
 |.fn f xs,h=>by show AV.fn f (xs.map (swV i j (n+1)))=_;rw[En fun y hy=>zf hi hj n y (zZ.1 h y hy)]
 |.ptr k o,h=>zf hi hj (n+1) (.ptr k o) h
 |.sl e k o l,h=>zf hi hj (n+1) (.sl e k o l) h
 |.mp k,h=>zf hi hj (n+1) (.mp k) h
 |.any,h=>rfl
 |.int _ _,h=>rfl
 |.bool _,h=>rfl
 |.str _,h=>rfl
 |.nils,h=>rfl
 |.ro _ _ _,h=>rfl
 |.rp _ _,h=>rfl
theorem y7j(n:Nat):∀(x:AV),s3 O x=true->swV i j (n+3) x=x
 |.agg xs,h=>by show AV.agg (xs.map (swV i j (n+2)))=_;rw[En fun y hy=>LZ hi hj n y (zZ.1 h y hy)]
 |.tup xs,h=>by show AV.tup (xs.map (swV i j (n+2)))=_;rw[En fun y hy=>LZ hi hj n y (zZ.1 h y hy)]
 |.fn f xs,h=>by show AV.fn f (xs.map (swV i j (n+2)))=_;rw[En fun y hy=>LZ hi hj n y (zZ.1 h y hy)]
 |.ptr k o,h=>zf hi hj (n+2) (.ptr k o) h
 |.sl e k o l,h=>zf hi hj (n+2) (.sl e k o l) h
 |.mp k,h=>zf hi hj (n+2) (.mp k) h
 |.any,h=>rfl
 |.int _ _,h=>rfl
 |.bool _,h=>rfl
 |.str _,h=>rfl
 |.nils,h=>rfl
 |.ro _ _ _,h=>rfl
 |.rp _ _,h=>rfl
end
theorem Wk.app{F A fr:Fr}{H H':Hp}(hA:subF F H' A)(hH:subH H H' H')(jY:∀t,fget fr t= .any\/s3 H' (fget fr t)=true)(h2:∀t,1000000<=t->fget F t=fget (lft fr) t)(hl:A.all (fun q=>decide (q.1<1000000))=true):Wk F H (A++lft fr) H':=by
 have hf:∀t,fget (A++lft fr) t= .any\/(fget (A++lft fr) t=fget F t/\s3 H' (fget (A++lft fr) t)=true):=by
  intro t;have key:∀(A:Fr),subF F H' A->A.all (fun q=>decide (q.1<1000000))=true->fget (A++lft fr) t= .any\/(fget (A++lft fr) t=fget F t/\s3 H' (fget (A++lft fr) t)=true):=by
   intro A
   induction A with
   |nil=>
    intro _ _;rw[List.nil_append];rcases zY t 1000000 with h|h
    ·left;rw[CW,zL (by omega)]
    ·have e:=h2 t h;rw[<-e];rw[CW,zM h]at e;rcases jY (t-1000000) with g|g
     ·left;rw[e];exact g
     ·right;exact⟨rfl,by rw[e];exact g⟩
   |cons q A ih=>
    intro h1 h3;obtain⟨t',x⟩:=q;obtain⟨g1,g2,g3⟩:=h1;simp only[List.all_cons,zV]at h3;rw[List.cons_append];simp only[fget]
    split
    ·rename_i e;subst e;right;exact⟨g1.symm,g2⟩
    ·exact ih g3 h3.2
  exact key A hA hl
 intro B w0 Mx N w ρ a hs;refine⟨ρ,(hs.weaken (fun id o ho=>(CV hH id o ho).1) (fun t=>(hf t).imp id (·.1)) (fun id o ho M hr=>?_) (fun t M v hv=>?_))⟩
 ·have my:=(CV hH id o ho).2;cases o with
  |gone=>trivial
  |cells t c=>
   obtain⟨k1,arr,k2,k3,k4⟩:=hr;refine⟨k1,arr,k2,k3,fun j hj=>?_⟩;obtain⟨u,hu,hv⟩:=k4 j hj;refine⟨u,hu,?_⟩;cases c with
   |ints l=>exact hv.bP rfl
   |bools l=>exact hv.bP rfl
   |lst l=>
    simp only[Cs.len]at hj;simp only[Cs.get,zB,zJ hj,Option.getD_some]at hv⊢;exact hv.qm (zZ.1 my _ (List.getElem_mem hj))
  |gmap t ck l=>
   obtain⟨es,k1,k2,k3⟩:=hr;exact⟨es,k1,k2,fun j e q he hl=>let ⟨g1,g2,g3⟩:=k3 j e q he hl;⟨g1,g2,g3.qm (zZ.1 my q (zQ hl))⟩⟩
  |iter dB s sn la=>
   obtain⟨_,k2,k3⟩:=hr;exact⟨Option.isSome_iff_exists.1 my,k2,k3⟩
  |imap t l=>
   obtain⟨k0,es,ck,k1,k2,k3⟩:=hr;exact⟨k0,es,ck,k1,k2,fun j e k x he hl=>let ⟨g1,g2,g3⟩:=k3 j e k x he hl;⟨g1,g2.qm (zZ.1 my (k,x) (zQ hl)),g3⟩⟩
  |fmap t c=>exact hr
 ·rcases hf t with e|⟨_,e⟩
  ·rw[e];exact .any _
  ·exact hv.qm e
theorem ysp:∀fr:Fr,unl (lft fr)=fr
 |[]=>rfl
 |(s,x)::r=>by simp[lft,unl,ysp r]
attribute [go_sem] ysp
def oe(zs:List Int):List AV:=zs.flatMap fun z=>[.int .u64 (z/18446744073709551616 % 18446744073709551616),.int .u64 (z % 18446744073709551616)]
theorem Rr(p:List Int):(oe p).length=2*p.length:=by
 unfold oe;induction p with
 |nil=>rfl
 |cons x p ih=>simp[ih];omega
theorem Sx(p:List Int)(i:Nat)(h:i<p.length):(oe p).getD (i*2) .any= .int .u64 (p.getD i 0/18446744073709551616 % 18446744073709551616):=by
 unfold oe;induction p generalizing i with
 |nil=>simp at h
 |cons x p ih=>
  cases i with
  |zero=>simp
  |succ i=>
   have:=ih i (by simpa using h)
   simp only[List.flatMap_cons,List.getD_cons_succ];rw[show (i+1)*2=i*2+1+1 by omega];simpa using this
theorem Sw(p:List Int)(i:Nat)(h:i<p.length):(oe p).getD (i*2+1) .any= .int .u64 (p.getD i 0 % 18446744073709551616):=by
 unfold oe;induction p generalizing i with
 |nil=>simp at h
 |cons x p ih=>
  cases i with
  |zero=>simp
  |succ i=>
   have:=ih i (by simpa using h)
   simp only[List.flatMap_cons,List.getD_cons_succ];rw[show (i+1)*2+1=i*2+1+1+1 by omega];simpa using this
theorem y7k(p:List Int)(i:Nat)(z:Int):((oe p).set (i*2) (.int .u64 (z/18446744073709551616 % 18446744073709551616))).set (i*2+1) (.int .u64 (z % 18446744073709551616))=oe (p.set i z):=by
 unfold oe;induction p generalizing i with
 |nil=>simp
 |cons x p ih=>
  cases i with
  |zero=>simp
  |succ i=>
   have:=ih i
   simp only[List.flatMap_cons,List.set_cons_succ,List.cons_append,List.nil_append];rw[show (i+1)*2+1=i*2+1+1+1 by omega,show (i+1)*2=i*2+1+1 by omega];simp only[List.set_cons_succ];rw[this]
theorem y3y(n:Nat):(List.replicate n [AV.int .u64 0,AV.int .u64 0]).flatten=oe (List.replicate n 0):=by
 unfold oe;induction n with
 |zero=>rfl
 |succ n ih=>simp[List.replicate_succ,ih]
theorem Rq{p:List Int}{x:AV}(h:x∈oe p):∃n,x= .int .u64 n:=by
 simp only[oe,List.mem_flatMap]at h;obtain⟨z,_,h⟩:=h;simp at h;rcases h with rfl|rfl<;>exact⟨_,rfl⟩
theorem y9t(H:Hp)(p:List Int):(oe p).all (s3 H)=true:=zZ.2 fun x hx=>by obtain⟨n,rfl⟩:=Rq hx;rfl
attribute [go_sem] y9t
theorem Vi(p:List (Int×Int))(h:0<p.length):Fn Tryz.prog 61 [plA false p] (I (p.getD 0 (0,0)).1):=by
 have hc:=yb7 p;have e:=ve p 0 h;rw[Nat.zero_mul]at e;have b0:((p.length:Int)==0)=false:=by rw[zX];omega
 refine Fn.intro [.tmp 2] Tryz.func61 rfl rfl (by decide) (by simp[Tryz.ntmps61]) ?_;rw[Tryz.ntmps61]
 repeat' (first|omega|(try apply ah);simp only[go_sem,b0,e,hc]|apply ag<;>(intro h_;(try simp only[h_]);revert h_)|apply zO|with_reducible intro h_|trivial)
theorem Rp(p:List (Int×Int))(h:0<p.length)(hp:p.length<=1000000):Fn Tryz.prog 62 [plA false p] (I (p.getD (p.length-1) (0,0)).1):=by
 have hc:=yb7 p;have e:=ve p (p.length-1) (by omega);have b0:((p.length:Int)==0)=false:=by rw[zX];omega
 have e1:((p.length:Int)-1).toNat=p.length-1:=by omega
 refine Fn.intro [.tmp 2] Tryz.func62 rfl rfl (by decide) (by simp[Tryz.ntmps62]) ?_;rw[Tryz.ntmps62]
 repeat' (first|omega|(try apply ah);simp only[go_sem,b0,e,e1,hc]|apply ag<;>(intro h_;(try simp only[h_]);revert h_)|apply zO|with_reducible intro h_|trivial)
abbrev vB(p q:List (Int×Int))(low:Int)(N:Nat)(zs:List Int):Hp:=[(15,.cells 108 (.lst [.sl 2 14 0 N])),(14,.cells 112 (.lst (oe zs))),(13,.cells 3 (.lst [I low])),(2,.cells 34 (.lst [.bool false,.nils])),(1,.cells 34 (.lst [.bool false,tmA q])),(0,.cells 34 (.lst [.bool false,tmA p]))]
def Vh:fc:=[(1,[[7,8,9,10,11,12,13,14,15,16,17],[6,8,10,11,12,13,14,15,16,17],[6,7,10,11,12,13,14,15,16,17],[6,10,11,12,13,14,15,16,17],[6,7,8,9,11,12,13,16],[6,7,8,9,10,12,16],[6,7,8,9,10,11,16],[6,7,8,9,10,16],[6,7,8,9,16],[6,7,8,9,16],[6,7,8,9,10,11,12,13,14,15],[6,7,8,9],[],[]],[[],[0],[0,1],[0],[0,1,2,3],[0,1,2,3,4],[0,1,2,3,4,5],[0,1,2,3,4],[0,1,2,3],[0,1,2,3],[0,1,2,3,4,5,6,7,8,9],[0,1,2,3],[],[]])]
def HY:fc:=[(7,[[25,26,27,28,29,30,31,32,33,34],[24,27,28,30,31,32,33,34],[24,27,28,30,31,32,33,34],[24,25,26,30,31,32,33,34],[24,25,26,30,31,32,33,34],[24,30,31,32,33,34],[24,25,26,27,28,29,32,33],[24,25,26,27,28,29,32,33],[24,25,26,27,28,29,30,31],[24,25,26,27,28,29,30,31],[24,25,26,27,28,29],[]],[[],[0],[0],[0,1,2],[0,1,2],[0],[0,1,2,3,4,5],[0,1,2,3,4,5],[0,1,2,3,4,5,6,7],[0,1,2,3,4,5,6,7],[0,1,2,3,4,5],[]])]
abbrev Vy(p q:List (Int×Int))(low:Int)(N:Nat)(zs:List Int)(e1 c1 e2 c2:Int):Hp:=(19,.cells 57 (.lst [I e2,I c2]))::(18,.cells 57 (.lst [I e1,I c1]))::(17,.cells 34 (.lst [.bool false,tmA q]))::(16,.cells 34 (.lst [.bool false,tmA p]))::vB p q low N zs
theorem y0i(p q:List (Int×Int))(low:Int)(zs:List Int)(e1 c1 e2 c2 e w:Int)(N:Nat)(hN:zs.length=N)(hl: -2000000<=low/\low<=2000000)(he:low<=e/\e<low+N)(Xc:N<=4000000){fr:Fr}{K:AV->Fr->Hp->Prop}
  (hK:K (.tup []) fr ((20,.cells 112 (.lst [.int .u64 (w/18446744073709551616 % 18446744073709551616),.int .u64 (w % 18446744073709551616)]))::Vy p q low N (zs.set (e-low).toNat (zs.getD (e-low).toNat 0+w)) e1 c1 e2 c2)):
  jy Tryz.prog 65 [I e,wdA w,.ptr 15 0,.ptr 13 0] fr (Vy p q low N zs e1 c1 e2 c2) K:=by
 have hi:(e-low).toNat<zs.length:=by omega
 have g0:=Sx zs (e-low).toNat hi;have g1:=Sw zs (e-low).toNat hi;have gl:=Rr zs;have hA:=y7h (zs.getD (e-low).toNat 0) w;have hS:=y7k zs (e-low).toNat (zs.getD (e-low).toNat 0+w);generalize hk:(e-low).toNat=k at*;refine jy.intro [] Tryz.func65 rfl rfl (by decide) (by simp[Tryz.ntmps65]) ?_;rw[Tryz.ntmps65]
 repeat' (first|omega|(first|apply ah|refine aw Vh ?_|skip);simp only[go_sem,g0,g1,hk]|apply ag<;>(intro h_;(try simp only[h_]);revert h_)|apply zO|with_reducible intro h_|trivial)
 refine⟨dd.fn rfl hA ?_⟩;simp only[go_sem,g0,g1,hk,hS]
 repeat' (first|omega|(first|apply ah|refine aw Vh ?_|skip);simp only[go_sem,g0,g1,hk,hS]|apply ag<;>(intro h_;(try simp only[h_]);revert h_)|apply zO|with_reducible intro h_|trivial)
 all_goals exact hK
theorem UW{H:Hp}:∀{fr:Fr},fr.all (fun q=>s3 H q.2)=true->∀t,fget fr t= .any\/s3 H (fget fr t)=true
 |[],_,t=> .inl rfl
 |(s,x)::r,h,t=>by
  simp only[List.all_cons,zV]at h;simp only[fget]
  split
  ·exact .inr h.1
  ·exact UW h.2 t
theorem Za(p q:List (Int×Int))(low:Int)(zs:List Int)(N:Nat)(hN:zs.length=N)(hl: -2000000<=low/\low<=2000000)(Xc:N<=4000000)(hp:wZ p)(hq:wZ q)(gq:p.length<=500000)(qJ:q.length<=500000)
  (hx:∀i j,i<p.length->j<q.length->low<=(p.getD i (0,0)).1+(q.getD j (0,0)).1/\(p.getD i (0,0)).1+(q.getD j (0,0)).1<low+N) (OS:∀i,i<p.length-> -2000000<=(p.getD i (0,0)).1/\(p.getD i (0,0)).1<=2000000) (OP:∀i,i<q.length-> -2000000<=(q.getD i (0,0)).1/\(q.getD i (0,0)).1<=2000000)
  {fr:Fr} {K:AV->Fr->Hp->Prop} (jY:∀H':Hp,(hget H' 0).isSome=true->(hget H' 1).isSome=true->(hget H' 2).isSome=true->(hget H' 13).isSome=true->(hget H' 14).isSome=true->(hget H' 15).isSome=true->∀t,fget fr t= .any\/s3 H' (fget fr t)=true)
  (hK:K (.tup []) fr ((17,.cells 34 (.lst [.bool false,tmA q]))::(16,.cells 34 (.lst [.bool false,tmA p]))::vB p q low N (sQ p q low p.length zs))):
  jy Tryz.prog 64 [plA false p,plA false q,.fn 65 [.ptr 15 0,.ptr 13 0]] fr (vB p q low N zs) K:=by
 have sw:=yb7 p;have nA:=yb7 q;refine jy.intro [] Tryz.func64 rfl rfl (by decide) (by simp[Tryz.ntmps64]) ?_;rw[Tryz.ntmps64]
 repeat' (first|omega|(try apply ah);simp only[go_sem]|apply ag<;>(intro h_;(try simp only[h_]);revert h_)|apply zO|with_reducible intro h_|trivial)
 refine dr.intro (fun n fr' H=>∃i:Nat,i<=p.length/\n=p.length-i/\fr'=[(13,I i),(12,I p.length),(11,tmA p),(4,.ptr 17 0),(3,.ptr 16 0),(2,.fn 65 [.ptr 15 0,.ptr 13 0])]++lft fr/\H=(17,.cells 34 (.lst [.bool false,tmA q]))::(16,.cells 34 (.lst [.bool false,tmA p]))::vB p q low N (sQ p q low i zs)) ?_ ?_
 ·refine⟨_,_,_,?_,0,by omega,rfl,rfl,rfl⟩;refine Wk.app ?_ ?_ (jY _ rfl rfl rfl rfl rfl rfl) (fun t ht=>?_) rfl<;>(simp only[go_sem,ybm,sQ])
  all_goals repeat rw[zL (by omega)]
 rintro n fr' H ⟨i,hi,rfl,rfl,rfl⟩;by_cases iN:i<p.length
 ·have t0:=ve p i iN;have t1:=Bd p i iN;have hpi:=OS i iN;have GN:=ES hp iN;have Du:=fun j=>hx i j iN;have eP:sQ p q low (i+1) zs=rS q low (p.getD i (0,0)).1 (p.getD i (0,0)).2 q.length (sQ p q low i zs):=rfl;obtain⟨e1,wv⟩:∃e1,e1=(p.getD i (0,0)).1:=⟨_,rfl⟩;obtain⟨c1,eG⟩:∃c1,c1=(p.getD i (0,0)).2:=⟨_,rfl⟩;rw[<-wv]at t0 hpi Du eP;rw[<-eG]at t1 GN eP;clear wv eG
  have JQ:=Eu p q low i zs;rw[hN]at JQ;generalize sQ p q low i zs=zs1 at*
  repeat' (first|omega|(try apply ah);simp only[go_sem,t0,t1,sw]|apply ag<;>(intro h_;(try simp only[h_]);revert h_)|apply zO|with_reducible intro h_|trivial)
  refine dr.intro (fun n fr' H=>∃j:Nat,j<=q.length/\n=q.length-j/\fr'=[(20,I j),(19,I q.length),(18,tmA q),(7,.ptr 18 0),(13,I i),(12,I p.length),(11,tmA p),(4,.ptr 17 0),(3,.ptr 16 0),(2,.fn 65 [.ptr 15 0,.ptr 13 0])]++lft fr/\H=(18,.cells 57 (.lst [I e1,I c1]))::(17,.cells 34 (.lst [.bool false,tmA q]))::(16,.cells 34 (.lst [.bool false,tmA p]))::vB p q low N (rS q low e1 c1 j zs1)) ?_ ?_
  ·refine⟨_,_,_,?_,0,by omega,rfl,rfl,rfl⟩;refine Wk.app ?_ ?_ (jY _ rfl rfl rfl rfl rfl rfl) (fun t ht=>?_) rfl<;>(simp only[go_sem,ybm,rS])
   all_goals repeat rw[zL (by omega)]
  rintro n fr' H ⟨j,hj,rfl,rfl,rfl⟩;by_cases dH:j<q.length
  ·have s0:=ve q j dH;have s1:=Bd q j dH;have hqj:=OP j dH;have hcj:=ES hq dH;have FY:=Du j dH;have eQ:rS q low e1 c1 (j+1) zs1=(rS q low e1 c1 j zs1).set (e1+(q.getD j (0,0)).1-low).toNat ((rS q low e1 c1 j zs1).getD (e1+(q.getD j (0,0)).1-low).toNat 0+c1*(q.getD j (0,0)).2):=rfl;obtain⟨e2,DO⟩:∃e2,e2=(q.getD j (0,0)).1:=⟨_,rfl⟩;obtain⟨c2,wC⟩:∃c2,c2=(q.getD j (0,0)).2:=⟨_,rfl⟩
   rw[<-DO]at s0 hqj FY eQ;rw[<-wC]at s1 hcj eQ;clear DO wC;have iE:=IA q low e1 c1 j zs1;rw[JQ]at iE;have hP:=Yg c1 c2 (by omega) (by omega) (by omega) (by omega)
   repeat' (first|omega|(first|apply ah|refine cY HY ?_|refine aw HY ?_|skip);simp only[go_sem,s0,s1,nA]|apply ag<;>(intro h_;(try simp only[h_]);revert h_)|apply zO|with_reducible intro h_|trivial)
   refine⟨dd.fn rfl hP ?_⟩;simp only[go_sem,s0,s1,nA]
   repeat' (first|omega|(first|apply ah|refine cY HY ?_|refine aw HY ?_|skip);simp only[go_sem,s0,s1,nA]|apply ag<;>(intro h_;(try simp only[h_]);revert h_)|apply zO|with_reducible intro h_|trivial)
   refine⟨aL.inline (y0i p q low (rS q low e1 c1 j zs1) e1 c1 e2 c2 (e1+e2) (c1*c2) N iE hl FY Xc ?_)⟩;rw[<-eQ]
   repeat' (first|omega|(try apply ah);simp only[go_sem]|apply ag<;>(intro h_;(try simp only[h_]);revert h_)|apply zO|with_reducible intro h_|trivial)
   refine⟨_,_,_,?_,?_,⟨j+1,by omega,rfl,rfl,rfl⟩⟩
   ·omega
   ·refine Wk.app (A:=[(20,I ((j+1:Nat):Int)),(19,I q.length),(18,tmA q),(7,.ptr 18 0),(13,I i),(12,I p.length),(11,tmA p),(4,.ptr 17 0),(3,.ptr 16 0),(2,.fn 65 [.ptr 15 0,.ptr 13 0])]) ?_ ?_ (jY _ rfl rfl rfl rfl rfl rfl) (fun t ht=>?_) rfl<;>(simp only[go_sem,ybm])
    all_goals first|omega|repeat rw[zL (by omega)]
  ·obtain rfl:j=q.length:=by omega
   repeat' (first|omega|(try apply ah);simp only[go_sem]|apply ag<;>(intro h_;(try simp only[h_]);revert h_)|apply zO|with_reducible intro h_|trivial)
   refine⟨_,_,_,?_,?_,⟨i+1,by omega,rfl,rfl,rfl⟩⟩
   ·omega
   ·rw[eP];refine Wk.app (A:=[(13,I ((i+1:Nat):Int)),(12,I p.length),(11,tmA p),(4,.ptr 17 0),(3,.ptr 16 0),(2,.fn 65 [.ptr 15 0,.ptr 13 0])]) ?_ ?_ (jY _ rfl rfl rfl rfl rfl rfl) (fun t ht=>?_) rfl<;>(simp only[go_sem,ybm])
    all_goals first|omega|repeat rw[zL (by omega)]
 ·obtain rfl:i=p.length:=by omega
  repeat' (first|omega|(try apply ah);simp only[go_sem]|apply ag<;>(intro h_;(try simp only[h_]);revert h_)|apply zO|with_reducible intro h_|trivial)
  all_goals exact hK
def K9:fc:=[(5,[[33,36,38,5],[33,36,38,5],[31,32,36,38,5],[36,38,5],[36,37,38,39,40,5],[31,32,33,34,35,38,5],[35,38,5],[31,32,33,34,35,36,37,5],[35,5],[35,5],[31,32,33,34,35,36,37,38,39,40],[40],[]],[[],[],[0,1],[],[],[0,1,2,3,4],[4],[0,1,2,3,4,5,6],[4],[4],[0,1,2,3,4,5,6,7,8,9],[9],[]])]
structure K8(p:List (Int×Int)):Prop where
 fits:wZ p
 len:p.length<=100000
 asc:∀i j,i<=j->j<p.length->(p.getD i (0,0)).1<=(p.getD j (0,0)).1
 exp:∀i,i<p.length-> -1000000<=(p.getD i (0,0)).1/\(p.getD i (0,0)).1<=1000000
theorem To{l:List Int}{k:Nat}(h:k<l.length):l.take (k+1)=l.take k++[l.getD k 0]:=by
 rw[List.take_succ_eq_append_getElem h];simp[h]
theorem y7l(i:Nat)(p:List Int):(oe p).map (cutV i)=oe p:=by
 conv=>rhs;rw[<-List.map_id (oe p)]
 exact List.map_congr_left fun x hx=>by obtain⟨n,rfl⟩:=Rq hx;rfl
theorem Zk(p q:List (Int×Int))(hp:K8 p)(hq:K8 q)(kY:0<p.length)(mD:0<q.length)(sr: -1048576<=bf p+bf q)(gJ:lE p+lE q<=1048576)
  (gX:lE p+lE q-(bf p+bf q)<1048576) (hde:lE p+lE q-(bf p+bf q)<=64+4*p.length*q.length) (hz:∀z∈oU p q,-1125899906842624<=z/\z<=1125899906842624):
  Fn Tryz.prog 24 [plA false p,plA false q] (plA false (gF (bf p+bf q) (oU p q))):=by
 have L1:=Vi p kY;have L2:=Vi q mD;have H1:=Rp p kY (by have:=hp.len;omega);have H2:=Rp q mD (by have:=hq.len;omega);have a1:=hp.asc 0 (p.length-1) (by omega) (by omega);have a2:=hq.asc 0 (q.length-1) (by omega) (by omega);have x1:=hp.exp 0 kY;have x2:=hq.exp 0 mD;have x3:=hp.exp (p.length-1) (by omega);have x4:=hq.exp (q.length-1) (by omega);have pl:=hp.len;have ql:=hq.len
 have hx:∀i j,i<p.length->j<q.length->bf p+bf q<=(p.getD i (0,0)).1+(q.getD j (0,0)).1/\(p.getD i (0,0)).1+(q.getD j (0,0)).1<=lE p+lE q:=fun i j hi hj=>by
  have b1:=hp.asc 0 i (by omega) hi;have b2:=hq.asc 0 j (by omega) hj;have b3:=hp.asc i (p.length-1) (by omega) (by omega);have b4:=hq.asc j (q.length-1) (by omega) (by omega);unfold bf lE;omega
 have OS:∀i,i<p.length-> -2000000<=(p.getD i (0,0)).1/\(p.getD i (0,0)).1<=2000000:=fun i hi=>by have:=hp.exp i hi;omega
 have OP:∀i,i<q.length-> -2000000<=(q.getD i (0,0)).1/\(q.getD i (0,0)).1<=2000000:=fun i hi=>by have:=hq.exp i hi;omega
 have Wq:p.length*q.length<=100000*100000:=Nat.mul_le_mul pl ql;have J5:(4:Int)*p.length*q.length=4*((p.length*q.length:Nat):Int):=by rw[Int.natCast_mul,Int.mul_assoc]
 unfold oU at hz⊢;unfold bf lE at*;generalize (p.getD 0 (0,0)).1=lp at*;generalize (q.getD 0 (0,0)).1=lq at*;generalize (p.getD (p.length-1) (0,0)).1=mE at*;generalize (q.getD (q.length-1) (0,0)).1=BF at*;have b0:((p.length:Int)==0)=false:=by rw[zX];omega
 have b1:((q.length:Int)==0)=false:=by rw[zX];omega
 have b2:decide (lp+lq< -1048576)=false:=by simp;omega
 have b3:decide (1048576<mE+BF)=false:=by simp;omega
 have b4:decide (64+4*(p.length:Int)*q.length<mE+BF-(lp+lq))=false:=by simp;omega
 refine Fn.av [.cell 4 34] Tryz.func24 rfl rfl (by decide) (by simp[Tryz.ntmps24]) ?_;rw[Tryz.ntmps24]
 repeat' (first|omega|(first|apply ah|refine aw K9 ?_|skip);simp only[go_sem,b0,b1]|apply ag<;>(intro h_;(try simp only[h_]);revert h_)|apply zO|with_reducible intro h_|trivial)
 refine⟨dd.fn rfl L1 ?_⟩;simp only[go_sem];refine⟨dd.fn rfl L2 ?_⟩;simp only[go_sem]
 repeat' (first|omega|(first|apply ah|refine aw K9 ?_|skip);simp only[go_sem,b0,b1]|apply ag<;>(intro h_;(try simp only[h_]);revert h_)|apply zO|with_reducible intro h_|trivial)
 refine⟨dd.fn rfl H1 ?_⟩;simp only[go_sem];refine⟨dd.fn rfl H2 ?_⟩;simp only[go_sem]
 repeat' (first|omega|(first|apply ah|refine aw K9 ?_|skip);simp only[go_sem,b2,b3,b4,y3y]|apply ag<;>(intro h_;(try simp only[h_]);revert h_)|apply zO|with_reducible intro h_|trivial)
 obtain⟨N,hN⟩:∃N:Nat,(mE+BF-(lp+lq)+1).toNat=N:=⟨_,rfl⟩;rw[hN]at hz⊢
 refine⟨aL.inline (Za p q (lp+lq) (List.replicate N 0) N (by simp) (by omega) (by omega) hp.fits hq.fits (by omega) (by omega) (fun i j hi hj=>by have:=hx i j hi hj;omega) OS OP
  (fun H' g0 g1 g2 g13 g14 g15=>UW (by simp only[go_sem,g0,g1,g2,g13,g14,g15])) ?_)⟩
 have JQ:=Eu p q (lp+lq) p.length (List.replicate N 0);rw[List.length_replicate]at JQ;generalize sQ p q (lp+lq) p.length (List.replicate N 0)=zs at*;have JS:=Rr zs
 repeat' (first|omega|(try apply ah);simp only[go_sem]|apply ag<;>(intro h_;(try simp only[h_]);revert h_)|apply zO|with_reducible intro h_|trivial)
 refine dr.intro (fun n fr H=>∃k:Nat,k<=N/\n=N-k/\fr=[(75,I k),(74,I N),(73,.sl 2 14 0 N),(8,.ptr 18 0),(5,.ptr 13 0),(4,.ptr 2 0)]/\
  ((gF (lp+lq) (zs.take k)=[]/\H=[(18,.cells 34 (.lst [.bool false,.nils])),(14,.cells 112 (.lst (oe zs))),(13,.cells 3 (.lst [I (lp+lq)])),(2,.cells 34 (.lst [.bool false,.nils]))])\/
   H=[(21,.cells 57 (.lst (e9 (gF (lp+lq) (zs.take k))))),(18,.cells 34 (.lst [.bool false,.sl 2 21 0 (gF (lp+lq) (zs.take k)).length])),(14,.cells 112 (.lst (oe zs))),(13,.cells 3 (.lst [I (lp+lq)])),(2,.cells 34 (.lst [.bool false,.nils]))])) ?_ ?_
 ·refine⟨_,_,_,?_,0,by omega,rfl,rfl,.inl ⟨by simp[gF],rfl⟩⟩;refine Wk.sub ?_ ?_<;>(simp only[go_sem,ybm])
  all_goals simp_all
 rintro n fr H ⟨k,hk,rfl,rfl,hc⟩;have F6:=LJ (lp+lq) (zs.take k);rw[List.length_take]at F6;by_cases cX:k<N
 ·have g0:=Sx zs k (by omega);have g1:=Sw zs k (by omega);have Ow:=hz (zs.getD k 0) (by simp[zB,zJ (show k<zs.length by omega)]);have hS:=y3x (zs.getD k 0) Ow.1 Ow.2;have eT:=Mp (lp+lq) (zs.take k) (zs.getD k 0);rw[<-To (by omega),List.length_take,show min k zs.length=k by omega]at eT;generalize zs.getD k 0=z at*
  have hlen:=yb7 (gF (lp+lq) (zs.take k));by_cases uH:z=0
  ·subst uH;rw[zM rfl,List.append_nil]at eT;rcases hc with ⟨hn,rfl⟩|rfl
   ·repeat' (first|omega|(try apply ah);simp only[go_sem,g0,g1,JS]|apply ag<;>(intro h_;(try simp only[h_]);revert h_)|apply zO|with_reducible intro h_|trivial)
    refine⟨aL.fn rfl hS ?_⟩
    repeat' (first|omega|(try apply ah);simp only[go_sem]|apply ag<;>(intro h_;(try simp only[h_]);revert h_)|apply zO|with_reducible intro h_|trivial)
    refine⟨_,_,_,?_,?_,⟨k+1,by omega,rfl,rfl,.inl ⟨by rw[eT];exact hn,rfl⟩⟩⟩
    ·omega
    ·refine Wk.sub ?_ ?_<;>(simp only[go_sem,ybm])
     all_goals simp_all
   ·repeat' (first|omega|(try apply ah);simp only[go_sem,g0,g1,JS]|apply ag<;>(intro h_;(try simp only[h_]);revert h_)|apply zO|with_reducible intro h_|trivial)
    refine⟨aL.fn rfl hS ?_⟩
    repeat' (first|omega|(try apply ah);simp only[go_sem]|apply ag<;>(intro h_;(try simp only[h_]);revert h_)|apply zO|with_reducible intro h_|trivial)
    refine⟨_,_,_,?_,?_,⟨k+1,by omega,rfl,rfl,.inr rfl⟩⟩
    ·omega
    ·rw[eT];refine Wk.sub ?_ ?_<;>(simp only[go_sem,ybm])
     all_goals simp_all
  ·rw[zL uH]at eT;have bz:(z !=0)=true:=by simpa using uH
   rcases hc with ⟨hn,rfl⟩|rfl
   ·rw[hn,List.nil_append]at eT
    repeat' (first|omega|(try apply ah);simp only[go_sem,g0,g1,JS]|apply ag<;>(intro h_;(try simp only[h_]);revert h_)|apply zO|with_reducible intro h_|trivial)
    refine⟨aL.fn rfl hS ?_⟩
    repeat' (first|omega|(try apply ah);simp only[go_sem,bz]|apply ag<;>(intro h_;(try simp only[h_]);revert h_)|apply zO|with_reducible intro h_|trivial)
    refine⟨_,_,_,?_,?_,⟨k+1,by omega,rfl,rfl,.inr rfl⟩⟩
    ·omega
    ·rw[eT];refine Wk.sub ?_ ?_<;>(simp only[go_sem,ybm])
     all_goals rfl
   ·repeat' (first|omega|(try apply ah);simp only[go_sem,g0,g1,JS]|apply ag<;>(intro h_;(try simp only[h_]);revert h_)|apply zO|with_reducible intro h_|trivial)
    refine⟨aL.fn rfl hS ?_⟩
    repeat' (first|omega|(try apply ah);simp only[go_sem,bz,hlen,y7l]|apply ag<;>(intro h_;(try simp only[h_]);revert h_)|apply zO|with_reducible intro h_|trivial)
    rw[EH];refine⟨_,_,_,?_,?_,⟨k+1,by omega,rfl,rfl,.inr rfl⟩⟩
    ·omega
    ·rw[eT];refine Wk.sub ?_ ?_<;>(simp only[go_sem,ybm,zG])
     all_goals simp_all
 ·obtain rfl:k=N:=by omega
  rw[zU (by omega)]at hc F6;rcases hc with ⟨hn,rfl⟩|rfl
  ·repeat' (first|omega|(try apply ah);simp only[go_sem]|apply ag<;>(intro h_;(try simp only[h_]);revert h_)|apply zO|with_reducible intro h_|trivial)
   all_goals rw[hn]
   all_goals exact aT.pK (.cons (aT.refl _) (.cons (aT.nils (by omega) rfl) .nil))
  ·have hlen:=yb7 (gF (lp+lq) zs)
   repeat' (first|omega|(try apply ah);simp only[go_sem,yhb]|apply ag<;>(intro h_;(try simp only[h_]);revert h_)|apply zO|with_reducible intro h_|trivial)
   all_goals exact aT.of (by rw[zU (by omega)])
theorem G5(low:Int)(cs:List Int)(hl: -1000000<=low/\low+cs.length<=1000000)(hn:cs.length<=100000)(hc:∀c∈cs,-1125899906842624<=c/\c<=1125899906842624):
  Fn Tryz.prog 23 [I low,roI cs] (plA false (gF low cs)):=by
 refine Fn.av [.cell 4 34] Tryz.func23 rfl rfl (by decide) (by simp[Tryz.ntmps23]) ?_;rw[Tryz.ntmps23]
 repeat' (first|omega|(try apply ah);simp only[go_sem]|apply ag<;>(intro h_;(try simp only[h_]);revert h_)|apply zO|with_reducible intro h_|trivial)
 refine dr.intro (fun n fr H=>∃k:Nat,k<=cs.length/\n=cs.length-k/\fr=[(10,I k),(9,I cs.length),(8,roI cs),(5,.ptr 1 0),(4,.ptr 0 0),(0,I low)]/\
  ((gF low (cs.take k)=[]/\H=[(1,.cells 34 (.lst [.bool false,.nils])),(0,.cells 34 (.lst [.bool false,.nils]))])\/
   H=[(3,.cells 57 (.lst (e9 (gF low (cs.take k))))),(1,.cells 34 (.lst [.bool false,.sl 2 3 0 (gF low (cs.take k)).length])),(0,.cells 34 (.lst [.bool false,.nils]))])) ?_ ?_
 ·refine⟨_,_,_,?_,0,by omega,rfl,rfl,.inl ⟨by simp[gF],rfl⟩⟩;refine Wk.sub ?_ ?_<;>simp only[go_sem]
  all_goals simp_all
 rintro n fr H ⟨k,hk,rfl,rfl,wz⟩;have F6:=LJ low (cs.take k);rw[List.length_take]at F6;by_cases cX:k<cs.length
 ·have Ow:=hc (cs.getD k 0) (by simp[zB,zJ cX]);have eT:=Mp low (cs.take k) (cs.getD k 0);rw[<-To cX,List.length_take,show min k cs.length=k by omega]at eT;have xv:=Bb (cs.getD k 0) 1125899906842624 (by omega) (by omega);have Dw:=Bb (low+k) 1048576 (by omega) (by omega);rw[Mf (by omega) (by omega)]at xv Dw
  have bl:decide (1048576<low)=false:=by simp;omega
  have hlen:=yb7 (gF low (cs.take k));by_cases uH:cs.getD k 0=0
  ·have bz:(cs.getD k 0==0)=true:=by simpa using uH
   rw[zM uH,List.append_nil]at eT;rcases wz with ⟨hn,rfl⟩|rfl
   ·repeat' (first|omega|(try apply ah);simp only[go_sem,bz]|apply ag<;>(intro h_;(try simp only[h_]);revert h_)|apply zO|with_reducible intro h_|trivial)
    refine⟨_,_,_,?_,?_,⟨k+1,by omega,rfl,rfl,.inl ⟨by rw[eT];exact hn,rfl⟩⟩⟩
    ·omega
    ·refine Wk.sub ?_ ?_<;>(simp only[go_sem,ybm])
     all_goals simp_all
   ·repeat' (first|omega|(try apply ah);simp only[go_sem,bz]|apply ag<;>(intro h_;(try simp only[h_]);revert h_)|apply zO|with_reducible intro h_|trivial)
    refine⟨_,_,_,?_,?_,⟨k+1,by omega,rfl,rfl,.inr rfl⟩⟩
    ·omega
    ·rw[eT];refine Wk.sub ?_ ?_<;>(simp only[go_sem,ybm])
     all_goals simp_all
  ·have bz:(cs.getD k 0==0)=false:=by rw[zX];exact uH
   rw[zL uH]at eT;rcases wz with ⟨hn,rfl⟩|rfl
   ·rw[hn,List.nil_append]at eT
    repeat' (first|omega|(try apply ah);simp only[go_sem,bz]|apply ag<;>(intro h_;(try simp only[h_]);revert h_)|apply zO|with_reducible intro h_|trivial)
    refine⟨aL.fn rfl xv ?_⟩
    repeat' (first|omega|(try apply ah);simp only[go_sem,bl]|apply ag<;>(intro h_;(try simp only[h_]);revert h_)|apply zO|with_reducible intro h_|trivial)
    refine⟨aL.fn rfl Dw ?_⟩
    repeat' (first|omega|(try apply ah);simp only[go_sem]|apply ag<;>(intro h_;(try simp only[h_]);revert h_)|apply zO|with_reducible intro h_|trivial)
    refine⟨_,_,_,?_,?_,⟨k+1,by omega,rfl,rfl,.inr rfl⟩⟩
    ·omega
    ·rw[eT];refine Wk.sub ?_ ?_<;>(simp only[go_sem,ybm])
     all_goals first|rfl|simp_all
   ·repeat' (first|omega|(try apply ah);simp only[go_sem,bz]|apply ag<;>(intro h_;(try simp only[h_]);revert h_)|apply zO|with_reducible intro h_|trivial)
    refine⟨aL.fn rfl xv ?_⟩
    repeat' (first|omega|(try apply ah);simp only[go_sem,bl]|apply ag<;>(intro h_;(try simp only[h_]);revert h_)|apply zO|with_reducible intro h_|trivial)
    refine⟨aL.fn rfl Dw ?_⟩
    repeat' (first|omega|(try apply ah);simp only[go_sem,hlen]|apply ag<;>(intro h_;(try simp only[h_]);revert h_)|apply zO|with_reducible intro h_|trivial)
    rw[EH];refine⟨_,_,_,?_,?_,⟨k+1,by omega,rfl,rfl,.inr rfl⟩⟩
    ·omega
    ·rw[eT];refine Wk.sub ?_ ?_<;>(simp only[go_sem,ybm,zG])
     all_goals simp_all
 ·obtain rfl:k=cs.length:=by omega
  rw[zU (zA _)]at wz F6;rcases wz with ⟨hn,rfl⟩|rfl
  ·repeat' (first|omega|(try apply ah);simp only[go_sem]|apply ag<;>(intro h_;(try simp only[h_]);revert h_)|apply zO|with_reducible intro h_|trivial)
   all_goals rw[hn]
   all_goals exact aT.pK (.cons (aT.refl _) (.cons (aT.nils (by omega) rfl) .nil))
  ·have hlen:=yb7 (gF low cs)
   repeat' (first|omega|(try apply ah);simp only[go_sem,yhb]|apply ag<;>(intro h_;(try simp only[h_]);revert h_)|apply zO|with_reducible intro h_|trivial)
   all_goals exact aT.of (by rw[zU (by omega)])
theorem y7m(q:List (Int×Int)):Fn Tryz.prog 24 [plA false [],plA false q] (plA false []):=by
 refine Fn.av [.cell 4 34] Tryz.func24 rfl rfl (by decide) (by simp[Tryz.ntmps24]) ?_;rw[Tryz.ntmps24]
 repeat' (first|omega|(try apply ah);simp only[go_sem]|apply ag<;>(intro h_;(try simp only[h_]);revert h_)|apply zO|with_reducible intro h_|trivial)
 all_goals exact aT.pK (.cons (aT.refl _) (.cons (aT.nils (by omega) rfl) .nil))
abbrev ug(g:Nat)(p q acc:List (Int×Int))(fits:Bool):Hp:=[(6,.cells 4 (.lst [.bool fits])),(5,.cells 34 (.lst [.bool false,.sl 2 4 0 acc.length])),(4,.cells 57 (.lst (e9 acc))),(3,.cells 34 (.lst [.bool false,.nils])),(2,.cells 62 (.lst [.fn g []])),(1,.cells 34 (.lst [.bool false,tmA q])),(0,.cells 34 (.lst [.bool false,tmA p]))]
theorem EG(fr:Fr)(K:AV->Fr->Hp->Prop)(g:Nat)(p q acc:List (Int×Int))(fits:Bool)(e a b c:Int)(hg:Fn Tryz.prog g [I a,I b] (I c))(hl:acc.length<=1000000)
  (Ay:c=0->K (.tup []) fr (ug g p q acc (fits&&jO c 1125899906842624))) (p7:c≠0->K (.tup []) (fcut 4 fr) [(4,.cells 57 (.lst (e9 (acc++[(e,c)])))),(7,.cells 57 (.lst [I e,I c])),(6,.cells 4 (.lst [.bool (fits&&jO c 1125899906842624)])),(5,.cells 34 (.lst [.bool false,.sl 2 4 0 (acc.length+1)])),(3,.cells 34 (.lst [.bool false,.nils])),(2,.cells 62 (.lst [.fn g []])),(1,.cells 34 (.lst [.bool false,tmA q])),(0,.cells 34 (.lst [.bool false,tmA p]))]):jy Tryz.prog 70 [I e,I a,I b,.ptr 2 0,.ptr 6 0,.ptr 5 0] fr (ug g p q acc fits) K:=by
 unfold ug at*;have hw:=Bb c 1125899906842624 (by omega) (by omega);refine jy.intro [] Tryz.func70 rfl rfl (by decide) (by simp[Tryz.ntmps70]) ?_;rw[Tryz.ntmps70]
 repeat' (first|omega|(try apply ah);simp only[go_sem]|apply ag<;>(intro h_;(try simp only[h_]);revert h_)|apply zO|with_reducible intro h_|trivial)
 refine⟨aL.fn rfl hg ?_⟩;cases fits
 ·repeat' (first|omega|(try apply ah);simp only[go_sem]|apply ag<;>(intro h_;(try simp only[h_]);revert h_)|apply zO|with_reducible intro h_|trivial)
  ·rw[EH];exact p7 (by assumption)
  ·exact Ay (by assumption)
 ·repeat' (first|omega|(try apply ah);simp only[go_sem]|apply ag<;>(intro h_;(try simp only[h_]);revert h_)|apply zO|with_reducible intro h_|trivial)
  refine⟨aL.fn rfl hw ?_⟩
  repeat' (first|omega|(try apply ah);simp only[go_sem]|apply ag<;>(intro h_;(try simp only[h_]);revert h_)|apply zO|with_reducible intro h_|trivial)
  ·rw[EH];exact p7 (by assumption)
  ·exact Ay (by assumption)
theorem HL{f:Int->Int->Int}{p q:List (Int×Int)}{i j:Nat}(hi:i<p.length)(h:j=q.length\/(p.getD i (0,0)).1<(q.getD j (0,0)).1)(hj:j<=q.length):dR f (p.drop i) (q.drop j)=((p.getD i (0,0)).1,f (p.getD i (0,0)).2 0)::dR f (p.drop (i+1)) (q.drop j):=by
 rw[List.drop_eq_getElem_cons hi];have e:p.getD i (0,0)=p[i]:=by simp[hi]
 rw[e]at h⊢;rcases zY j q.length with g|g
 ·rw[List.drop_eq_getElem_cons g];have e2:q.getD j (0,0)=q[j]:=by simp[g]
  rw[e2]at h
  conv=>lhs;unfold dR
  rw[zM (by omega)]
 ·rw[List.drop_of_length_le g]
  conv=>lhs;unfold dR
theorem HK{f:Int->Int->Int}{p q:List (Int×Int)}{i j:Nat}(hj:j<q.length)(h:i=p.length\/(q.getD j (0,0)).1<(p.getD i (0,0)).1)(hi:i<=p.length):dR f (p.drop i) (q.drop j)=((q.getD j (0,0)).1,f 0 (q.getD j (0,0)).2)::dR f (p.drop i) (q.drop (j+1)):=by
 rw[List.drop_eq_getElem_cons hj];have e:q.getD j (0,0)=q[j]:=by simp[hj]
 rw[e]at h⊢;rcases zY i p.length with g|g
 ·rw[List.drop_eq_getElem_cons g];have e2:p.getD i (0,0)=p[i]:=by simp[g]
  rw[e2]at h
  conv=>lhs;unfold dR
  rw[zL (by omega),zM (by omega)]
 ·rw[List.drop_of_length_le g]
  conv=>lhs;unfold dR
theorem Vg{f:Int->Int->Int}{p q:List (Int×Int)}{i j:Nat}(hi:i<p.length)(hj:j<q.length)(h:(q.getD j (0,0)).1=(p.getD i (0,0)).1):dR f (p.drop i) (q.drop j)=((p.getD i (0,0)).1,f (p.getD i (0,0)).2 (q.getD j (0,0)).2)::dR f (p.drop (i+1)) (q.drop (j+1)):=by
 rw[List.drop_eq_getElem_cons hi,List.drop_eq_getElem_cons hj];have e:p.getD i (0,0)=p[i]:=by simp[hi]
 have e2:q.getD j (0,0)=q[j]:=by simp[hj]
 rw[e,e2]at h⊢
 conv=>lhs;unfold dR
 rw[zL (by omega),zL (by omega)]
theorem EF{c e:Int}(l:List (Int×Int))(h:c=0):nz (l++[(e,c)])=nz l:=by unfold nz;rw[List.filter_append];simp[h]
theorem EE{c e:Int}(l:List (Int×Int))(h:c≠0):nz (l++[(e,c)])=nz l++[(e,c)]:=by unfold nz;rw[List.filter_append];simp[h]
theorem xi(l:List (Int×Int))(e c:Int):rJ (l++[(e,c)])=(rJ l&&jO c 1125899906842624):=by unfold rJ;simp
end Go.Proofs.YthohfoombimbeaaGreatDoor
