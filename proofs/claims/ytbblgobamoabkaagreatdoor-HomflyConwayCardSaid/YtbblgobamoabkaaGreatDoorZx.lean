/- Layer 12: integers of 128 bits: products, and back to 64 bits. -/
import Derived.Test.YtbblgobamoabkaaGreatDoorZw
import Derived.Test.YtbblgobamoabkaaGreatDoorZb
import Derived.Test.YtbblgobamoabkaaGreatDoorZa
import Derived.Test.YtbblgobamoabkaaGreatDoorZc
import Derived.Test.YtbblgobamoabkaaGreatDoorZh
set_option linter.unusedSimpArgs false
set_option linter.unusedVariables false
namespace Go.Proofs.YtbblgobamoabkaaGreatDoor
open Go Go.RowKit
set_option maxHeartbeats 4000000
set_option maxRecDepth 100000
theorem yy2 (x:Int) (h0: -4611686018427387904<=x) (h1:x<=4611686018427387904):Fn Tryz.prog 134 [I x] (.int .u64 (if x<0 then-x else x)):=by
 by_cases h:x<0
 ·have b0:decide (x<0)=true:=by simpa using h
  have e1:IntKind.u64.wrap (0-IntKind.u64.wrap x)= -x:=by rw [IntKind.wrap_u64,IntKind.wrap_u64];omega
  rw [if_pos h]
  refine Fn.intro [.tmp 2] Tryz.func134 rfl rfl (by decide) (by simp [Tryz.ntmps134]) ?_;rw [Tryz.ntmps134]
  repeat' (first|omega|(try apply yaa);simp only [go_sem,sevalprocAttr,b0,e1]|apply yab<;>(intro h_;(try simp only [h_]);revert h_)|apply And.intro|with_reducible intro h_|trivial|simp only [go_sem,la2];omega)
 ·have b0:decide (x<0)=false:=by simpa using h
  have e1:IntKind.u64.wrap x=x:=by rw [IntKind.wrap_u64];omega
  rw [if_neg h]
  refine Fn.intro [.tmp 2] Tryz.func134 rfl rfl (by decide) (by simp [Tryz.ntmps134]) ?_;rw [Tryz.ntmps134]
  repeat' (first|omega|(try apply yaa);simp only [go_sem,sevalprocAttr,b0,e1]|apply yab<;>(intro h_;(try simp only [h_]);revert h_)|apply And.intro|with_reducible intro h_|trivial|simp only [go_sem,la2];omega)
theorem y19 (a b:Nat) (ha:a<18446744073709551616) (hb:b<18446744073709551616):Fn Tryz.prog 136 [.int .u64 a, .int .u64 b] (.tup [.int .u64 ((a*b/18446744073709551616:Nat):Int), .int .u64 ((a*b % 18446744073709551616:Nat):Int)]):=by
 refine ⟨⟨_,Tryz.func136,rfl,by decide⟩,fun w Mx vs hMx hl hv=>?_⟩
 match vs,hl,hv with
 |[v0,v1],_,hv=>
  have e0:=(hv 0 v0 _ rfl rfl).int_inv
  have e1:=(hv 1 v1 _ rfl rfl).int_inv
  subst e0 e1
  refine (Tryz.bits_Mul64 a b ha hb w).mono ?_
  rintro e w' ⟨rfl,rfl⟩
  refine ⟨_,rfl,Below.refl _ _, .tup [.int .u64 _, .int .u64 _] _ rfl fun i u x hu hx=>?_⟩
  match i,hu,hx with
  |0,hu,hx=>cases hu;cases hx;exact .int _ _
  |1,hu,hx=>cases hu;cases hx;exact .int _ _
theorem yvg (x y:Int) (h0: -4611686018427387904<=x) (h1:x<=4611686018427387904) (h2: -4611686018427387904<=y) (h3:y<=4611686018427387904):Fn Tryz.prog 100 [I x,I y] (wdA (x*y)):=by
 have m1:=yy2 x h0 h1
 have m2:=yy2 y h2 h3
 obtain ⟨a,ha⟩: ∃a:Nat,(if x<0 then-x else x)=a:=⟨(if x<0 then-x else x).toNat,by split<;>omega⟩
 obtain ⟨b,hb⟩: ∃b:Nat,(if y<0 then-y else y)=b:=⟨(if y<0 then-y else y).toNat,by split<;>omega⟩
 rw [ha] at m1
 rw [hb] at m2
 have hab:a<=4611686018427387904:=by split at ha<;>omega
 have hbb:b<=4611686018427387904:=by split at hb<;>omega
 have hM:=y19 a b (by omega) (by omega)
 have hpb:a*b<=4611686018427387904*4611686018427387904:=Nat.mul_le_mul hab hbb
 have e1:((a*b/18446744073709551616:Nat):Int)=((a*b:Nat):Int)/18446744073709551616 % 18446744073709551616:=by omega
 have e2:((a*b % 18446744073709551616:Nat):Int)=((a*b:Nat):Int)% 18446744073709551616:=by omega
 rw [e1,e2] at hM
 have hN:=ytm ((a*b:Nat):Int)
 have hxy:x*y=if decide (x<0)=decide (y<0) then ((a*b:Nat):Int) else-((a*b:Nat):Int):=by
  rw [Int.natCast_mul,←ha,←hb]
  by_cases c1:x<0<;>by_cases c2:y<0<;>simp [c1,c2,Int.neg_mul,Int.mul_neg]
 obtain ⟨p,hp⟩: ∃p:Int,p=((a*b:Nat):Int):=⟨_,rfl⟩
 rw [←hp] at hM hN hxy
 clear e1 e2
 by_cases hc:decide (x<0)=decide (y<0)
 ·rw [if_pos hc] at hxy
  have b0:(decide (x<0)!=decide (y<0))=false:=by rw [hc];simp
  rw [hxy]
  refine Fn.introL [.cell 4 131] Tryz.func100 rfl rfl (by decide) (by simp [Tryz.ntmps100]) ?_;rw [Tryz.ntmps100]
  repeat' (first|omega|(try apply yaa);simp only [go_sem,sevalprocAttr]|apply yab<;>(intro h_;(try simp only [h_]);revert h_)|apply And.intro|with_reducible intro h_|trivial|simp only [go_sem,la2];omega)
  refine ⟨yad.fn rfl m1 ?_⟩
  repeat' (first|omega|(try apply yaa);simp only [go_sem,sevalprocAttr]|apply yab<;>(intro h_;(try simp only [h_]);revert h_)|apply And.intro|with_reducible intro h_|trivial|simp only [go_sem,la2];omega)
  refine ⟨yad.fn rfl m2 ?_⟩
  repeat' (first|omega|(try apply yaa);simp only [go_sem,sevalprocAttr]|apply yab<;>(intro h_;(try simp only [h_]);revert h_)|apply And.intro|with_reducible intro h_|trivial|simp only [go_sem,la2];omega)
  refine ⟨yad.fn rfl hM ?_⟩
  repeat' (first|omega|(try apply yaa);simp only [go_sem,sevalprocAttr,b0]|apply yab<;>(intro h_;(try simp only [h_]);revert h_)|apply And.intro|with_reducible intro h_|trivial|simp only [go_sem,la2];omega)
  all_goals exact LeA.refl _
 ·rw [if_neg hc] at hxy
  have b0:(decide (x<0)!=decide (y<0))=true:=by simpa [bne] using hc
  rw [hxy]
  refine Fn.introL [.cell 4 131] Tryz.func100 rfl rfl (by decide) (by simp [Tryz.ntmps100]) ?_;rw [Tryz.ntmps100]
  repeat' (first|omega|(try apply yaa);simp only [go_sem,sevalprocAttr]|apply yab<;>(intro h_;(try simp only [h_]);revert h_)|apply And.intro|with_reducible intro h_|trivial|simp only [go_sem,la2];omega)
  refine ⟨yad.fn rfl m1 ?_⟩
  repeat' (first|omega|(try apply yaa);simp only [go_sem,sevalprocAttr]|apply yab<;>(intro h_;(try simp only [h_]);revert h_)|apply And.intro|with_reducible intro h_|trivial|simp only [go_sem,la2];omega)
  refine ⟨yad.fn rfl m2 ?_⟩
  repeat' (first|omega|(try apply yaa);simp only [go_sem,sevalprocAttr]|apply yab<;>(intro h_;(try simp only [h_]);revert h_)|apply And.intro|with_reducible intro h_|trivial|simp only [go_sem,la2];omega)
  refine ⟨yad.fn rfl hM ?_⟩
  repeat' (first|omega|(try apply yaa);simp only [go_sem,sevalprocAttr,b0]|apply yab<;>(intro h_;(try simp only [h_]);revert h_)|apply And.intro|with_reducible intro h_|trivial|simp only [go_sem,la2];omega)
  refine ⟨yad.fn rfl hN ?_⟩
  repeat' (first|omega|(try apply yaa);simp only [go_sem,sevalprocAttr]|apply yab<;>(intro h_;(try simp only [h_]);revert h_)|apply And.intro|with_reducible intro h_|trivial|simp only [go_sem,la2];omega)
  all_goals exact LeA.refl _
theorem y2a (z:Int) (h0: -170141183460469231731687303715884105728<=z) (h1:z<170141183460469231731687303715884105728):Fn Tryz.prog 133 [wdA z] (.tup [wdA (if z<0 then-z else z), .bool (decide (z<0))]):=by
 have hN:=ytm z
 by_cases h:z<0
 ·have b0:(z/18446744073709551616 % 18446744073709551616/2^(63:Int).toNat==1)=true:=by
   rw [show (2:Int)^(63:Int).toNat=9223372036854775808 by decide,beq_iff_eq];omega
  have b1:decide (z<0)=true:=by simpa using h
  rw [if_pos h,b1]
  refine Fn.introL [.cell 2 131, .tmp 3] Tryz.func133 rfl rfl (by decide) (by simp [Tryz.ntmps133]) ?_;rw [Tryz.ntmps133]
  repeat' (first|omega|(try apply yaa);simp only [go_sem,sevalprocAttr,b0]|apply yab<;>(intro h_;(try simp only [h_]);revert h_)|apply And.intro|with_reducible intro h_|trivial|simp only [go_sem,la2];omega)
  refine ⟨yad.fn rfl hN ?_⟩
  repeat' (first|omega|(try apply yaa);simp only [go_sem,sevalprocAttr]|apply yab<;>(intro h_;(try simp only [h_]);revert h_)|apply And.intro|with_reducible intro h_|trivial|simp only [go_sem,la2];omega)
  all_goals exact LeA.refl _
 ·have b0:(z/18446744073709551616 % 18446744073709551616/2^(63:Int).toNat==1)=false:=by
   rw [show (2:Int)^(63:Int).toNat=9223372036854775808 by decide,beq_eq_false_iff_ne];omega
  have b1:decide (z<0)=false:=by simpa using h
  rw [if_neg h,b1]
  refine Fn.introL [.cell 2 131, .tmp 3] Tryz.func133 rfl rfl (by decide) (by simp [Tryz.ntmps133]) ?_;rw [Tryz.ntmps133]
  repeat' (first|omega|(try apply yaa);simp only [go_sem,sevalprocAttr,b0]|apply yab<;>(intro h_;(try simp only [h_]);revert h_)|apply And.intro|with_reducible intro h_|trivial|simp only [go_sem,la2];omega)
  all_goals exact LeA.refl _
theorem y2b (z:Int) (h0: -1125899906842624<=z) (h1:z<=1125899906842624):Fn Tryz.prog 95 [wdA z] (.tup [I z, .bool true]):=by
 have hS:=y2a z (by omega) (by omega)
 have b0:((if z<0 then-z else z)/18446744073709551616 % 18446744073709551616 !=0)=false:=by
  simp only [bne_eq_false_iff_eq];split<;>omega
 have e1:(if z<0 then-z else z)% 18446744073709551616=if z<0 then-z else z:=by split<;>omega
 obtain ⟨u,hu⟩: ∃u,u=(if z<0 then-z else z):=⟨_,rfl⟩
 rw [←hu] at hS b0 e1
 have u0:0<=u/\u<=1125899906842624:=by rw [hu];split<;>omega
 have b1:decide (1125899906842624<u)=false:=by simp;omega
 have e2:IntKind.i64.wrap u=u:=ykl (by unfold InI;omega)
 by_cases h:z<0
 ·have b2:decide (z<0)=true:=by simpa using h
  rw [b2] at hS
  have e3:0-u=z:=by rw [hu,if_pos h];omega
  refine Fn.introL [.tmp 2, .tmp 3] Tryz.func95 rfl rfl (by decide) (by simp [Tryz.ntmps95]) ?_;rw [Tryz.ntmps95]
  repeat' (first|omega|(try apply yaa);simp only [go_sem,sevalprocAttr]|apply yab<;>(intro h_;(try simp only [h_]);revert h_)|apply And.intro|with_reducible intro h_|trivial|simp only [go_sem,la2];omega)
  refine ⟨yad.fn rfl hS ?_⟩
  repeat' (first|omega|(try apply yaa);simp only [go_sem,sevalprocAttr,b0,b1,e1,e2]|apply yab<;>(intro h_;(try simp only [h_]);revert h_)|apply And.intro|with_reducible intro h_|trivial|simp only [go_sem,la2];omega)
  all_goals (first|omega|exact LeA.of (by rw [e3]))
 ·have b2:decide (z<0)=false:=by simpa using h
  rw [b2] at hS
  have e3:u=z:=by rw [hu,if_neg h]
  refine Fn.introL [.tmp 2, .tmp 3] Tryz.func95 rfl rfl (by decide) (by simp [Tryz.ntmps95]) ?_;rw [Tryz.ntmps95]
  repeat' (first|omega|(try apply yaa);simp only [go_sem,sevalprocAttr]|apply yab<;>(intro h_;(try simp only [h_]);revert h_)|apply And.intro|with_reducible intro h_|trivial|simp only [go_sem,la2];omega)
  refine ⟨yad.fn rfl hS ?_⟩
  repeat' (first|omega|(try apply yaa);simp only [go_sem,sevalprocAttr,b0,b1,e1,e2]|apply yab<;>(intro h_;(try simp only [h_]);revert h_)|apply And.intro|with_reducible intro h_|trivial|simp only [go_sem,la2];omega)
  all_goals (first|omega|exact LeA.of (by rw [e3]))
end Go.Proofs.YtbblgobamoabkaaGreatDoor
set_option linter.unusedSimpArgs false
set_option linter.unusedVariables false
namespace Go.Proofs.YtbblgobamoabkaaGreatDoor
open Go Go.RowKit
set_option maxRecDepth 100000
set_option maxHeartbeats 4000000
def tmC (p:List (Int×Int)):List AV:=p.flatMap fun t=>[I t.1,I t.2]
abbrev tmA (p:List (Int×Int)):AV:= .ro 2 p.length (.lst (tmC p))
abbrev plA (b:Bool) (p:List (Int×Int)):AV:= .agg [.bool b,tmA p]
attribute [go_sem] tmA plA
theorem ybm (p:List (Int×Int)):(tmC p).length=2*p.length:=by
 unfold tmC;induction p with
 |nil=>rfl
 |cons x p ih=>simp [ih];omega
theorem yvh (p q:List (Int×Int)):tmC (p++q)=tmC p++tmC q:=by simp [tmC]
theorem ybk (p:List (Int×Int)) (i:Nat) (h:i<p.length):(tmC p).getD (i*2) .any=I (p.getD i (0,0)).1:=by
 unfold tmC;induction p generalizing i with
 |nil=>simp at h
 |cons x p ih=>
  cases i with
  |zero=>simp
  |succ i=>
   have:=ih i (by simpa using h)
   simp only [List.flatMap_cons,List.getD_cons_succ]
   rw [show (i+1)*2=i*2+1+1 by omega]
   simpa using this
theorem ycw (p:List (Int×Int)) (i:Nat) (h:i<p.length):(tmC p).getD (i*2+1) .any=I (p.getD i (0,0)).2:=by
 unfold tmC;induction p generalizing i with
 |nil=>simp at h
 |cons x p ih=>
  cases i with
  |zero=>simp
  |succ i=>
   have:=ih i (by simpa using h)
   simp only [List.flatMap_cons,List.getD_cons_succ]
   rw [show (i+1)*2+1=i*2+1+1+1 by omega]
   simpa using this
theorem yc4 (v l:Int) (h0:0<=l) (h1:l<=9000000000000000000):Fn Tryz.prog 59 [I v,I l] (.bool (fitB v l)):=by
 unfold fitB
 refine Fn.intro [.tmp 4] Tryz.func59 rfl rfl (by decide) (by simp [Tryz.ntmps59]) ?_;rw [Tryz.ntmps59]
 repeat' (first|omega|(try apply yaa);simp only [go_sem,sevalprocAttr]|apply yab<;>(intro h_;(try simp only [h_]);revert h_)|apply And.intro|with_reducible intro h_|trivial|simp only [go_sem,la2];omega)
 all_goals simp_all
 all_goals omega
theorem yho {p:List (Int×Int)} {x:AV} (h:x∈tmC p): ∃n,x=I n:=by
 unfold tmC at h
 obtain ⟨t,_,ht⟩:=List.mem_flatMap.1 h
 simp only [List.mem_cons,List.not_mem_nil,or_false] at ht
 rcases ht with e|e<;>exact ⟨_,e⟩
theorem ymd (p:List (Int×Int)):(tmC p).all p1=true:=List.all_eq_true.2 fun x hx=>by obtain ⟨n,rfl⟩:=yho hx;rfl
theorem yam (H:Hp) (p:List (Int×Int)):(tmC p).all (s3 H)=true:=List.all_eq_true.2 fun x hx=>by obtain ⟨n,rfl⟩:=yho hx;rfl
theorem y7b (p:List (Int×Int)):(tmC p).all ycp=true:=List.all_eq_true.2 fun x hx=>by obtain ⟨n,rfl⟩:=yho hx;rfl
theorem ytn (i:Nat) (p:List (Int×Int)):(tmC p).map (cutV i)=tmC p:=by
 conv=>rhs;rw [←List.map_id (tmC p)]
 exact List.map_congr_left fun x hx=>by obtain ⟨n,rfl⟩:=yho hx;rfl
theorem yld (H:Hp) (n:Nat) (p:List (Int×Int)):(tmC p).map (snap H (n+1))=tmC p:=ya2 (ymd p) H n
theorem yja (H:Hp) (n:Nat) (p:List (Int×Int)):(∀x∈tmC p,yat H (n+1) x)=True:=yav (ymd p) H n
theorem y5q (H:Hp) (n:Nat) (p:List (Int×Int)):(tmC p).map (frzV H (n+1))=tmC p:=ybb (ymd p) H n
theorem y2c (H:Hp) (n:Nat) (p:List (Int×Int)):(∀x∈tmC p,frzP H (n+1) x)=True:=ya3 (ymd p) H n
theorem yif (p:List (Int×Int)) (e c:Int):tmC p++[AV.int .i64 e,AV.int .i64 c]=tmC (p++[(e,c)]):=by simp [tmC]
attribute [go_sem] yam y7b ytn yld yja y5q y2c ybm
theorem y5r (fr:Fr):unl (lft fr)=fr:=by
 induction fr with
 |nil=>rfl
 |cons q r ih=>
  obtain ⟨t,x⟩:=q
  simp only [lft,unl]
  rw [if_pos (by omega),ih,Nat.add_sub_cancel]
theorem y2d (i:Nat) (fr:Fr):fcut i (lft fr)=lft (fcut i fr):=by
 induction fr with
 |nil=>rfl
 |cons q r ih=>obtain ⟨t,x⟩:=q;simp only [lft,fcut,ih]
attribute [go_sem] y5r y2d
theorem yfp {p:List (Int×Int)} (h:yev p) {i:Nat} (hi:i<p.length): -1125899906842624<=(p.getD i (0,0)).2/\(p.getD i (0,0)).2<=1125899906842624:=h _ (by simp [hi])
end Go.Proofs.YtbblgobamoabkaaGreatDoor
set_option linter.unusedSimpArgs false
set_option linter.unusedVariables false
namespace Go.Proofs.YtbblgobamoabkaaGreatDoor
open Go Go.RowKit
set_option maxHeartbeats 8000000
set_option maxRecDepth 100000
def wdC (zs:List Int):List AV:=zs.flatMap fun z=>[.int .u64 (z/18446744073709551616 % 18446744073709551616), .int .u64 (z % 18446744073709551616)]
theorem yto (p:List Int):(wdC p).length=2*p.length:=by
 unfold wdC;induction p with
 |nil=>rfl
 |cons x p ih=>simp [ih];omega
theorem yqy (p:List Int) (i:Nat) (h:i<p.length):(wdC p).getD (i*2) .any= .int .u64 (p.getD i 0/18446744073709551616 % 18446744073709551616):=by
 unfold wdC;induction p generalizing i with
 |nil=>simp at h
 |cons x p ih=>
  cases i with
  |zero=>simp
  |succ i=>
   have:=ih i (by simpa using h)
   simp only [List.flatMap_cons,List.getD_cons_succ]
   rw [show (i+1)*2=i*2+1+1 by omega]
   simpa using this
theorem yqz (p:List Int) (i:Nat) (h:i<p.length):(wdC p).getD (i*2+1) .any= .int .u64 (p.getD i 0 % 18446744073709551616):=by
 unfold wdC;induction p generalizing i with
 |nil=>simp at h
 |cons x p ih=>
  cases i with
  |zero=>simp
  |succ i=>
   have:=ih i (by simpa using h)
   simp only [List.flatMap_cons,List.getD_cons_succ]
   rw [show (i+1)*2+1=i*2+1+1+1 by omega]
   simpa using this
theorem y5s (p:List Int) (i:Nat) (z:Int):((wdC p).set (i*2) (.int .u64 (z/18446744073709551616 % 18446744073709551616))).set (i*2+1) (.int .u64 (z % 18446744073709551616))=wdC (p.set i z):=by
 unfold wdC;induction p generalizing i with
 |nil=>simp
 |cons x p ih=>
  cases i with
  |zero=>simp
  |succ i=>
   have:=ih i
   simp only [List.flatMap_cons,List.set_cons_succ,List.cons_append,List.nil_append]
   rw [show (i+1)*2+1=i*2+1+1+1 by omega,show (i+1)*2=i*2+1+1 by omega]
   simp only [List.set_cons_succ]
   rw [this]
theorem y2e (n:Nat):(List.replicate n [AV.int .u64 0,AV.int .u64 0]).flatten=wdC (List.replicate n 0):=by
 unfold wdC;induction n with
 |zero=>rfl
 |succ n ih=>simp [List.replicate_succ,ih]
theorem ytp {p:List Int} {x:AV} (h:x∈wdC p): ∃n,x= .int .u64 n:=by
 simp only [wdC,List.mem_flatMap] at h
 obtain ⟨z,_,h⟩:=h
 simp at h
 rcases h with rfl|rfl<;>exact ⟨_,rfl⟩
theorem y7c (H:Hp) (p:List Int):(wdC p).all (s3 H)=true:=List.all_eq_true.2 fun x hx=>by obtain ⟨n,rfl⟩:=ytp hx;rfl
attribute [go_sem] y7c
theorem yy3 (p:List (Int×Int)) (h:0<p.length):Fn Tryz.prog 84 [plA false p] (I (p.getD 0 (0,0)).1):=by
 have hc:=ybm p
 have e:=ybk p 0 h
 rw [Nat.zero_mul] at e
 have b0:((p.length:Int)==0)=false:=by rw [beq_eq_false_iff_ne];omega
 refine Fn.intro [.tmp 2] Tryz.func84 rfl rfl (by decide) (by simp [Tryz.ntmps84]) ?_;rw [Tryz.ntmps84]
 repeat' (first|omega|(try apply yaa);simp only [go_sem,sevalprocAttr,b0,e,hc]|apply yab<;>(intro h_;(try simp only [h_]);revert h_)|apply And.intro|with_reducible intro h_|trivial|simp only [go_sem,la2];omega)
theorem ytq (p:List (Int×Int)) (h:0<p.length) (hp:p.length<=1000000):Fn Tryz.prog 85 [plA false p] (I (p.getD (p.length-1) (0,0)).1):=by
 have hc:=ybm p
 have e:=ybk p (p.length-1) (by omega)
 have b0:((p.length:Int)==0)=false:=by rw [beq_eq_false_iff_ne];omega
 have e1:((p.length:Int)-1).toNat=p.length-1:=by omega
 refine Fn.intro [.tmp 2] Tryz.func85 rfl rfl (by decide) (by simp [Tryz.ntmps85]) ?_;rw [Tryz.ntmps85]
 repeat' (first|omega|(try apply yaa);simp only [go_sem,sevalprocAttr,b0,e,e1,hc]|apply yab<;>(intro h_;(try simp only [h_]);revert h_)|apply And.intro|with_reducible intro h_|trivial|simp only [go_sem,la2];omega)
abbrev mulH (p q:List (Int×Int)) (low:Int) (N:Nat) (zs:List Int):Hp:=[(15, .cells 127 (.lst [.sl 2 14 0 N])),(14, .cells 131 (.lst (wdC zs))),(13, .cells 3 (.lst [I low])),(2, .cells 47 (.lst [.bool false, .nils])),(1, .cells 47 (.lst [.bool false,tmA q])),(0, .cells 47 (.lst [.bool false,tmA p]))]
end Go.Proofs.YtbblgobamoabkaaGreatDoor
