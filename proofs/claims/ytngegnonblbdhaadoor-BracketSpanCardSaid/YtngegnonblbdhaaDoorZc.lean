/- Layer 12: integers of 128 bits: products, and back to 64 bits. -/
import Derived.Test.YtngegnonblbdhaaDoorZb
import Derived.Test.YtngegnonblbdhaaDoorPl
import Derived.Test.YtngegnonblbdhaaDoorZa
set_option linter.unusedSimpArgs false
set_option linter.unusedVariables false
namespace Go.Proofs.YtngegnonblbdhaaDoor
open Go Go.RowKit
set_option maxHeartbeats 4000000
set_option maxRecDepth 100000
theorem yt0 (x:Int) (h0: -4611686018427387904<=x) (h1:x<=4611686018427387904):Fn Tryd.prog 78 [I x] (.int .u64 (if x<0 then-x else x)):=by
 by_cases h:x<0
 ·have b0:decide (x<0)=true:=by simpa using h
  have e1:IntKind.u64.wrap (0-IntKind.u64.wrap x)= -x:=by rw [IntKind.wrap_u64,IntKind.wrap_u64];omega
  rw [if_pos h]
  refine Fn.intro [.tmp 2] Tryd.func78 rfl rfl (by decide) (by simp [Tryd.ntmps78]) ?_;rw [Tryd.ntmps78]
  repeat' (first|omega|(try apply yaa);simp only [go_sem,sevalprocAttr,b0,e1]|apply yab<;>(intro h_;(try simp only [h_]);revert h_)|apply And.intro|with_reducible intro h_|trivial|simp only [go_sem,la2];omega)
 ·have b0:decide (x<0)=false:=by simpa using h
  have e1:IntKind.u64.wrap x=x:=by rw [IntKind.wrap_u64];omega
  rw [if_neg h]
  refine Fn.intro [.tmp 2] Tryd.func78 rfl rfl (by decide) (by simp [Tryd.ntmps78]) ?_;rw [Tryd.ntmps78]
  repeat' (first|omega|(try apply yaa);simp only [go_sem,sevalprocAttr,b0,e1]|apply yab<;>(intro h_;(try simp only [h_]);revert h_)|apply And.intro|with_reducible intro h_|trivial|simp only [go_sem,la2];omega)
theorem ywq (a b:Nat) (ha:a<18446744073709551616) (hb:b<18446744073709551616):Fn Tryd.prog 77 [.int .u64 a, .int .u64 b] (.tup [.int .u64 ((a*b/18446744073709551616:Nat):Int), .int .u64 ((a*b % 18446744073709551616:Nat):Int)]):=by
 refine ⟨⟨_,Tryd.func77,rfl,by decide⟩,fun w Mx vs hMx hl hv=>?_⟩
 match vs,hl,hv with
 |[v0,v1],_,hv=>
  have e0:=(hv 0 v0 _ rfl rfl).int_inv
  have e1:=(hv 1 v1 _ rfl rfl).int_inv
  subst e0 e1
  refine (Tryd.bits_Mul64 a b ha hb w).mono ?_
  rintro e w' ⟨rfl,rfl⟩
  refine ⟨_,rfl,Below.refl _ _, .tup [.int .u64 _, .int .u64 _] _ rfl fun i u x hu hx=>?_⟩
  match i,hu,hx with
  |0,hu,hx=>cases hu;cases hx;exact .int _ _
  |1,hu,hx=>cases hu;cases hx;exact .int _ _
theorem yru (x y:Int) (h0: -4611686018427387904<=x) (h1:x<=4611686018427387904) (h2: -4611686018427387904<=y) (h3:y<=4611686018427387904):Fn Tryd.prog 55 [I x,I y] (wdA (x*y)):=by
 have m1:=yt0 x h0 h1
 have m2:=yt0 y h2 h3
 obtain ⟨a,ha⟩: ∃a:Nat,(if x<0 then-x else x)=a:=⟨(if x<0 then-x else x).toNat,by split<;>omega⟩
 obtain ⟨b,hb⟩: ∃b:Nat,(if y<0 then-y else y)=b:=⟨(if y<0 then-y else y).toNat,by split<;>omega⟩
 rw [ha] at m1
 rw [hb] at m2
 have hab:a<=4611686018427387904:=by split at ha<;>omega
 have hbb:b<=4611686018427387904:=by split at hb<;>omega
 have hM:=ywq a b (by omega) (by omega)
 have hpb:a*b<=4611686018427387904*4611686018427387904:=Nat.mul_le_mul hab hbb
 have e1:((a*b/18446744073709551616:Nat):Int)=((a*b:Nat):Int)/18446744073709551616 % 18446744073709551616:=by omega
 have e2:((a*b % 18446744073709551616:Nat):Int)=((a*b:Nat):Int)% 18446744073709551616:=by omega
 rw [e1,e2] at hM
 have hN:=yp5 ((a*b:Nat):Int)
 have hxy:x*y=if decide (x<0)=decide (y<0) then ((a*b:Nat):Int) else-((a*b:Nat):Int):=by
  rw [Int.natCast_mul,←ha,←hb]
  by_cases c1:x<0<;>by_cases c2:y<0<;>simp [c1,c2,Int.neg_mul,Int.mul_neg]
 obtain ⟨p,hp⟩: ∃p:Int,p=((a*b:Nat):Int):=⟨_,rfl⟩
 rw [←hp] at hM hN hxy
 clear e1 e2
 by_cases hc:decide (x<0)=decide (y<0)
 ·rw [if_pos hc] at hxy
  have b0:(decide (x<0)!=decide (y<0))=false:=by rw [hc];simp
  rw [hxy]
  refine Fn.introL [.cell 4 77] Tryd.func55 rfl rfl (by decide) (by simp [Tryd.ntmps55]) ?_;rw [Tryd.ntmps55]
  repeat' (first|omega|(try apply yaa);simp only [go_sem,sevalprocAttr]|apply yab<;>(intro h_;(try simp only [h_]);revert h_)|apply And.intro|with_reducible intro h_|trivial|simp only [go_sem,la2];omega)
  refine ⟨yad.fn rfl m1 ?_⟩
  repeat' (first|omega|(try apply yaa);simp only [go_sem,sevalprocAttr]|apply yab<;>(intro h_;(try simp only [h_]);revert h_)|apply And.intro|with_reducible intro h_|trivial|simp only [go_sem,la2];omega)
  refine ⟨yad.fn rfl m2 ?_⟩
  repeat' (first|omega|(try apply yaa);simp only [go_sem,sevalprocAttr]|apply yab<;>(intro h_;(try simp only [h_]);revert h_)|apply And.intro|with_reducible intro h_|trivial|simp only [go_sem,la2];omega)
  refine ⟨yad.fn rfl hM ?_⟩
  repeat' (first|omega|(try apply yaa);simp only [go_sem,sevalprocAttr,b0]|apply yab<;>(intro h_;(try simp only [h_]);revert h_)|apply And.intro|with_reducible intro h_|trivial|simp only [go_sem,la2];omega)
  all_goals exact LeA.refl _
 ·rw [if_neg hc] at hxy
  have b0:(decide (x<0)!=decide (y<0))=true:=by simpa [bne] using hc
  rw [hxy]
  refine Fn.introL [.cell 4 77] Tryd.func55 rfl rfl (by decide) (by simp [Tryd.ntmps55]) ?_;rw [Tryd.ntmps55]
  repeat' (first|omega|(try apply yaa);simp only [go_sem,sevalprocAttr]|apply yab<;>(intro h_;(try simp only [h_]);revert h_)|apply And.intro|with_reducible intro h_|trivial|simp only [go_sem,la2];omega)
  refine ⟨yad.fn rfl m1 ?_⟩
  repeat' (first|omega|(try apply yaa);simp only [go_sem,sevalprocAttr]|apply yab<;>(intro h_;(try simp only [h_]);revert h_)|apply And.intro|with_reducible intro h_|trivial|simp only [go_sem,la2];omega)
  refine ⟨yad.fn rfl m2 ?_⟩
  repeat' (first|omega|(try apply yaa);simp only [go_sem,sevalprocAttr]|apply yab<;>(intro h_;(try simp only [h_]);revert h_)|apply And.intro|with_reducible intro h_|trivial|simp only [go_sem,la2];omega)
  refine ⟨yad.fn rfl hM ?_⟩
  repeat' (first|omega|(try apply yaa);simp only [go_sem,sevalprocAttr,b0]|apply yab<;>(intro h_;(try simp only [h_]);revert h_)|apply And.intro|with_reducible intro h_|trivial|simp only [go_sem,la2];omega)
  refine ⟨yad.fn rfl hN ?_⟩
  repeat' (first|omega|(try apply yaa);simp only [go_sem,sevalprocAttr]|apply yab<;>(intro h_;(try simp only [h_]);revert h_)|apply And.intro|with_reducible intro h_|trivial|simp only [go_sem,la2];omega)
  all_goals exact LeA.refl _
theorem ywr (z:Int) (h0: -170141183460469231731687303715884105728<=z) (h1:z<170141183460469231731687303715884105728):Fn Tryd.prog 57 [wdA z] (.tup [wdA (if z<0 then-z else z), .bool (decide (z<0))]):=by
 have hN:=yp5 z
 by_cases h:z<0
 ·have b0:(z/18446744073709551616 % 18446744073709551616/2^(63:Int).toNat==1)=true:=by
   rw [show (2:Int)^(63:Int).toNat=9223372036854775808 by decide,beq_iff_eq];omega
  have b1:decide (z<0)=true:=by simpa using h
  rw [if_pos h,b1]
  refine Fn.introL [.cell 2 77, .tmp 3] Tryd.func57 rfl rfl (by decide) (by simp [Tryd.ntmps57]) ?_;rw [Tryd.ntmps57]
  repeat' (first|omega|(try apply yaa);simp only [go_sem,sevalprocAttr,b0]|apply yab<;>(intro h_;(try simp only [h_]);revert h_)|apply And.intro|with_reducible intro h_|trivial|simp only [go_sem,la2];omega)
  refine ⟨yad.fn rfl hN ?_⟩
  repeat' (first|omega|(try apply yaa);simp only [go_sem,sevalprocAttr]|apply yab<;>(intro h_;(try simp only [h_]);revert h_)|apply And.intro|with_reducible intro h_|trivial|simp only [go_sem,la2];omega)
  all_goals exact LeA.refl _
 ·have b0:(z/18446744073709551616 % 18446744073709551616/2^(63:Int).toNat==1)=false:=by
   rw [show (2:Int)^(63:Int).toNat=9223372036854775808 by decide,beq_eq_false_iff_ne];omega
  have b1:decide (z<0)=false:=by simpa using h
  rw [if_neg h,b1]
  refine Fn.introL [.cell 2 77, .tmp 3] Tryd.func57 rfl rfl (by decide) (by simp [Tryd.ntmps57]) ?_;rw [Tryd.ntmps57]
  repeat' (first|omega|(try apply yaa);simp only [go_sem,sevalprocAttr,b0]|apply yab<;>(intro h_;(try simp only [h_]);revert h_)|apply And.intro|with_reducible intro h_|trivial|simp only [go_sem,la2];omega)
  all_goals exact LeA.refl _
theorem yws (z:Int) (h0: -1125899906842624<=z) (h1:z<=1125899906842624):Fn Tryd.prog 44 [wdA z] (.tup [I z, .bool true]):=by
 have hS:=ywr z (by omega) (by omega)
 have b0:((if z<0 then-z else z)/18446744073709551616 % 18446744073709551616 !=0)=false:=by
  simp only [bne_eq_false_iff_eq];split<;>omega
 have e1:(if z<0 then-z else z)% 18446744073709551616=if z<0 then-z else z:=by split<;>omega
 obtain ⟨u,hu⟩: ∃u,u=(if z<0 then-z else z):=⟨_,rfl⟩
 rw [←hu] at hS b0 e1
 have u0:0<=u/\u<=1125899906842624:=by rw [hu];split<;>omega
 have b1:decide (1125899906842624<u)=false:=by simp;omega
 have e2:IntKind.i64.wrap u=u:=yi4 (by unfold InI;omega)
 by_cases h:z<0
 ·have b2:decide (z<0)=true:=by simpa using h
  rw [b2] at hS
  have e3:0-u=z:=by rw [hu,if_pos h];omega
  refine Fn.introL [.tmp 2, .tmp 3] Tryd.func44 rfl rfl (by decide) (by simp [Tryd.ntmps44]) ?_;rw [Tryd.ntmps44]
  repeat' (first|omega|(try apply yaa);simp only [go_sem,sevalprocAttr]|apply yab<;>(intro h_;(try simp only [h_]);revert h_)|apply And.intro|with_reducible intro h_|trivial|simp only [go_sem,la2];omega)
  refine ⟨yad.fn rfl hS ?_⟩
  repeat' (first|omega|(try apply yaa);simp only [go_sem,sevalprocAttr,b0,b1,e1,e2]|apply yab<;>(intro h_;(try simp only [h_]);revert h_)|apply And.intro|with_reducible intro h_|trivial|simp only [go_sem,la2];omega)
  all_goals (first|omega|exact LeA.of (by rw [e3]))
 ·have b2:decide (z<0)=false:=by simpa using h
  rw [b2] at hS
  have e3:u=z:=by rw [hu,if_neg h]
  refine Fn.introL [.tmp 2, .tmp 3] Tryd.func44 rfl rfl (by decide) (by simp [Tryd.ntmps44]) ?_;rw [Tryd.ntmps44]
  repeat' (first|omega|(try apply yaa);simp only [go_sem,sevalprocAttr]|apply yab<;>(intro h_;(try simp only [h_]);revert h_)|apply And.intro|with_reducible intro h_|trivial|simp only [go_sem,la2];omega)
  refine ⟨yad.fn rfl hS ?_⟩
  repeat' (first|omega|(try apply yaa);simp only [go_sem,sevalprocAttr,b0,b1,e1,e2]|apply yab<;>(intro h_;(try simp only [h_]);revert h_)|apply And.intro|with_reducible intro h_|trivial|simp only [go_sem,la2];omega)
  all_goals (first|omega|exact LeA.of (by rw [e3]))
end Go.Proofs.YtngegnonblbdhaaDoor
set_option linter.unusedSimpArgs false
set_option linter.unusedVariables false
namespace Go.Proofs.YtngegnonblbdhaaDoor
def fitB (v l:Int):Bool:=decide (-l<=v)&&decide (v<=l)
def ye4 (p:List (Int×Int)):Prop:= ∀t∈p,-1125899906842624<=t.2/\t.2<=1125899906842624
def mrg (f:Int->Int->Int) (p q:List (Int×Int)):List (Int×Int):=match p,q with
 |[],[]=>[]
 |(e,a)::p,[]=>(e,f a 0)::mrg f p []
 |[],(e,b)::q=>(e,f 0 b)::mrg f [] q
 |(e,a)::p,(e',b)::q=>if e<e' then (e,f a 0)::mrg f p ((e',b)::q) else if e'<e then (e',f 0 b)::mrg f ((e,a)::p) q else (e,f a b)::mrg f p q
termination_by p.length+q.length
def yc2 (l:List (Int×Int)):Bool:=l.all fun t=>fitB t.2 1125899906842624
def nz (l:List (Int×Int)):List (Int×Int):=l.filter fun t=>t.2 !=0
def addF (a b:Int):Int:=a+b
def pz2 (q:List (Int×Int)) (low e c:Int):Nat->List Int->List Int
 |0,zs=>zs
 |j+1,zs=>(pz2 q low e c j zs).set (e+(q.getD j (0,0)).1-low).toNat ((pz2 q low e c j zs).getD (e+(q.getD j (0,0)).1-low).toNat 0+c*(q.getD j (0,0)).2)
def pz1 (p q:List (Int×Int)) (low:Int):Nat->List Int->List Int
 |0,zs=>zs
 |i+1,zs=>pz2 q low (p.getD i (0,0)).1 (p.getD i (0,0)).2 q.length (pz1 p q low i zs)
theorem yib (q:List (Int×Int)) (low e c:Int): ∀j zs,(pz2 q low e c j zs).length=zs.length
 |0,zs=>rfl
 |j+1,zs=>by simp only [pz2,List.length_set];exact yib q low e c j zs
theorem yga (p q:List (Int×Int)) (low:Int): ∀i zs,(pz1 p q low i zs).length=zs.length
 |0,zs=>rfl
 |i+1,zs=>by simp only [pz1];rw [yib,yga]
def tmI:Int->List Int->List (Int×Int)
 |_,[]=>[]
 |e,c::r=>if c=0 then tmI (e+1) r else (e,c)::tmI (e+1) r
theorem yjk: ∀(e:Int) (l:List Int) (c:Int),tmI e (l++[c])=tmI e l++(if c=0 then [] else [(e+l.length,c)])
 |e,[],c=>by simp only [List.nil_append,tmI,List.length_nil];split<;>simp
 |e,x::l,c=>by
  have:=yjk (e+1) l c
  simp only [List.cons_append,tmI,this,List.length_cons]
  have h:e+1+(l.length:Int)=e+((l.length+1:Nat):Int):=by omega
  rw [h]
  split<;>split<;>simp
theorem yk9: ∀(e:Int) (l:List Int),(tmI e l).length<=l.length
 |_,[]=>Nat.le_refl _
 |e,c::r=>by
  have:=yk9 (e+1) r
  simp only [tmI];split<;>simp only [List.length_cons]<;>omega
abbrev lowE (p:List (Int×Int)):Int:=(p.getD 0 (0,0)).1
abbrev ya6 (p:List (Int×Int)):Int:=(p.getD (p.length-1) (0,0)).1
def mulZ (p q:List (Int×Int)):List Int:=pz1 p q (lowE p+lowE q) p.length (List.replicate (ya6 p+ya6 q-(lowE p+lowE q)+1).toNat 0)
end Go.Proofs.YtngegnonblbdhaaDoor
set_option linter.unusedSimpArgs false
set_option linter.unusedVariables false
namespace Go.Proofs.YtngegnonblbdhaaDoor
open Go Go.RowKit
set_option maxRecDepth 100000
set_option maxHeartbeats 4000000
def tmC (p:List (Int×Int)):List AV:=p.flatMap fun t=>[I t.1,I t.2]
abbrev tmA (p:List (Int×Int)):AV:= .ro 2 p.length (.lst (tmC p))
abbrev plA (b:Bool) (p:List (Int×Int)):AV:= .agg [.bool b,tmA p]
attribute [go_sem] tmA plA
theorem yb9 (p:List (Int×Int)):(tmC p).length=2*p.length:=by
 unfold tmC;induction p with
 |nil=>rfl
 |cons x p ih=>simp [ih];omega
theorem ydg (p:List (Int×Int)) (i:Nat) (h:i<p.length):(tmC p).getD (i*2) .any=I (p.getD i (0,0)).1:=by
 unfold tmC;induction p generalizing i with
 |nil=>simp at h
 |cons x p ih=>
  cases i with
  |zero=>simp
  |succ i=>
   have:=ih i (by simpa using h)
   simp only [List.flatMap_cons,List.getD_cons_succ]
   rw [show (i+1)*2=i*2+1+1 by omega]
   simpa using this
theorem yfl (p:List (Int×Int)) (i:Nat) (h:i<p.length):(tmC p).getD (i*2+1) .any=I (p.getD i (0,0)).2:=by
 unfold tmC;induction p generalizing i with
 |nil=>simp at h
 |cons x p ih=>
  cases i with
  |zero=>simp
  |succ i=>
   have:=ih i (by simpa using h)
   simp only [List.flatMap_cons,List.getD_cons_succ]
   rw [show (i+1)*2+1=i*2+1+1+1 by omega]
   simpa using this
theorem yer (v l:Int) (h0:0<=l) (h1:l<=9000000000000000000):Fn Tryd.prog 39 [I v,I l] (.bool (fitB v l)):=by
 unfold fitB
 refine Fn.intro [.tmp 4] Tryd.func39 rfl rfl (by decide) (by simp [Tryd.ntmps39]) ?_;rw [Tryd.ntmps39]
 repeat' (first|omega|(try apply yaa);simp only [go_sem,sevalprocAttr]|apply yab<;>(intro h_;(try simp only [h_]);revert h_)|apply And.intro|with_reducible intro h_|trivial|simp only [go_sem,la2];omega)
 all_goals simp_all
 all_goals omega
theorem yic {p:List (Int×Int)} {x:AV} (h:x∈tmC p): ∃n,x=I n:=by
 unfold tmC at h
 obtain ⟨t,_,ht⟩:=List.mem_flatMap.1 h
 simp only [List.mem_cons,List.not_mem_nil,or_false] at ht
 rcases ht with e|e<;>exact ⟨_,e⟩
theorem ykg (p:List (Int×Int)):(tmC p).all p1=true:=List.all_eq_true.2 fun x hx=>by obtain ⟨n,rfl⟩:=yic hx;rfl
theorem ybh (H:Hp) (p:List (Int×Int)):(tmC p).all (s3 H)=true:=List.all_eq_true.2 fun x hx=>by obtain ⟨n,rfl⟩:=yic hx;rfl
theorem y1v (p:List (Int×Int)):(tmC p).all ybg=true:=List.all_eq_true.2 fun x hx=>by obtain ⟨n,rfl⟩:=yic hx;rfl
theorem yzx (i:Nat) (p:List (Int×Int)):(tmC p).map (cutV i)=tmC p:=by
 conv=>rhs;rw [←List.map_id (tmC p)]
 exact List.map_congr_left fun x hx=>by obtain ⟨n,rfl⟩:=yic hx;rfl
theorem ywt (H:Hp) (n:Nat) (p:List (Int×Int)):(tmC p).map (snap H (n+1))=tmC p:=yzu (ykg p) H n
theorem yf0 (H:Hp) (n:Nat) (p:List (Int×Int)):(∀x∈tmC p,yal H (n+1) x)=True:=ywp (ykg p) H n
theorem yzy (H:Hp) (n:Nat) (p:List (Int×Int)):(tmC p).map (frzV H (n+1))=tmC p:=y1u (ykg p) H n
theorem ywu (H:Hp) (n:Nat) (p:List (Int×Int)):(∀x∈tmC p,frzP H (n+1) x)=True:=yzv (ykg p) H n
theorem yg3 (p:List (Int×Int)) (e c:Int):tmC p++[AV.int .i64 e,AV.int .i64 c]=tmC (p++[(e,c)]):=by simp [tmC]
attribute [go_sem] ybh y1v yzx ywt yf0 yzy ywu yb9
theorem yid (fr:Fr):unl (lft fr)=fr:=by
 induction fr with
 |nil=>rfl
 |cons q r ih=>
  obtain ⟨t,x⟩:=q
  simp only [lft,unl]
  rw [if_pos (by omega),ih,Nat.add_sub_cancel]
theorem ywv (i:Nat) (fr:Fr):fcut i (lft fr)=lft (fcut i fr):=by
 induction fr with
 |nil=>rfl
 |cons q r ih=>obtain ⟨t,x⟩:=q;simp only [lft,fcut,ih]
attribute [go_sem] yid ywv
theorem yet {p:List (Int×Int)} (h:ye4 p) {i:Nat} (hi:i<p.length): -1125899906842624<=(p.getD i (0,0)).2/\(p.getD i (0,0)).2<=1125899906842624:=h _ (by simp [hi])
end Go.Proofs.YtngegnonblbdhaaDoor
set_option linter.unusedSimpArgs false
set_option linter.unusedVariables false
namespace Go.Proofs.YtngegnonblbdhaaDoor
open Go Go.RowKit
set_option maxHeartbeats 8000000
set_option maxRecDepth 100000
theorem Wk.app {F A fr:Fr} {H H':Hp} (hA:subF F H' A) (hH:subH H H' H') (hfr: ∀t,fget fr t= .any\/s3 H' (fget fr t)=true) (h2: ∀t,1000000<=t->fget F t=fget (lft fr) t) (hl:A.all (fun q=>decide (q.1<1000000))=true):Wk F H (A++lft fr) H':=by
 have hf: ∀t,fget (A++lft fr) t= .any\/(fget (A++lft fr) t=fget F t/\s3 H' (fget (A++lft fr) t)=true):=by
  intro t
  have key: ∀(A:Fr),subF F H' A->A.all (fun q=>decide (q.1<1000000))=true->fget (A++lft fr) t= .any\/(fget (A++lft fr) t=fget F t/\s3 H' (fget (A++lft fr) t)=true):=by
   intro A
   induction A with
   |nil=>
    intro _ _
    rw [List.nil_append]
    rcases Nat.lt_or_ge t 1000000 with h|h
    ·left;rw [ydf,if_neg (by omega)]
    ·have e:=h2 t h
     rw [←e]
     rw [ydf,if_pos h] at e
     rcases hfr (t-1000000) with g|g
     ·left;rw [e];exact g
     ·right;exact ⟨rfl,by rw [e];exact g⟩
   |cons q A ih=>
    intro h1 h3
    obtain ⟨t',x⟩:=q
    obtain ⟨g1,g2,g3⟩:=h1
    simp only [List.all_cons,Bool.and_eq_true] at h3
    rw [List.cons_append]
    simp only [fget]
    split
    ·rename_i e;subst e;right;exact ⟨g1.symm,g2⟩
    ·exact ih g3 h3.2
  exact key A hA hl
 intro B w0 Mx N w ρ a hs
 refine ⟨ρ,(hs.weaken (fun id o ho=>(yd8 hH id o ho).1) (fun t=>(hf t).imp id (·.1)) (fun id o ho M hr=>?_) (fun t M v hv=>?_))⟩
 ·have hso:=(yd8 hH id o ho).2
  cases o with
  |gone=>trivial
  |cells t c=>
   obtain ⟨k1,arr,k2,k3,k4⟩:=hr
   refine ⟨k1,arr,k2,k3,fun j hj=>?_⟩
   obtain ⟨u,hu,hv⟩:=k4 j hj
   refine ⟨u,hu,?_⟩
   cases c with
   |ints l=>exact hv.pure1 rfl
   |bools l=>exact hv.pure1 rfl
   |lst l=>
    simp only [Cs.len] at hj
    simp only [Cs.get,List.getD_eq_getElem?_getD,List.getElem?_eq_getElem hj,Option.getD_some] at hv⊢
    exact hv.sc3 (List.all_eq_true.1 hso _ (List.getElem_mem hj))
  |gmap t ck l=>
   obtain ⟨es,k1,k2,k3⟩:=hr
   exact ⟨es,k1,k2,fun j e q he hl=>let ⟨g1,g2,g3⟩:=k3 j e q he hl;⟨g1,g2,g3.sc3 (List.all_eq_true.1 hso q (List.mem_of_getElem? hl))⟩⟩
  |iter mid s sn la=>
   obtain ⟨_,k2,k3⟩:=hr
   exact ⟨Option.isSome_iff_exists.1 hso,k2,k3⟩
  |imap t l=>
   obtain ⟨k0,es,ck,k1,k2,k3⟩:=hr
   exact ⟨k0,es,ck,k1,k2,fun j e k x he hl=>let ⟨g1,g2,g3⟩:=k3 j e k x he hl;⟨g1,g2.sc3 (List.all_eq_true.1 hso (k,x) (List.mem_of_getElem? hl)),g3⟩⟩
  |fmap t c=>exact hr
 ·rcases hf t with e|⟨_,e⟩
  ·rw [e];exact .any _
  ·exact hv.sc3 e
def wdC (zs:List Int):List AV:=zs.flatMap fun z=>[.int .u64 (z/18446744073709551616 % 18446744073709551616), .int .u64 (z % 18446744073709551616)]
theorem yp6 (p:List Int):(wdC p).length=2*p.length:=by
 unfold wdC;induction p with
 |nil=>rfl
 |cons x p ih=>simp [ih];omega
theorem yn2 (p:List Int) (i:Nat) (h:i<p.length):(wdC p).getD (i*2) .any= .int .u64 (p.getD i 0/18446744073709551616 % 18446744073709551616):=by
 unfold wdC;induction p generalizing i with
 |nil=>simp at h
 |cons x p ih=>
  cases i with
  |zero=>simp
  |succ i=>
   have:=ih i (by simpa using h)
   simp only [List.flatMap_cons,List.getD_cons_succ]
   rw [show (i+1)*2=i*2+1+1 by omega]
   simpa using this
theorem yn3 (p:List Int) (i:Nat) (h:i<p.length):(wdC p).getD (i*2+1) .any= .int .u64 (p.getD i 0 % 18446744073709551616):=by
 unfold wdC;induction p generalizing i with
 |nil=>simp at h
 |cons x p ih=>
  cases i with
  |zero=>simp
  |succ i=>
   have:=ih i (by simpa using h)
   simp only [List.flatMap_cons,List.getD_cons_succ]
   rw [show (i+1)*2+1=i*2+1+1+1 by omega]
   simpa using this
theorem yzz (p:List Int) (i:Nat) (z:Int):((wdC p).set (i*2) (.int .u64 (z/18446744073709551616 % 18446744073709551616))).set (i*2+1) (.int .u64 (z % 18446744073709551616))=wdC (p.set i z):=by
 unfold wdC;induction p generalizing i with
 |nil=>simp
 |cons x p ih=>
  cases i with
  |zero=>simp
  |succ i=>
   have:=ih i
   simp only [List.flatMap_cons,List.set_cons_succ,List.cons_append,List.nil_append]
   rw [show (i+1)*2+1=i*2+1+1+1 by omega,show (i+1)*2=i*2+1+1 by omega]
   simp only [List.set_cons_succ]
   rw [this]
theorem yww (n:Nat):(List.replicate n [AV.int .u64 0,AV.int .u64 0]).flatten=wdC (List.replicate n 0):=by
 unfold wdC;induction n with
 |zero=>rfl
 |succ n ih=>simp [List.replicate_succ,ih]
theorem yp7 {p:List Int} {x:AV} (h:x∈wdC p): ∃n,x= .int .u64 n:=by
 simp only [wdC,List.mem_flatMap] at h
 obtain ⟨z,_,h⟩:=h
 simp at h
 rcases h with rfl|rfl<;>exact ⟨_,rfl⟩
theorem y1w (H:Hp) (p:List Int):(wdC p).all (s3 H)=true:=List.all_eq_true.2 fun x hx=>by obtain ⟨n,rfl⟩:=yp7 hx;rfl
attribute [go_sem] y1w
theorem yn4 (p:List (Int×Int)) (h:0<p.length):Fn Tryd.prog 19 [plA false p] (I (p.getD 0 (0,0)).1):=by
 have hc:=yb9 p
 have e:=ydg p 0 h
 rw [Nat.zero_mul] at e
 have b0:((p.length:Int)==0)=false:=by rw [beq_eq_false_iff_ne];omega
 refine Fn.intro [.tmp 2] Tryd.func19 rfl rfl (by decide) (by simp [Tryd.ntmps19]) ?_;rw [Tryd.ntmps19]
 repeat' (first|omega|(try apply yaa);simp only [go_sem,sevalprocAttr,b0,e,hc]|apply yab<;>(intro h_;(try simp only [h_]);revert h_)|apply And.intro|with_reducible intro h_|trivial|simp only [go_sem,la2];omega)
theorem yla (p:List (Int×Int)) (h:0<p.length) (hp:p.length<=1000000):Fn Tryd.prog 18 [plA false p] (I (p.getD (p.length-1) (0,0)).1):=by
 have hc:=yb9 p
 have e:=ydg p (p.length-1) (by omega)
 have b0:((p.length:Int)==0)=false:=by rw [beq_eq_false_iff_ne];omega
 have e1:((p.length:Int)-1).toNat=p.length-1:=by omega
 refine Fn.intro [.tmp 2] Tryd.func18 rfl rfl (by decide) (by simp [Tryd.ntmps18]) ?_;rw [Tryd.ntmps18]
 repeat' (first|omega|(try apply yaa);simp only [go_sem,sevalprocAttr,b0,e,e1,hc]|apply yab<;>(intro h_;(try simp only [h_]);revert h_)|apply And.intro|with_reducible intro h_|trivial|simp only [go_sem,la2];omega)
abbrev mulH (p q:List (Int×Int)) (low:Int) (N:Nat) (zs:List Int):Hp:=[(15, .cells 73 (.lst [.sl 2 14 0 N])),(14, .cells 77 (.lst (wdC zs))),(13, .cells 3 (.lst [I low])),(2, .cells 36 (.lst [.bool false, .nils])),(1, .cells 36 (.lst [.bool false,tmA q])),(0, .cells 36 (.lst [.bool false,tmA p]))]
end Go.Proofs.YtngegnonblbdhaaDoor
