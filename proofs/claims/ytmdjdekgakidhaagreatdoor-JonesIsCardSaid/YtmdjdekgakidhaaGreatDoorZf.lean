/- Layer 12: integers of 128 bits: products, and back to 64 bits. -/
import Derived.Test.YtmdjdekgakidhaaGreatDoorZe
import Derived.Test.YtmdjdekgakidhaaGreatDoorZa
set_option linter.unusedSimpArgs false
set_option linter.unusedVariables false
namespace Go.Proofs.YtmdjdekgakidhaaGreatDoor
open Go Go.RowKit
set_option maxHeartbeats 4000000
set_option maxRecDepth 100000
theorem R0 (x:Int) (h0: -4611686018427387904<=x) (h1:x<=4611686018427387904):Fn Tryz.prog 122 [I x] (.int .u64 (if x<0 then-x else x)):=by
 by_cases h:x<0
 ·have b0:decide (x<0)=true:=by simpa using h
  have e1:IntKind.u64.wrap (0-IntKind.u64.wrap x)= -x:=by rw [IntKind.wrap_u64,IntKind.wrap_u64];omega
  rw [if_pos h];refine Fn.intro [.tmp 2] Tryz.func122 rfl rfl (by decide) (by simp [Tryz.ntmps122]) ?_;rw [Tryz.ntmps122]
  repeat' (first|omega|(try apply ag);simp only [go_sem,sevalprocAttr,b0,e1]|apply ae<;>(intro h_;(try simp only [h_]);revert h_)|apply And.intro|with_reducible intro h_|trivial|simp only [go_sem,ah];omega)
 ·have b0:decide (x<0)=false:=by simpa using h
  have e1:IntKind.u64.wrap x=x:=by rw [IntKind.wrap_u64];omega
  rw [if_neg h];refine Fn.intro [.tmp 2] Tryz.func122 rfl rfl (by decide) (by simp [Tryz.ntmps122]) ?_;rw [Tryz.ntmps122]
  repeat' (first|omega|(try apply ag);simp only [go_sem,sevalprocAttr,b0,e1]|apply ae<;>(intro h_;(try simp only [h_]);revert h_)|apply And.intro|with_reducible intro h_|trivial|simp only [go_sem,ah];omega)
theorem V5 (a b:Nat) (ha:a<18446744073709551616) (hb:b<18446744073709551616):Fn Tryz.prog 121 [.int .u64 a, .int .u64 b] (.tup [.int .u64 ((a*b/18446744073709551616:Nat):Int), .int .u64 ((a*b % 18446744073709551616:Nat):Int)]):=by
 refine ⟨⟨_,Tryz.func121,rfl,by decide⟩,fun w Mx vs gn hl hv=>?_⟩
 match vs,hl,hv with
 |[v0,v1],_,hv=>
  have e0:=(hv 0 v0 _ rfl rfl).an;have e1:=(hv 1 v1 _ rfl rfl).an;subst e0 e1;refine (Tryz.bits_Mul64 a b ha hb w).mono ?_;rintro e w' ⟨rfl,rfl⟩;refine ⟨_,rfl,Below.refl _ _, .tup [.int .u64 _, .int .u64 _] _ rfl fun i u x hu hx=>?_⟩
  match i,hu,hx with
  |0,hu,hx=>cases hu;cases hx;exact .int _ _
  |1,hu,hx=>cases hu;cases hx;exact .int _ _
theorem TX (x y:Int) (h0: -4611686018427387904<=x) (h1:x<=4611686018427387904) (h2: -4611686018427387904<=y) (h3:y<=4611686018427387904):Fn Tryz.prog 81 [I x,I y] (wdA (x*y)):=by
 have m1:=R0 x h0 h1;have m2:=R0 y h2 h3;obtain ⟨a,ha⟩: ∃a:Nat,(if x<0 then-x else x)=a:=⟨(if x<0 then-x else x).toNat,by split<;>omega⟩;obtain ⟨b,hb⟩: ∃b:Nat,(if y<0 then-y else y)=b:=⟨(if y<0 then-y else y).toNat,by split<;>omega⟩;rw [ha] at m1;rw [hb] at m2;have fy:a<=4611686018427387904:=by split at ha<;>omega
 have L8:b<=4611686018427387904:=by split at hb<;>omega
 have hM:=V5 a b (by omega) (by omega);have lX:a*b<=4611686018427387904*4611686018427387904:=Nat.mul_le_mul fy L8;have e1:((a*b/18446744073709551616:Nat):Int)=((a*b:Nat):Int)/18446744073709551616 % 18446744073709551616:=by omega
 have e2:((a*b % 18446744073709551616:Nat):Int)=((a*b:Nat):Int)% 18446744073709551616:=by omega
 rw [e1,e2] at hM;have hN:=Nu ((a*b:Nat):Int);have nA:x*y=if decide (x<0)=decide (y<0) then ((a*b:Nat):Int) else-((a*b:Nat):Int):=by
  rw [Int.natCast_mul,←ha,←hb];by_cases c1:x<0<;>by_cases c2:y<0<;>simp [c1,c2,Int.neg_mul,Int.mul_neg]
 obtain ⟨p,hp⟩: ∃p:Int,p=((a*b:Nat):Int):=⟨_,rfl⟩;rw [←hp] at hM hN nA;clear e1 e2;by_cases hc:decide (x<0)=decide (y<0)
 ·rw [if_pos hc] at nA;have b0:(decide (x<0)!=decide (y<0))=false:=by rw [hc];simp
  rw [nA];refine Fn.ai [.cell 4 69] Tryz.func81 rfl rfl (by decide) (by simp [Tryz.ntmps81]) ?_;rw [Tryz.ntmps81]
  repeat' (first|omega|(try apply ag);simp only [go_sem,sevalprocAttr]|apply ae<;>(intro h_;(try simp only [h_]);revert h_)|apply And.intro|with_reducible intro h_|trivial|simp only [go_sem,ah];omega)
  refine ⟨au.fn rfl m1 ?_⟩
  repeat' (first|omega|(try apply ag);simp only [go_sem,sevalprocAttr]|apply ae<;>(intro h_;(try simp only [h_]);revert h_)|apply And.intro|with_reducible intro h_|trivial|simp only [go_sem,ah];omega)
  refine ⟨au.fn rfl m2 ?_⟩
  repeat' (first|omega|(try apply ag);simp only [go_sem,sevalprocAttr]|apply ae<;>(intro h_;(try simp only [h_]);revert h_)|apply And.intro|with_reducible intro h_|trivial|simp only [go_sem,ah];omega)
  refine ⟨au.fn rfl hM ?_⟩
  repeat' (first|omega|(try apply ag);simp only [go_sem,sevalprocAttr,b0]|apply ae<;>(intro h_;(try simp only [h_]);revert h_)|apply And.intro|with_reducible intro h_|trivial|simp only [go_sem,ah];omega)
  all_goals exact az.refl _
 ·rw [if_neg hc] at nA;have b0:(decide (x<0)!=decide (y<0))=true:=by simpa [bne] using hc
  rw [nA];refine Fn.ai [.cell 4 69] Tryz.func81 rfl rfl (by decide) (by simp [Tryz.ntmps81]) ?_;rw [Tryz.ntmps81]
  repeat' (first|omega|(try apply ag);simp only [go_sem,sevalprocAttr]|apply ae<;>(intro h_;(try simp only [h_]);revert h_)|apply And.intro|with_reducible intro h_|trivial|simp only [go_sem,ah];omega)
  refine ⟨au.fn rfl m1 ?_⟩
  repeat' (first|omega|(try apply ag);simp only [go_sem,sevalprocAttr]|apply ae<;>(intro h_;(try simp only [h_]);revert h_)|apply And.intro|with_reducible intro h_|trivial|simp only [go_sem,ah];omega)
  refine ⟨au.fn rfl m2 ?_⟩
  repeat' (first|omega|(try apply ag);simp only [go_sem,sevalprocAttr]|apply ae<;>(intro h_;(try simp only [h_]);revert h_)|apply And.intro|with_reducible intro h_|trivial|simp only [go_sem,ah];omega)
  refine ⟨au.fn rfl hM ?_⟩
  repeat' (first|omega|(try apply ag);simp only [go_sem,sevalprocAttr,b0]|apply ae<;>(intro h_;(try simp only [h_]);revert h_)|apply And.intro|with_reducible intro h_|trivial|simp only [go_sem,ah];omega)
  refine ⟨au.fn rfl hN ?_⟩
  repeat' (first|omega|(try apply ag);simp only [go_sem,sevalprocAttr]|apply ae<;>(intro h_;(try simp only [h_]);revert h_)|apply And.intro|with_reducible intro h_|trivial|simp only [go_sem,ah];omega)
  all_goals exact az.refl _
theorem V4 (z:Int) (h0: -170141183460469231731687303715884105728<=z) (h1:z<170141183460469231731687303715884105728):Fn Tryz.prog 83 [wdA z] (.tup [wdA (if z<0 then-z else z), .bool (decide (z<0))]):=by
 have hN:=Nu z;by_cases h:z<0
 ·have b0:(z/18446744073709551616 % 18446744073709551616/2^(63:Int).toNat==1)=true:=by
   rw [show (2:Int)^(63:Int).toNat=9223372036854775808 by decide,beq_iff_eq];omega
  have b1:decide (z<0)=true:=by simpa using h
  rw [if_pos h,b1];refine Fn.ai [.cell 2 69, .tmp 3] Tryz.func83 rfl rfl (by decide) (by simp [Tryz.ntmps83]) ?_;rw [Tryz.ntmps83]
  repeat' (first|omega|(try apply ag);simp only [go_sem,sevalprocAttr,b0]|apply ae<;>(intro h_;(try simp only [h_]);revert h_)|apply And.intro|with_reducible intro h_|trivial|simp only [go_sem,ah];omega)
  refine ⟨au.fn rfl hN ?_⟩
  repeat' (first|omega|(try apply ag);simp only [go_sem,sevalprocAttr]|apply ae<;>(intro h_;(try simp only [h_]);revert h_)|apply And.intro|with_reducible intro h_|trivial|simp only [go_sem,ah];omega)
  all_goals exact az.refl _
 ·have b0:(z/18446744073709551616 % 18446744073709551616/2^(63:Int).toNat==1)=false:=by
   rw [show (2:Int)^(63:Int).toNat=9223372036854775808 by decide,beq_eq_false_iff_ne];omega
  have b1:decide (z<0)=false:=by simpa using h
  rw [if_neg h,b1];refine Fn.ai [.cell 2 69, .tmp 3] Tryz.func83 rfl rfl (by decide) (by simp [Tryz.ntmps83]) ?_;rw [Tryz.ntmps83]
  repeat' (first|omega|(try apply ag);simp only [go_sem,sevalprocAttr,b0]|apply ae<;>(intro h_;(try simp only [h_]);revert h_)|apply And.intro|with_reducible intro h_|trivial|simp only [go_sem,ah];omega)
  all_goals exact az.refl _
theorem V3 (z:Int) (h0: -1125899906842624<=z) (h1:z<=1125899906842624):Fn Tryz.prog 42 [wdA z] (.tup [I z, .bool true]):=by
 have hS:=V4 z (by omega) (by omega);have b0:((if z<0 then-z else z)/18446744073709551616 % 18446744073709551616 !=0)=false:=by
  simp only [bne_eq_false_iff_eq];split<;>omega
 have e1:(if z<0 then-z else z)% 18446744073709551616=if z<0 then-z else z:=by split<;>omega
 obtain ⟨u,hu⟩: ∃u,u=(if z<0 then-z else z):=⟨_,rfl⟩;rw [←hu] at hS b0 e1;have u0:0<=u/\u<=1125899906842624:=by rw [hu];split<;>omega
 have b1:decide (1125899906842624<u)=false:=by simp;omega
 have e2:IntKind.i64.wrap u=u:=Pv (by unfold InI;omega);by_cases h:z<0
 ·have b2:decide (z<0)=true:=by simpa using h
  rw [b2] at hS;have e3:0-u=z:=by rw [hu,if_pos h];omega
  refine Fn.ai [.tmp 2, .tmp 3] Tryz.func42 rfl rfl (by decide) (by simp [Tryz.ntmps42]) ?_;rw [Tryz.ntmps42]
  repeat' (first|omega|(try apply ag);simp only [go_sem,sevalprocAttr]|apply ae<;>(intro h_;(try simp only [h_]);revert h_)|apply And.intro|with_reducible intro h_|trivial|simp only [go_sem,ah];omega)
  refine ⟨au.fn rfl hS ?_⟩
  repeat' (first|omega|(try apply ag);simp only [go_sem,sevalprocAttr,b0,b1,e1,e2]|apply ae<;>(intro h_;(try simp only [h_]);revert h_)|apply And.intro|with_reducible intro h_|trivial|simp only [go_sem,ah];omega)
  all_goals (first|omega|exact az.of (by rw [e3]))
 ·have b2:decide (z<0)=false:=by simpa using h
  rw [b2] at hS;have e3:u=z:=by rw [hu,if_neg h]
  refine Fn.ai [.tmp 2, .tmp 3] Tryz.func42 rfl rfl (by decide) (by simp [Tryz.ntmps42]) ?_;rw [Tryz.ntmps42]
  repeat' (first|omega|(try apply ag);simp only [go_sem,sevalprocAttr]|apply ae<;>(intro h_;(try simp only [h_]);revert h_)|apply And.intro|with_reducible intro h_|trivial|simp only [go_sem,ah];omega)
  refine ⟨au.fn rfl hS ?_⟩
  repeat' (first|omega|(try apply ag);simp only [go_sem,sevalprocAttr,b0,b1,e1,e2]|apply ae<;>(intro h_;(try simp only [h_]);revert h_)|apply And.intro|with_reducible intro h_|trivial|simp only [go_sem,ah];omega)
  all_goals (first|omega|exact az.of (by rw [e3]))
set_option maxHeartbeats 8000000
theorem Wk.app {F A fr:Fr} {H H':Hp} (hA:subF F H' A) (hH:subH H H' H') (dx: ∀t,fget fr t= .any\/s3 H' (fget fr t)=true) (h2: ∀t,1000000<=t->fget F t=fget (lft fr) t) (hl:A.all (fun q=>decide (q.1<1000000))=true):Wk F H (A++lft fr) H':=by
 have hf: ∀t,fget (A++lft fr) t= .any\/(fget (A++lft fr) t=fget F t/\s3 H' (fget (A++lft fr) t)=true):=by
  intro t;have key: ∀(A:Fr),subF F H' A->A.all (fun q=>decide (q.1<1000000))=true->fget (A++lft fr) t= .any\/(fget (A++lft fr) t=fget F t/\s3 H' (fget (A++lft fr) t)=true):=by
   intro A
   induction A with
   |nil=>
    intro _ _;rw [List.nil_append];rcases Nat.lt_or_ge t 1000000 with h|h
    ·left;rw [sM,if_neg (by omega)]
    ·have e:=h2 t h;rw [←e];rw [sM,if_pos h] at e;rcases dx (t-1000000) with g|g
     ·left;rw [e];exact g
     ·right;exact ⟨rfl,by rw [e];exact g⟩
   |cons q A ih=>
    intro h1 h3;obtain ⟨t',x⟩:=q;obtain ⟨g1,g2,g3⟩:=h1;simp only [List.all_cons,Bool.and_eq_true] at h3;rw [List.cons_append];simp only [fget]
    split
    ·rename_i e;subst e;right;exact ⟨g1.symm,g2⟩
    ·exact ih g3 h3.2
  exact key A hA hl
 intro B w0 Mx N w ρ a hs;refine ⟨ρ,(hs.weaken (fun id o ho=>(yA hH id o ho).1) (fun t=>(hf t).imp id (·.1)) (fun id o ho M hr=>?_) (fun t M v hv=>?_))⟩
 ·have iG:=(yA hH id o ho).2;cases o with
  |gone=>trivial
  |cells t c=>
   obtain ⟨k1,arr,k2,k3,k4⟩:=hr;refine ⟨k1,arr,k2,k3,fun j hj=>?_⟩;obtain ⟨u,hu,hv⟩:=k4 j hj;refine ⟨u,hu,?_⟩;cases c with
   |ints l=>exact hv.aX rfl
   |bools l=>exact hv.aX rfl
   |lst l=>
    simp only [Cs.len] at hj;simp only [Cs.get,zzB,zzI hj,Option.getD_some] at hv⊢;exact hv.mv (List.all_eq_true.1 iG _ (List.getElem_mem hj))
  |gmap t ck l=>
   obtain ⟨es,k1,k2,k3⟩:=hr;exact ⟨es,k1,k2,fun j e q he hl=>let ⟨g1,g2,g3⟩:=k3 j e q he hl;⟨g1,g2,g3.mv (List.all_eq_true.1 iG q (List.mem_of_getElem? hl))⟩⟩
  |iter mid s sn la=>
   obtain ⟨_,k2,k3⟩:=hr;exact ⟨Option.isSome_iff_exists.1 iG,k2,k3⟩
  |imap t l=>
   obtain ⟨k0,es,ck,k1,k2,k3⟩:=hr;exact ⟨k0,es,ck,k1,k2,fun j e k x he hl=>let ⟨g1,g2,g3⟩:=k3 j e k x he hl;⟨g1,g2.mv (List.all_eq_true.1 iG (k,x) (List.mem_of_getElem? hl)),g3⟩⟩
  |fmap t c=>exact hr
 ·rcases hf t with e|⟨_,e⟩
  ·rw [e];exact .any _
  ·exact hv.mv e
def kp (zs:List Int):List AV:=zs.flatMap fun z=>[.int .u64 (z/18446744073709551616 % 18446744073709551616), .int .u64 (z % 18446744073709551616)]
theorem Nt (p:List Int):(kp p).length=2*p.length:=by
 unfold kp;induction p with
 |nil=>rfl
 |cons x p ih=>simp [ih];omega
theorem Po (p:List Int) (i:Nat) (h:i<p.length):(kp p).getD (i*2) .any= .int .u64 (p.getD i 0/18446744073709551616 % 18446744073709551616):=by
 unfold kp;induction p generalizing i with
 |nil=>simp at h
 |cons x p ih=>
  cases i with
  |zero=>simp
  |succ i=>
   have:=ih i (by simpa using h)
   simp only [List.flatMap_cons,List.getD_cons_succ];rw [show (i+1)*2=i*2+1+1 by omega];simpa using this
theorem Pn (p:List Int) (i:Nat) (h:i<p.length):(kp p).getD (i*2+1) .any= .int .u64 (p.getD i 0 % 18446744073709551616):=by
 unfold kp;induction p generalizing i with
 |nil=>simp at h
 |cons x p ih=>
  cases i with
  |zero=>simp
  |succ i=>
   have:=ih i (by simpa using h)
   simp only [List.flatMap_cons,List.getD_cons_succ];rw [show (i+1)*2+1=i*2+1+1+1 by omega];simpa using this
theorem Kz (p:List Int) (i:Nat) (z:Int):((kp p).set (i*2) (.int .u64 (z/18446744073709551616 % 18446744073709551616))).set (i*2+1) (.int .u64 (z % 18446744073709551616))=kp (p.set i z):=by
 unfold kp;induction p generalizing i with
 |nil=>simp
 |cons x p ih=>
  cases i with
  |zero=>simp
  |succ i=>
   have:=ih i
   simp only [List.flatMap_cons,List.set_cons_succ,List.cons_append,List.nil_append];rw [show (i+1)*2+1=i*2+1+1+1 by omega,show (i+1)*2=i*2+1+1 by omega];simp only [List.set_cons_succ];rw [this]
theorem VB (n:Nat):(List.replicate n [AV.int .u64 0,AV.int .u64 0]).flatten=kp (List.replicate n 0):=by
 unfold kp;induction n with
 |zero=>rfl
 |succ n ih=>simp [List.replicate_succ,ih]
theorem Ns {p:List Int} {x:AV} (h:x∈kp p): ∃n,x= .int .u64 n:=by
 simp only [kp,List.mem_flatMap] at h;obtain ⟨z,_,h⟩:=h;simp at h;rcases h with rfl|rfl<;>exact ⟨_,rfl⟩
theorem yadf (H:Hp) (p:List Int):(kp p).all (s3 H)=true:=List.all_eq_true.2 fun x hx=>by obtain ⟨n,rfl⟩:=Ns hx;rfl
attribute [go_sem] yadf
theorem FZ (p:List (Int×Int)) (h:0<p.length):Fn Tryz.prog 36 [plA false p] (I (p.getD 0 (0,0)).1):=by
 have hc:=ya9 p;have e:=kJ p 0 h;rw [Nat.zero_mul] at e;have b0:((p.length:Int)==0)=false:=by rw [beq_eq_false_iff_ne];omega
 refine Fn.intro [.tmp 2] Tryz.func36 rfl rfl (by decide) (by simp [Tryz.ntmps36]) ?_;rw [Tryz.ntmps36]
 repeat' (first|omega|(try apply ag);simp only [go_sem,sevalprocAttr,b0,e,hc]|apply ae<;>(intro h_;(try simp only [h_]);revert h_)|apply And.intro|with_reducible intro h_|trivial|simp only [go_sem,ah];omega)
theorem GB (p:List (Int×Int)) (h:0<p.length) (hp:p.length<=1000000):Fn Tryz.prog 37 [plA false p] (I (p.getD (p.length-1) (0,0)).1):=by
 have hc:=ya9 p;have e:=kJ p (p.length-1) (by omega);have b0:((p.length:Int)==0)=false:=by rw [beq_eq_false_iff_ne];omega
 have e1:((p.length:Int)-1).toNat=p.length-1:=by omega
 refine Fn.intro [.tmp 2] Tryz.func37 rfl rfl (by decide) (by simp [Tryz.ntmps37]) ?_;rw [Tryz.ntmps37]
 repeat' (first|omega|(try apply ag);simp only [go_sem,sevalprocAttr,b0,e,e1,hc]|apply ae<;>(intro h_;(try simp only [h_]);revert h_)|apply And.intro|with_reducible intro h_|trivial|simp only [go_sem,ah];omega)
abbrev qX (p q:List (Int×Int)) (low:Int) (N:Nat) (zs:List Int):Hp:=[(15, .cells 65 (.lst [.sl 2 14 0 N])),(14, .cells 69 (.lst (kp zs))),(13, .cells 3 (.lst [I low])),(2, .cells 29 (.lst [.bool false, .nils])),(1, .cells 29 (.lst [.bool false,tmA q])),(0, .cells 29 (.lst [.bool false,tmA p]))]
def Dv:List (List Nat):=[[7,8,9,10,11,12,13,14,15,16,17],[6,8,10,11,12,13,14,15,16,17],[6,7,10,11,12,13,14,15,16,17],[6,10,11,12,13,14,15,16,17],[6,7,8,9,11,12,13,16],[6,7,8,9,10,12,16],[6,7,8,9,10,11,16],[6,7,8,9,10,16],[6,7,8,9,16],[6,7,8,9,16],[6,7,8,9,10,11,12,13,14,15],[6,7,8,9],[],[]]
def Du:List (List Nat):=[[],[0],[0,1],[0],[0,1,2,3],[0,1,2,3,4],[0,1,2,3,4,5],[0,1,2,3,4],[0,1,2,3],[0,1,2,3],[0,1,2,3,4,5,6,7,8,9],[0,1,2,3],[],[]]
def xV:List (List Nat):=[[25,26,27,28,29,30,31,32,33,34],[24,27,28,30,31,32,33,34],[24,27,28,30,31,32,33,34],[24,25,26,30,31,32,33,34],[24,25,26,30,31,32,33,34],[24,30,31,32,33,34],[24,25,26,27,28,29,32,33],[24,25,26,27,28,29,32,33],[24,25,26,27,28,29,30,31],[24,25,26,27,28,29,30,31],[24,25,26,27,28,29],[]]
def xU:List (List Nat):=[[],[0],[0],[0,1,2],[0,1,2],[0],[0,1,2,3,4,5],[0,1,2,3,4,5],[0,1,2,3,4,5,6,7],[0,1,2,3,4,5,6,7],[0,1,2,3,4,5],[]]
abbrev Sy (p q:List (Int×Int)) (low:Int) (N:Nat) (zs:List Int) (e1 c1 e2 c2:Int):Hp:=(19, .cells 62 (.lst [I e2,I c2]))::(18, .cells 62 (.lst [I e1,I c1]))::(17, .cells 29 (.lst [.bool false,tmA q]))::(16, .cells 29 (.lst [.bool false,tmA p]))::qX p q low N zs
theorem WU (p q:List (Int×Int)) (low:Int) (zs:List Int) (e1 c1 e2 c2 e w:Int) (N:Nat) (hN:zs.length=N) (hl: -2000000<=low/\low<=2000000) (he:low<=e/\e<low+N) (Tz:N<=4000000) {fr:Fr} {K:AV->Fr->Hp->Prop}
  (hK:K (.tup []) fr ((20, .cells 69 (.lst [.int .u64 (w/18446744073709551616 % 18446744073709551616), .int .u64 (w % 18446744073709551616)]))::Sy p q low N (zs.set (e-low).toNat (zs.getD (e-low).toNat 0+w)) e1 c1 e2 c2)):
  gq Tryz.prog 40 [I e,wdA w, .ptr 15 0, .ptr 13 0] fr (Sy p q low N zs e1 c1 e2 c2) K:=by
 have hi:(e-low).toNat<zs.length:=by omega
 have g0:=Po zs (e-low).toNat hi;have g1:=Pn zs (e-low).toNat hi;have gl:=Nt zs;have hA:=KA (zs.getD (e-low).toNat 0) w;have hS:=Kz zs (e-low).toNat (zs.getD (e-low).toNat 0+w);generalize hk:(e-low).toNat=k at*;refine gq.intro [] Tryz.func40 rfl rfl (by decide) (by simp [Tryz.ntmps40]) ?_;rw [Tryz.ntmps40]
 repeat' (first|omega|(first|apply ag|(refine aj.intro (id:=1) Dv Du (by decide+kernel) mixed ?_)|skip);simp only [go_sem,sevalprocAttr,g0,g1,hk,↓reduceIte,reduceCtorEq,Dv,Du]|apply ae<;>(intro h_;(try simp only [h_]);revert h_)|apply And.intro|with_reducible intro h_|trivial|simp only [go_sem,ah];omega)
 refine ⟨bI.fn rfl hA ?_⟩;simp only [go_sem,sevalprocAttr,g0,g1,hk,hS]
 repeat' (first|omega|(first|apply ag|(refine aj.intro (id:=1) Dv Du (by decide+kernel) mixed ?_)|skip);simp only [go_sem,sevalprocAttr,g0,g1,hk,hS,↓reduceIte,reduceCtorEq,Dv,Du]|apply ae<;>(intro h_;(try simp only [h_]);revert h_)|apply And.intro|with_reducible intro h_|trivial|simp only [go_sem,ah];omega)
 all_goals exact hK
theorem Q9 {H:Hp}: ∀{fr:Fr},fr.all (fun q=>s3 H q.2)=true-> ∀t,fget fr t= .any\/s3 H (fget fr t)=true
 |[],_,t=> .inl rfl
 |(s,x)::r,h,t=>by
  simp only [List.all_cons,Bool.and_eq_true] at h;simp only [fget]
  split
  ·exact .inr h.1
  ·exact Q9 h.2 t
theorem US (p q:List (Int×Int)) (low:Int) (zs:List Int) (N:Nat) (hN:zs.length=N) (hl: -2000000<=low/\low<=2000000) (Tz:N<=4000000) (hp:sz p) (hq:sz q) (iI:p.length<=500000) (yV:q.length<=500000)
  (hx: ∀i j,i<p.length->j<q.length->low<=(p.getD i (0,0)).1+(q.getD j (0,0)).1/\(p.getD i (0,0)).1+(q.getD j (0,0)).1<low+N) (Lo: ∀i,i<p.length-> -2000000<=(p.getD i (0,0)).1/\(p.getD i (0,0)).1<=2000000) (Ll: ∀i,i<q.length-> -2000000<=(q.getD i (0,0)).1/\(q.getD i (0,0)).1<=2000000)
  {fr:Fr} {K:AV->Fr->Hp->Prop} (dx: ∀H':Hp,(hget H' 0).isSome=true->(hget H' 1).isSome=true->(hget H' 2).isSome=true->(hget H' 13).isSome=true->(hget H' 14).isSome=true->(hget H' 15).isSome=true-> ∀t,fget fr t= .any\/s3 H' (fget fr t)=true)
  (hK:K (.tup []) fr ((17, .cells 29 (.lst [.bool false,tmA q]))::(16, .cells 29 (.lst [.bool false,tmA p]))::qX p q low N (ou p q low p.length zs))):
  gq Tryz.prog 39 [plA false p,plA false q, .fn 40 [.ptr 15 0, .ptr 13 0]] fr (qX p q low N zs) K:=by
 have oH:=ya9 p;have uo:=ya9 q;refine gq.intro [] Tryz.func39 rfl rfl (by decide) (by simp [Tryz.ntmps39]) ?_;rw [Tryz.ntmps39]
 repeat' (first|omega|(try apply ag);simp only [go_sem,sevalprocAttr]|apply ae<;>(intro h_;(try simp only [h_]);revert h_)|apply And.intro|with_reducible intro h_|trivial|simp only [go_sem,ah];omega)
 refine aR.intro (fun n fr' H=> ∃i:Nat,i<=p.length/\n=p.length-i/\fr'=[(13,I i),(12,I p.length),(11,tmA p),(4, .ptr 17 0),(3, .ptr 16 0),(2, .fn 40 [.ptr 15 0, .ptr 13 0])]++lft fr/\H=(17, .cells 29 (.lst [.bool false,tmA q]))::(16, .cells 29 (.lst [.bool false,tmA p]))::qX p q low N (ou p q low i zs)) ?_ ?_
 ·refine ⟨_,_,_,?_,0,by omega,rfl,rfl,rfl⟩;refine Wk.app ?_ ?_ (dx _ rfl rfl rfl rfl rfl rfl) (fun t ht=>?_) rfl<;>(simp only [go_sem,sevalprocAttr,yaj,ou])
  all_goals repeat rw [if_neg (by omega)]
 rintro n fr' H ⟨i,hi,rfl,rfl,rfl⟩;by_cases bH:i<p.length
 ·have t0:=kJ p i bH;have t1:=nP p i bH;have Yv:=Lo i bH;have Co:=At hp bH;have yR:=fun j=>hx i j bH;have eP:ou p q low (i+1) zs=pz2 q low (p.getD i (0,0)).1 (p.getD i (0,0)).2 q.length (ou p q low i zs):=rfl;obtain ⟨e1,rQ⟩: ∃e1,e1=(p.getD i (0,0)).1:=⟨_,rfl⟩;obtain ⟨c1,gm⟩: ∃c1,c1=(p.getD i (0,0)).2:=⟨_,rfl⟩;rw [←rQ] at t0 Yv yR eP;rw [←gm] at t1 Co eP;clear rQ gm
  have Bj:=zS p q low i zs;rw [hN] at Bj;generalize ou p q low i zs=zs1 at*
  repeat' (first|omega|(try apply ag);simp only [go_sem,sevalprocAttr,t0,t1,oH]|apply ae<;>(intro h_;(try simp only [h_]);revert h_)|apply And.intro|with_reducible intro h_|trivial|simp only [go_sem,ah];omega)
  refine aR.intro (fun n fr' H=> ∃j:Nat,j<=q.length/\n=q.length-j/\fr'=[(20,I j),(19,I q.length),(18,tmA q),(7, .ptr 18 0),(13,I i),(12,I p.length),(11,tmA p),(4, .ptr 17 0),(3, .ptr 16 0),(2, .fn 40 [.ptr 15 0, .ptr 13 0])]++lft fr/\H=(18, .cells 62 (.lst [I e1,I c1]))::(17, .cells 29 (.lst [.bool false,tmA q]))::(16, .cells 29 (.lst [.bool false,tmA p]))::qX p q low N (pz2 q low e1 c1 j zs1)) ?_ ?_
  ·refine ⟨_,_,_,?_,0,by omega,rfl,rfl,rfl⟩;refine Wk.app ?_ ?_ (dx _ rfl rfl rfl rfl rfl rfl) (fun t ht=>?_) rfl<;>(simp only [go_sem,sevalprocAttr,yaj,pz2])
   all_goals repeat rw [if_neg (by omega)]
  rintro n fr' H ⟨j,hj,rfl,rfl,rfl⟩;by_cases b9:j<q.length
  ·have s0:=kJ q j b9;have s1:=nP q j b9;have Yl:=Ll j b9;have YX:=At hq b9;have SJ:=yR j b9;have eQ:pz2 q low e1 c1 (j+1) zs1=(pz2 q low e1 c1 j zs1).set (e1+(q.getD j (0,0)).1-low).toNat ((pz2 q low e1 c1 j zs1).getD (e1+(q.getD j (0,0)).1-low).toNat 0+c1*(q.getD j (0,0)).2):=rfl;obtain ⟨e2,kb⟩: ∃e2,e2=(q.getD j (0,0)).1:=⟨_,rfl⟩;obtain ⟨c2,pG⟩: ∃c2,c2=(q.getD j (0,0)).2:=⟨_,rfl⟩
   rw [←kb] at s0 Yl SJ eQ;rw [←pG] at s1 YX eQ;clear kb pG;have lT:=DS q low e1 c1 j zs1;rw [Bj] at lT;have hP:=TX c1 c2 (by omega) (by omega) (by omega) (by omega)
   repeat' (first|omega|(first|apply ag|(refine aj.ai (id:=7) xV xU (by decide+kernel) mixed ?_)|(refine aj.intro (id:=7) xV xU (by decide+kernel) mixed ?_)|skip);simp only [go_sem,sevalprocAttr,s0,s1,uo,↓reduceIte,reduceCtorEq,xV,xU]|apply ae<;>(intro h_;(try simp only [h_]);revert h_)|apply And.intro|with_reducible intro h_|trivial|simp only [go_sem,ah];omega)
   refine ⟨bI.fn rfl hP ?_⟩;simp only [go_sem,sevalprocAttr,s0,s1,uo]
   repeat' (first|omega|(first|apply ag|(refine aj.ai (id:=7) xV xU (by decide+kernel) mixed ?_)|(refine aj.intro (id:=7) xV xU (by decide+kernel) mixed ?_)|skip);simp only [go_sem,sevalprocAttr,s0,s1,uo,↓reduceIte,reduceCtorEq,xV,xU]|apply ae<;>(intro h_;(try simp only [h_]);revert h_)|apply And.intro|with_reducible intro h_|trivial|simp only [go_sem,ah];omega)
   refine ⟨au.inline (WU p q low (pz2 q low e1 c1 j zs1) e1 c1 e2 c2 (e1+e2) (c1*c2) N lT hl SJ Tz ?_)⟩;rw [←eQ]
   repeat' (first|omega|(try apply ag);simp only [go_sem,sevalprocAttr]|apply ae<;>(intro h_;(try simp only [h_]);revert h_)|apply And.intro|with_reducible intro h_|trivial|simp only [go_sem,ah];omega)
   refine ⟨_,_,_,?_,?_,⟨j+1,by omega,rfl,rfl,rfl⟩⟩
   ·omega
   ·refine Wk.app (A:=[(20,I ((j+1:Nat):Int)),(19,I q.length),(18,tmA q),(7, .ptr 18 0),(13,I i),(12,I p.length),(11,tmA p),(4, .ptr 17 0),(3, .ptr 16 0),(2, .fn 40 [.ptr 15 0, .ptr 13 0])]) ?_ ?_ (dx _ rfl rfl rfl rfl rfl rfl) (fun t ht=>?_) rfl<;>(simp only [go_sem,sevalprocAttr,yaj])
    all_goals first|omega|repeat rw [if_neg (by omega)]
  ·obtain rfl:j=q.length:=by omega
   repeat' (first|omega|(try apply ag);simp only [go_sem,sevalprocAttr]|apply ae<;>(intro h_;(try simp only [h_]);revert h_)|apply And.intro|with_reducible intro h_|trivial|simp only [go_sem,ah];omega)
   refine ⟨_,_,_,?_,?_,⟨i+1,by omega,rfl,rfl,rfl⟩⟩
   ·omega
   ·rw [eP];refine Wk.app (A:=[(13,I ((i+1:Nat):Int)),(12,I p.length),(11,tmA p),(4, .ptr 17 0),(3, .ptr 16 0),(2, .fn 40 [.ptr 15 0, .ptr 13 0])]) ?_ ?_ (dx _ rfl rfl rfl rfl rfl rfl) (fun t ht=>?_) rfl<;>(simp only [go_sem,sevalprocAttr,yaj])
    all_goals first|omega|repeat rw [if_neg (by omega)]
 ·obtain rfl:i=p.length:=by omega
  repeat' (first|omega|(try apply ag);simp only [go_sem,sevalprocAttr]|apply ae<;>(intro h_;(try simp only [h_]);revert h_)|apply And.intro|with_reducible intro h_|trivial|simp only [go_sem,ah];omega)
  all_goals exact hK
def xT:List (List Nat):=[[33,36,38,5],[33,36,38,5],[31,32,36,38,5],[36,38,5],[36,37,38,39,40,5],[31,32,33,34,35,38,5],[35,38,5],[31,32,33,34,35,36,37,5],[35,5],[35,5],[31,32,33,34,35,36,37,38,39,40],[40],[]]
def yf:List (List Nat):=[[],[],[0,1],[],[],[0,1,2,3,4],[4],[0,1,2,3,4,5,6],[4],[4],[0,1,2,3,4,5,6,7,8,9],[9],[]]
structure FY (p:List (Int×Int)):Prop where
 fits:sz p
 len:p.length<=100000
 asc: ∀i j,i<=j->j<p.length->(p.getD i (0,0)).1<=(p.getD j (0,0)).1
 exp: ∀i,i<p.length-> -1000000<=(p.getD i (0,0)).1/\(p.getD i (0,0)).1<=1000000
theorem PN {l:List Int} {k:Nat} (h:k<l.length):l.take (k+1)=l.take k++[l.getD k 0]:=by
 rw [List.take_succ_eq_append_getElem h];simp [h]
theorem Ky (i:Nat) (p:List Int):(kp p).map (cutV i)=kp p:=by
 conv=>rhs;rw [←List.map_id (kp p)]
 exact List.map_congr_left fun x hx=>by obtain ⟨n,rfl⟩:=Ns hx;rfl
theorem I2 (p q:List (Int×Int)) (hp:FY p) (hq:FY q) (jt:0<p.length) (oD:0<q.length) (iv: -1048576<=aH p+aH q) (vP:gS p+gS q<=1048576)
  (eI:gS p+gS q-(aH p+aH q)<1048576) (hde:gS p+gS q-(aH p+aH q)<=64+4*p.length*q.length) (hz: ∀z∈kX p q,-1125899906842624<=z/\z<=1125899906842624):
  Fn Tryz.prog 10 [plA false p,plA false q] (plA false (tmI (aH p+aH q) (kX p q))):=by
 have L1:=FZ p jt;have L2:=FZ q oD;have H1:=GB p jt (by have:=hp.len;omega);have H2:=GB q oD (by have:=hq.len;omega);have a1:=hp.asc 0 (p.length-1) (by omega) (by omega);have a2:=hq.asc 0 (q.length-1) (by omega) (by omega);have x1:=hp.exp 0 jt;have x2:=hq.exp 0 oD;have x3:=hp.exp (p.length-1) (by omega);have x4:=hq.exp (q.length-1) (by omega);have pl:=hp.len;have ql:=hq.len
 have hx: ∀i j,i<p.length->j<q.length->aH p+aH q<=(p.getD i (0,0)).1+(q.getD j (0,0)).1/\(p.getD i (0,0)).1+(q.getD j (0,0)).1<=gS p+gS q:=fun i j hi hj=>by
  have b1:=hp.asc 0 i (by omega) hi;have b2:=hq.asc 0 j (by omega) hj;have b3:=hp.asc i (p.length-1) (by omega) (by omega);have b4:=hq.asc j (q.length-1) (by omega) (by omega);unfold aH gS;omega
 have Lo: ∀i,i<p.length-> -2000000<=(p.getD i (0,0)).1/\(p.getD i (0,0)).1<=2000000:=fun i hi=>by have:=hp.exp i hi;omega
 have Ll: ∀i,i<q.length-> -2000000<=(q.getD i (0,0)).1/\(q.getD i (0,0)).1<=2000000:=fun i hi=>by have:=hq.exp i hi;omega
 have BN:p.length*q.length<=100000*100000:=Nat.mul_le_mul pl ql;have S2:(4:Int)*p.length*q.length=4*((p.length*q.length:Nat):Int):=by rw [Int.natCast_mul,Int.mul_assoc]
 unfold kX at hz⊢;unfold aH gS at*;generalize (p.getD 0 (0,0)).1=lp at*;generalize (q.getD 0 (0,0)).1=lq at*;generalize (p.getD (p.length-1) (0,0)).1=nB at*;generalize (q.getD (q.length-1) (0,0)).1=sX at*;have b0:((p.length:Int)==0)=false:=by rw [beq_eq_false_iff_ne];omega
 have b1:((q.length:Int)==0)=false:=by rw [beq_eq_false_iff_ne];omega
 have b2:decide (lp+lq< -1048576)=false:=by simp;omega
 have b3:decide (1048576<nB+sX)=false:=by simp;omega
 have b4:decide (64+4*(p.length:Int)*q.length<nB+sX-(lp+lq))=false:=by simp;omega
 refine Fn.ai [.cell 4 29] Tryz.func10 rfl rfl (by decide) (by simp [Tryz.ntmps10]) ?_;rw [Tryz.ntmps10]
 repeat' (first|omega|(first|apply ag|(refine aj.intro (id:=5) xT yf (by decide+kernel) mixed ?_)|skip);simp only [go_sem,sevalprocAttr,b0,b1,↓reduceIte,reduceCtorEq,xT,yf]|apply ae<;>(intro h_;(try simp only [h_]);revert h_)|apply And.intro|with_reducible intro h_|trivial|simp only [go_sem,ah];omega)
 refine ⟨bI.fn rfl L1 ?_⟩;simp only [go_sem,sevalprocAttr];refine ⟨bI.fn rfl L2 ?_⟩;simp only [go_sem,sevalprocAttr]
 repeat' (first|omega|(first|apply ag|(refine aj.intro (id:=5) xT yf (by decide+kernel) mixed ?_)|skip);simp only [go_sem,sevalprocAttr,b0,b1,↓reduceIte,reduceCtorEq,xT,yf]|apply ae<;>(intro h_;(try simp only [h_]);revert h_)|apply And.intro|with_reducible intro h_|trivial|simp only [go_sem,ah];omega)
 refine ⟨bI.fn rfl H1 ?_⟩;simp only [go_sem,sevalprocAttr];refine ⟨bI.fn rfl H2 ?_⟩;simp only [go_sem,sevalprocAttr]
 repeat' (first|omega|(first|apply ag|(refine aj.intro (id:=5) xT yf (by decide+kernel) mixed ?_)|skip);simp only [go_sem,sevalprocAttr,b2,b3,b4,VB,↓reduceIte,reduceCtorEq,xT,yf]|apply ae<;>(intro h_;(try simp only [h_]);revert h_)|apply And.intro|with_reducible intro h_|trivial|simp only [go_sem,ah];omega)
 obtain ⟨N,hN⟩: ∃N:Nat,(nB+sX-(lp+lq)+1).toNat=N:=⟨_,rfl⟩;rw [hN] at hz⊢
 refine ⟨au.inline (US p q (lp+lq) (List.replicate N 0) N (by simp) (by omega) (by omega) hp.fits hq.fits (by omega) (by omega) (fun i j hi hj=>by have:=hx i j hi hj;omega) Lo Ll
  (fun H' g0 g1 g2 g13 g14 g15=>Q9 (by simp only [go_sem,sevalprocAttr,g0,g1,g2,g13,g14,g15])) ?_)⟩
 have Bj:=zS p q (lp+lq) p.length (List.replicate N 0);rw [List.length_replicate] at Bj;generalize ou p q (lp+lq) p.length (List.replicate N 0)=zs at*;have wM:=Nt zs
 repeat' (first|omega|(try apply ag);simp only [go_sem,sevalprocAttr]|apply ae<;>(intro h_;(try simp only [h_]);revert h_)|apply And.intro|with_reducible intro h_|trivial|simp only [go_sem,ah];omega)
 refine aR.intro (fun n fr H=> ∃k:Nat,k<=N/\n=N-k/\fr=[(75,I k),(74,I N),(73, .sl 2 14 0 N),(8, .ptr 18 0),(5, .ptr 13 0),(4, .ptr 2 0)]/\
  ((tmI (lp+lq) (zs.take k)=[]/\H=[(18, .cells 29 (.lst [.bool false, .nils])),(14, .cells 69 (.lst (kp zs))),(13, .cells 3 (.lst [I (lp+lq)])),(2, .cells 29 (.lst [.bool false, .nils]))])\/
   H=[(21, .cells 62 (.lst (dr (tmI (lp+lq) (zs.take k))))),(18, .cells 29 (.lst [.bool false, .sl 2 21 0 (tmI (lp+lq) (zs.take k)).length])),(14, .cells 69 (.lst (kp zs))),(13, .cells 3 (.lst [I (lp+lq)])),(2, .cells 29 (.lst [.bool false, .nils]))])) ?_ ?_
 ·refine ⟨_,_,_,?_,0,by omega,rfl,rfl, .inl ⟨by simp [tmI],rfl⟩⟩;refine Wk.sub ?_ ?_<;>(simp only [go_sem,sevalprocAttr,yaj])
  all_goals simp_all
 rintro n fr H ⟨k,hk,rfl,rfl,hc⟩;have sW:=GL (lp+lq) (zs.take k);rw [List.length_take] at sW;by_cases bM:k<N
 ·have g0:=Po zs k (by omega);have g1:=Pn zs k (by omega);have KU:=hz (zs.getD k 0) (by simp [zzB,zzI (show k<zs.length by omega)]);have hS:=V3 (zs.getD k 0) KU.1 KU.2;have eT:=Hk (lp+lq) (zs.take k) (zs.getD k 0);rw [←PN (by omega),List.length_take,show min k zs.length=k by omega] at eT;generalize zs.getD k 0=z at*
  have hlen:=ya9 (tmI (lp+lq) (zs.take k));by_cases jP:z=0
  ·subst jP;rw [if_pos rfl,List.append_nil] at eT;rcases hc with ⟨hn,rfl⟩|rfl
   ·repeat' (first|omega|(try apply ag);simp only [go_sem,sevalprocAttr,g0,g1,wM]|apply ae<;>(intro h_;(try simp only [h_]);revert h_)|apply And.intro|with_reducible intro h_|trivial|simp only [go_sem,ah];omega)
    refine ⟨au.fn rfl hS ?_⟩
    repeat' (first|omega|(try apply ag);simp only [go_sem,sevalprocAttr]|apply ae<;>(intro h_;(try simp only [h_]);revert h_)|apply And.intro|with_reducible intro h_|trivial|simp only [go_sem,ah];omega)
    refine ⟨_,_,_,?_,?_,⟨k+1,by omega,rfl,rfl, .inl ⟨by rw [eT];exact hn,rfl⟩⟩⟩
    ·omega
    ·refine Wk.sub ?_ ?_<;>(simp only [go_sem,sevalprocAttr,yaj])
     all_goals simp_all
   ·repeat' (first|omega|(try apply ag);simp only [go_sem,sevalprocAttr,g0,g1,wM]|apply ae<;>(intro h_;(try simp only [h_]);revert h_)|apply And.intro|with_reducible intro h_|trivial|simp only [go_sem,ah];omega)
    refine ⟨au.fn rfl hS ?_⟩
    repeat' (first|omega|(try apply ag);simp only [go_sem,sevalprocAttr]|apply ae<;>(intro h_;(try simp only [h_]);revert h_)|apply And.intro|with_reducible intro h_|trivial|simp only [go_sem,ah];omega)
    refine ⟨_,_,_,?_,?_,⟨k+1,by omega,rfl,rfl, .inr rfl⟩⟩
    ·omega
    ·rw [eT];refine Wk.sub ?_ ?_<;>(simp only [go_sem,sevalprocAttr,yaj])
     all_goals simp_all
  ·rw [if_neg jP] at eT;have bz:(z !=0)=true:=by simpa using jP
   rcases hc with ⟨hn,rfl⟩|rfl
   ·rw [hn,List.nil_append] at eT
    repeat' (first|omega|(try apply ag);simp only [go_sem,sevalprocAttr,g0,g1,wM]|apply ae<;>(intro h_;(try simp only [h_]);revert h_)|apply And.intro|with_reducible intro h_|trivial|simp only [go_sem,ah];omega)
    refine ⟨au.fn rfl hS ?_⟩
    repeat' (first|omega|(try apply ag);simp only [go_sem,sevalprocAttr,bz]|apply ae<;>(intro h_;(try simp only [h_]);revert h_)|apply And.intro|with_reducible intro h_|trivial|simp only [go_sem,ah];omega)
    refine ⟨_,_,_,?_,?_,⟨k+1,by omega,rfl,rfl, .inr rfl⟩⟩
    ·omega
    ·rw [eT];refine Wk.sub ?_ ?_<;>(simp only [go_sem,sevalprocAttr,yaj])
     all_goals rfl
   ·repeat' (first|omega|(try apply ag);simp only [go_sem,sevalprocAttr,g0,g1,wM]|apply ae<;>(intro h_;(try simp only [h_]);revert h_)|apply And.intro|with_reducible intro h_|trivial|simp only [go_sem,ah];omega)
    refine ⟨au.fn rfl hS ?_⟩
    repeat' (first|omega|(try apply ag);simp only [go_sem,sevalprocAttr,bz,hlen,Ky]|apply ae<;>(intro h_;(try simp only [h_]);revert h_)|apply And.intro|with_reducible intro h_|trivial|simp only [go_sem,ah];omega)
    rw [wC];refine ⟨_,_,_,?_,?_,⟨k+1,by omega,rfl,rfl, .inr rfl⟩⟩
    ·omega
    ·rw [eT];refine Wk.sub ?_ ?_<;>(simp only [go_sem,sevalprocAttr,yaj,zzF])
     all_goals simp_all
 ·obtain rfl:k=N:=by omega
  rw [List.take_of_length_le (by omega)] at hc sW;rcases hc with ⟨hn,rfl⟩|rfl
  ·repeat' (first|omega|(try apply ag);simp only [go_sem,sevalprocAttr]|apply ae<;>(intro h_;(try simp only [h_]);revert h_)|apply And.intro|with_reducible intro h_|trivial|simp only [go_sem,ah];omega)
   all_goals rw [hn]
   all_goals exact az.iA (.cons (az.refl _) (.cons (az.nils (by omega) rfl) .nil))
  ·have hlen:=ya9 (tmI (lp+lq) zs)
   repeat' (first|omega|(try apply ag);simp only [go_sem,sevalprocAttr,yk0]|apply ae<;>(intro h_;(try simp only [h_]);revert h_)|apply And.intro|with_reducible intro h_|trivial|simp only [go_sem,ah];omega)
   all_goals exact az.of (by rw [List.take_of_length_le (by omega)])
theorem He {v l:Int} (h0: -l<=v) (h1:v<=l):gH v l=true:=by unfold gH;simp;omega
theorem FE (low:Int) (cs:List Int) (hl: -1000000<=low/\low+cs.length<=1000000) (hn:cs.length<=100000) (hc: ∀c∈cs,-1125899906842624<=c/\c<=1125899906842624):
  Fn Tryz.prog 43 [I low,roI cs] (plA false (tmI low cs)):=by
 refine Fn.ai [.cell 4 29] Tryz.func43 rfl rfl (by decide) (by simp [Tryz.ntmps43]) ?_;rw [Tryz.ntmps43]
 repeat' (first|omega|(try apply ag);simp only [go_sem,sevalprocAttr]|apply ae<;>(intro h_;(try simp only [h_]);revert h_)|apply And.intro|with_reducible intro h_|trivial|simp only [go_sem,ah];omega)
 refine aR.intro (fun n fr H=> ∃k:Nat,k<=cs.length/\n=cs.length-k/\fr=[(10,I k),(9,I cs.length),(8,roI cs),(5, .ptr 1 0),(4, .ptr 0 0),(0,I low)]/\
  ((tmI low (cs.take k)=[]/\H=[(1, .cells 29 (.lst [.bool false, .nils])),(0, .cells 29 (.lst [.bool false, .nils]))])\/
   H=[(3, .cells 62 (.lst (dr (tmI low (cs.take k))))),(1, .cells 29 (.lst [.bool false, .sl 2 3 0 (tmI low (cs.take k)).length])),(0, .cells 29 (.lst [.bool false, .nils]))])) ?_ ?_
 ·refine ⟨_,_,_,?_,0,by omega,rfl,rfl, .inl ⟨by simp [tmI],rfl⟩⟩;refine Wk.sub ?_ ?_<;>simp only [go_sem,sevalprocAttr]
  all_goals simp_all
 rintro n fr H ⟨k,hk,rfl,rfl,dZ⟩;have sW:=GL low (cs.take k);rw [List.length_take] at sW;by_cases bM:k<cs.length
 ·have KU:=hc (cs.getD k 0) (by simp [zzB,zzI bM]);have eT:=Hk low (cs.take k) (cs.getD k 0);rw [←PN bM,List.length_take,show min k cs.length=k by omega] at eT;have pq:=wD (cs.getD k 0) 1125899906842624 (by omega) (by omega);have oz:=wD (low+k) 1048576 (by omega) (by omega);rw [He (by omega) (by omega)] at pq oz
  have bl:decide (1048576<low)=false:=by simp;omega
  have hlen:=ya9 (tmI low (cs.take k));by_cases jP:cs.getD k 0=0
  ·have bz:(cs.getD k 0==0)=true:=by simpa using jP
   rw [if_pos jP,List.append_nil] at eT;rcases dZ with ⟨hn,rfl⟩|rfl
   ·repeat' (first|omega|(try apply ag);simp only [go_sem,sevalprocAttr,bz]|apply ae<;>(intro h_;(try simp only [h_]);revert h_)|apply And.intro|with_reducible intro h_|trivial|simp only [go_sem,ah];omega)
    refine ⟨_,_,_,?_,?_,⟨k+1,by omega,rfl,rfl, .inl ⟨by rw [eT];exact hn,rfl⟩⟩⟩
    ·omega
    ·refine Wk.sub ?_ ?_<;>(simp only [go_sem,sevalprocAttr,yaj])
     all_goals simp_all
   ·repeat' (first|omega|(try apply ag);simp only [go_sem,sevalprocAttr,bz]|apply ae<;>(intro h_;(try simp only [h_]);revert h_)|apply And.intro|with_reducible intro h_|trivial|simp only [go_sem,ah];omega)
    refine ⟨_,_,_,?_,?_,⟨k+1,by omega,rfl,rfl, .inr rfl⟩⟩
    ·omega
    ·rw [eT];refine Wk.sub ?_ ?_<;>(simp only [go_sem,sevalprocAttr,yaj])
     all_goals simp_all
  ·have bz:(cs.getD k 0==0)=false:=by rw [beq_eq_false_iff_ne];exact jP
   rw [if_neg jP] at eT;rcases dZ with ⟨hn,rfl⟩|rfl
   ·rw [hn,List.nil_append] at eT
    repeat' (first|omega|(try apply ag);simp only [go_sem,sevalprocAttr,bz]|apply ae<;>(intro h_;(try simp only [h_]);revert h_)|apply And.intro|with_reducible intro h_|trivial|simp only [go_sem,ah];omega)
    refine ⟨au.fn rfl pq ?_⟩
    repeat' (first|omega|(try apply ag);simp only [go_sem,sevalprocAttr,bl]|apply ae<;>(intro h_;(try simp only [h_]);revert h_)|apply And.intro|with_reducible intro h_|trivial|simp only [go_sem,ah];omega)
    refine ⟨au.fn rfl oz ?_⟩
    repeat' (first|omega|(try apply ag);simp only [go_sem,sevalprocAttr]|apply ae<;>(intro h_;(try simp only [h_]);revert h_)|apply And.intro|with_reducible intro h_|trivial|simp only [go_sem,ah];omega)
    refine ⟨_,_,_,?_,?_,⟨k+1,by omega,rfl,rfl, .inr rfl⟩⟩
    ·omega
    ·rw [eT];refine Wk.sub ?_ ?_<;>(simp only [go_sem,sevalprocAttr,yaj])
     all_goals first|rfl|simp_all
   ·repeat' (first|omega|(try apply ag);simp only [go_sem,sevalprocAttr,bz]|apply ae<;>(intro h_;(try simp only [h_]);revert h_)|apply And.intro|with_reducible intro h_|trivial|simp only [go_sem,ah];omega)
    refine ⟨au.fn rfl pq ?_⟩
    repeat' (first|omega|(try apply ag);simp only [go_sem,sevalprocAttr,bl]|apply ae<;>(intro h_;(try simp only [h_]);revert h_)|apply And.intro|with_reducible intro h_|trivial|simp only [go_sem,ah];omega)
    refine ⟨au.fn rfl oz ?_⟩
    repeat' (first|omega|(try apply ag);simp only [go_sem,sevalprocAttr,hlen]|apply ae<;>(intro h_;(try simp only [h_]);revert h_)|apply And.intro|with_reducible intro h_|trivial|simp only [go_sem,ah];omega)
    rw [wC];refine ⟨_,_,_,?_,?_,⟨k+1,by omega,rfl,rfl, .inr rfl⟩⟩
    ·omega
    ·rw [eT];refine Wk.sub ?_ ?_<;>(simp only [go_sem,sevalprocAttr,yaj,zzF])
     all_goals simp_all
 ·obtain rfl:k=cs.length:=by omega
  rw [List.take_of_length_le (zzA _)] at dZ sW;rcases dZ with ⟨hn,rfl⟩|rfl
  ·repeat' (first|omega|(try apply ag);simp only [go_sem,sevalprocAttr]|apply ae<;>(intro h_;(try simp only [h_]);revert h_)|apply And.intro|with_reducible intro h_|trivial|simp only [go_sem,ah];omega)
   all_goals rw [hn]
   all_goals exact az.iA (.cons (az.refl _) (.cons (az.nils (by omega) rfl) .nil))
  ·have hlen:=ya9 (tmI low cs)
   repeat' (first|omega|(try apply ag);simp only [go_sem,sevalprocAttr,yk0]|apply ae<;>(intro h_;(try simp only [h_]);revert h_)|apply And.intro|with_reducible intro h_|trivial|simp only [go_sem,ah];omega)
   all_goals exact az.of (by rw [List.take_of_length_le (by omega)])
def yK (c e:Int):List (Int×Int):=if c=0 then [] else [(e,c)]
theorem Nr (q:List (Int×Int)):Fn Tryz.prog 10 [plA false [],plA false q] (plA false []):=by
 refine Fn.ai [.cell 4 29] Tryz.func10 rfl rfl (by decide) (by simp [Tryz.ntmps10]) ?_;rw [Tryz.ntmps10]
 repeat' (first|omega|(try apply ag);simp only [go_sem,sevalprocAttr]|apply ae<;>(intro h_;(try simp only [h_]);revert h_)|apply And.intro|with_reducible intro h_|trivial|simp only [go_sem,ah];omega)
 all_goals exact az.iA (.cons (az.refl _) (.cons (az.nils (by omega) rfl) .nil))
end Go.Proofs.YtmdjdekgakidhaaGreatDoor
