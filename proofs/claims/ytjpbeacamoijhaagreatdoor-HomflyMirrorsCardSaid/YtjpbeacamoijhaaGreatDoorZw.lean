/- Plain: bounds of the HOMFLY polynomial's coefficients and exponents; the Conway polynomial at v = 1. -/
import Derived.Test.YtjpbeacamoijhaaGreatDoorZv
import Derived.Test.YtjpbeacamoijhaaGreatDoorZc
import Derived.Test.YtjpbeacamoijhaaGreatDoorZh
import Derived.Test.YtjpbeacamoijhaaGreatDoorBm5
import Derived.Test.YtjpbeacamoijhaaGreatDoorZa
import Derived.Test.YtjpbeacamoijhaaGreatDoorPl
namespace Go.Proofs.YtjpbeacamoijhaaGreatDoor
set_option linter.unusedSimpArgs false
set_option linter.unusedVariables false
namespace Hs
theorem UP (S:WS): ∀n,rl S n<=n
 |0=>Nat.le_refl _
 |n+1=>by
  have:=UP S n
  simp only [rl]
  split<;>omega
theorem GU (D:Sh) (S:WS):fu D S<=2*D.n:=by
 have: ∀k,unv S.ae k<=k:=fun k=>by
  induction k with
  |zero=>exact Nat.le_refl _
  |succ k ih=>simp only [unv];split<;>omega
 exact this _
theorem UO (X:Int->Int->Nat->Int): ∀T,p9 T X≠0-> ∃t∈T,X t.2.1 t.2.2.1 t.2.2.2≠0
 |[],h=>absurd rfl h
 |t::T,h=>by
  by_cases h1:X t.2.1 t.2.2.1 t.2.2.2=0
  ·have h2:p9 T X≠0:=fun e=>h (by show t.1*_+p9 T X=0;rw [h1,e,Int.mul_zero];rfl);obtain ⟨u,hu,hx⟩:=UO X T h2;exact ⟨u, .tail _ hu,hx⟩
  ·exact ⟨t, .head _,h1⟩
theorem QP (X:Int->Int->Nat->Int) (M:Int): ∀T:List (Int×Int×Int×Nat),(∀t∈T,(t.1=1\/t.1= -1)/\ -M<=X t.2.1 t.2.2.1 t.2.2.2/\X t.2.1 t.2.2.1 t.2.2.2<=M)-> -(T.length*M)<=p9 T X/\p9 T X<=T.length*M
 |[],_=>by
  show-(((0:Nat):Int)*M)<=0/\0<=((0:Nat):Int)*M;rw [show ((0:Nat):Int)=0 from rfl,Int.zero_mul];decide
 |t::T,h=>by
  have ih:=QP X M T fun u hu=>h u (.tail _ hu);obtain ⟨h1,h2,h3⟩:=h t (.head _);have e:(((t::T).length:Nat):Int)*M=T.length*M+M:=by
   rw [List.length_cons,show ((T.length+1:Nat):Int)=(T.length:Int)+1 by omega,Int.add_mul,Int.one_mul]
  show-(((t::T).length:Nat)*M)<=t.1*X t.2.1 t.2.2.1 t.2.2.2+p9 T X/\t.1*X t.2.1 t.2.2.1 t.2.2.2+p9 T X<=((t::T).length:Nat)*M;rw [e];rcases h1 with h1|h1<;>rw [h1]
  ·rw [Int.one_mul];omega
  ·rw [Int.neg_one_mul];omega
section
variable {s m:List Int} {l:Nat}
theorem UN (v:jP s m l): ∃T,(∀X,HF X s m l=p9 T X)/\T.length<=2^s.length/\ ∀t∈T,(t.1=1\/t.1= -1)/\(-(2*s.length:Int)<=t.2.1/\t.2.1<=2*s.length)/\(0<=t.2.2.1/\t.2.2.1<=s.length)/\l<=t.2.2.2/\t.2.2.2<=l+2*s.length:=by
 have hf:=GU (au s m) (Z0 (fun _=>1) l);have Wy:fu (au s m) (Z0 (fun _=>1) l)<=2*s.length:=hf;obtain ⟨T,t1,t2,t3⟩:=K8 (D:=au s m) (fun c hc=>v.sg c hc) (l+fu (au s m) (Z0 (fun _=>1) l)) (List.range (2*s.length)) (Z0 (fun _=>1) l) (Nat.le_refl _);have hr:rl (Z0 (fun _=>1) l) (au s m).n<=s.length:=UP _ _
 refine ⟨T,fun X=>?_,Nat.le_trans t2 (Nat.pow_le_pow_right (by omega) hr),fun t ht=>?_⟩
 ·unfold HF;rw [Int.toNat_natCast];exact t1 X
 ·have:=t3 t ht
  have e1:(Z0 (fun _=>1) l).i=0:=rfl;have e2:(Z0 (fun _=>1) l).j=0:=rfl;have e3:(Z0 (fun _=>1) l).k=l:=rfl;rw [e1,e2,e3] at this;omega
theorem KO (v:jP s m l) {a b:Int} (h:nf s m l a b≠0):(-(4*s.length+l:Int)<=a/\a<=4*s.length+l)/\ -(2*s.length+l:Int)<=b/\b<=s.length+1:=by
 obtain ⟨T,t1,_,t3⟩:=UN v;obtain ⟨t,ht,hx⟩:=UO _ T (by rw [←t1];exact h)
 have:=t3 t ht
 unfold Xh at hx;by_cases hb:b=t.2.2.1-((t.2.2.2:Int)-1)
 ·rw [if_pos hb] at hx
  have:=oP _ _ hx
  omega
 ·rw [if_neg hb] at hx;exact absurd rfl hx
theorem MH (v:jP s m l) (a b:Int): -(2^(3*s.length+l):Int)<=nf s m l a b/\nf s m l a b<=2^(3*s.length+l):=by
 obtain ⟨T,t1,t2,t3⟩:=UN v;have pw: ∀{x y:Nat},x<=y->(2^x:Int)<=2^y:=fun {x y} h=>by
  have:=Nat.pow_le_pow_right (n:=2) (by omega) h
  exact_mod_cast this
 have h1:=QP (Xh a b) (2^(2*s.length+l)) T fun t ht=>by
  have:=t3 t ht
  refine ⟨this.1,?_⟩;have h2:=Ih (t.2.2.2-1) (a-t.2.1);have h3:=pw (show t.2.2.2-1<=2*s.length+l by omega);have h4:(0:Int)<=2^(2*s.length+l):=by
   have:=pw (Nat.zero_le (2*s.length+l))
   have e:(2:Int)^0=1:=rfl;omega
  unfold Xh
  split<;>omega
 rw [←t1] at h1;have h5:((T.length:Nat):Int)*2^(2*s.length+l)<=2^(3*s.length+l):=by
  have:T.length*2^(2*s.length+l)<=2^(3*s.length+l):=by
   rw [show 3*s.length+l=s.length+(2*s.length+l) by omega,Nat.pow_add 2 s.length (2*s.length+l)];exact Nat.mul_le_mul_right _ t2
  exact_mod_cast this
 show-_<=HF (Xh a b) s m l/\HF (Xh a b) s m l<=_;omega
end
end Hs
namespace Hs
section
variable {s m:List Int} {L:Int}
theorem ZP {c:Nat} (hv:bI s m L=true) (hc:c<s.length) (gN:bI (de s c) (en s m c) (gP s m c L)=true) (a b:Int):nf s m L a b=nf (jR s c) (jc s m c) L (a-2*s.getD c 0) b+s.getD c 0*nf (de s c) (en s m c) (gP s m c L) (a-s.getD c 0) (b-1):=by
 rcases (dr hv).sg c hc with h|h
 ·have:=(RD hv hc gN (a-1) b).1 h
  rw [show a-1+1=a by omega,show a-1-1=a-2 by omega] at this;rw [h,show a-2*1=a-2 by omega,Int.one_mul];exact this
 ·have:=(RD hv hc gN (a+1) b).2 h
  rw [show a+1+1=a+2 by omega,show a+1-1=a by omega] at this;rw [h,show a-2* -1=a+2 by omega,show a- -1=a+1 by omega];omega
theorem ZO (hv:bI s m L=true) (hb:mN s m=none) (a b:Int):nf s m L a b=Xh a b 0 0 (L.toNat+(dt s m).length):=y77 (Im a b) hv hb
theorem Pn (a b:Int):Xh a b 0 0 1=if a=0/\b=0 then 1 else 0:=by
 unfold Xh;show (if b=0-(((1:Nat):Int)-1) then (if a-0=0 then 1 else 0) else 0)=_;by_cases h:a=0/\b=0
 ·rw [if_pos (by omega),if_pos (by omega),if_pos h]
 ·rw [if_neg h];by_cases h1:b=0-(((1:Nat):Int)-1)
  ·rw [if_pos h1,if_neg (by omega)]
  ·rw [if_neg h1]
theorem Hm (n:Nat) (a b:Int):Xh a b 0 0 (n+1+1)=Dl (fun a b=>Xh a b 0 0 (n+1)) a b:=Pl a b 0 0 (by omega)
def ng (s m:List Int) (L:Int) (e:Int):Int:=nf s m L (aN e) (az e)
theorem QO {l:Nat} (v:jP s m l) (hn:s.length+l<=1000) {e e':Int} (h: -1048576<=az e'/\az e'<=1048576):ng s m l (e-e')=nf s m l (aN e-aN e') (az e-az e'):=by
 have e1:e-e'=bB (aN e-aN e') (az e-az e'):=by
  have h1:=qI e;have h2:=qI e';unfold bB at*;omega
 unfold ng;by_cases hz: -8388608<=az e-az e'/\az e-az e'<8388608
 ·rw [e1,tG hz,pL hz]
 ·have b1:=A9 e;have z1:nf s m l (aN e-aN e') (az e-az e')=0:=Classical.byContradiction fun h0=>by
   have:=KO v h0
   omega
  have z2:nf s m l (aN (e-e')) (az (e-e'))=0:=Classical.byContradiction fun h0=>by
   have:=KO v h0
   have k:az (e-e')=az e-az e'-16777216\/az (e-e')=az e-az e'+16777216:=by
    unfold az at*;omega
   omega
  rw [z1,z2]
end
end Hs
namespace Hs
def XE (k:Nat) (e:Int):Int:=Xh (aN e) (az e) 0 0 k
theorem tn (k:Nat):c7 (XE k) (k+1):=fun e he=>by
 unfold XE Xh at he;by_cases hb:az e=0-((k:Int)-1)
 ·rw [if_pos hb] at he
  have:=oP _ _ he
  omega
 ·rw [if_neg hb] at he;exact absurd rfl he
theorem Cz (k:Nat) (e:Int): -(2^k:Int)<=XE k e/\XE k e<=2^k:=by
 unfold XE Xh;have h1:=Ih (k-1) (aN e-0);have h2:((2^(k-1):Nat):Int)<=((2^k:Nat):Int):=Int.ofNat_le.2 (Nat.pow_le_pow_right (by decide) (Nat.sub_le k 1));rw [Int.natCast_pow,Int.natCast_pow] at h2;have h3:(0:Int)<=2^(k-1):=Int.pow_nonneg (by decide);have h4:(0:Int)<=2^k:=Int.le_trans h3 h2
 split
 ·exact ⟨Int.le_trans (Int.neg_le_neg h2) h1.1,Int.le_trans h1.2 h2⟩
 ·exact ⟨Int.neg_nonpos_of_nonneg h4,h4⟩
theorem Ht:dL [(0,1)] (XE 1):=by
 have b0:aN 0=0/\az 0=0:=by decide
 refine ⟨⟨by simp,fun t ht=>by simp only [List.mem_singleton] at ht;subst ht;decide⟩,fun e=>?_⟩;unfold XE;rw [Pn];simp only [cfL,Int.add_zero];by_cases h:e=0
 ·subst h;rw [if_pos rfl,if_pos b0]
 ·rw [if_neg (fun h'=>h h'.symm),if_neg fun h'=>h ?_]
  have:=qI e
  rw [h'.1,h'.2] at this;rw [←this];decide
theorem UM {n:Nat} (hn:n<=1000) {e e':Int} (h: -1048576<=az e'/\az e'<=1048576):XE n (e-e')=Xh (aN e-aN e') (az e-az e') 0 0 n:=by
 have e1:e-e'=bB (aN e-aN e') (az e-az e'):=by
  have h1:=qI e;have h2:=qI e';unfold bB at*;omega
 unfold XE;by_cases hz: -8388608<=az e-az e'/\az e-az e'<8388608
 ·rw [e1,tG hz,pL hz]
 ·have b1:=A9 e;have k:az (e-e')=az e-az e'-16777216\/az (e-e')=az e-az e'+16777216:=by
   unfold az at*;omega
  unfold Xh;rw [if_neg (by omega),if_neg (by omega)]
theorem Hr (n:Nat) (hn:n<=900) (e:Int):XE (n+1+1) e=XE (n+1) (e-bB (-1) (-1))-XE (n+1) (e-bB 1 (-1)):=by
 rw [UM (by omega) (by rw [pL (by omega)];omega),UM (by omega) (by rw [pL (by omega)];omega)];rw [tG (by omega),pL (by omega),tG (by omega),pL (by omega)];unfold XE;rw [Hm];unfold Dl;rw [show aN e- -1=aN e+1 by omega,show az e- -1=az e+1 by omega]
section
variable {s m:List Int} {l:Nat}
theorem lS (v:jP s m l):c7 (ng s m l) (4*s.length+l+1):=fun e he=>by
 have:=KO v he
 omega
theorem nV (v:jP s m l) (h:3*s.length+l<=50):kW (ng s m l):=fun e=>by
 have h1:=MH v (aN e) (az e);have h2:(2:Int)^(3*s.length+l)<=2^50:=by
  have:=Nat.pow_le_pow_right (n:=2) (by omega) h
  exact_mod_cast this
 have h3:(2:Int)^50=1125899906842624:=by decide
 unfold ng;omega
theorem rF (hv:bI s m l=true) (hb:mN s m=none) (e:Int):ng s m l e=XE (l+(dt s m).length) e:=by
 unfold ng XE;rw [ZO hv hb];rfl
theorem rE {c l':Nat} (hv:bI s m l=true) (hc:c<s.length) (ox:gP s m c l=l') (gN:bI (de s c) (en s m c) l'=true) (hw:bI (jR s c) (jc s m c) l=true) (hn:s.length+l<=300) (yw:(de s c).length+l'<=1000) (jB:(jR s c).length=s.length) (e:Int):
  ng s m l e=ng (jR s c) (jc s m c) l (e-bB (2*s.getD c 0) 0)+s.getD c 0*ng (de s c) (en s m c) l' (e-bB (s.getD c 0) 1):=by
 have hs:=(dr hv).sg c hc;rw [QO (dr hw) (by omega) (by rw [pL (by omega)];omega),QO (dr gN) yw (by rw [pL (by omega)];omega)];rw [tG (by omega),pL (by omega),tG (by omega),pL (by omega)];unfold ng;rw [ZP hv hc (by rw [ox];exact gN),ox,Int.sub_zero]
end
end Hs
open Go Go.RowKit
set_option maxRecDepth 100000
set_option maxHeartbeats 8000000
theorem UL {e c:Int} (hc:c≠0):dL [(e,c)] (cfL [(e,c)]):=⟨⟨by simp,fun t ht=>by simp only [List.mem_singleton] at ht;subst ht;exact hc⟩,fun _=>rfl⟩
def u6:Int:=bB (-1) (-1)
def xl:Int:=bB 1 (-1)
abbrev pB:List (Int×Int):=[(u6,1),(xl,-1)]
theorem QN:dL pB (cfL pB):=⟨⟨by decide,by decide⟩,fun _=>rfl⟩
theorem RV {e c:Int}: ∀x,cfL [(e,c)] x≠0->x=e:=fun x h=>by
 simp only [cfL,Int.add_zero] at h;by_cases he:e=x
 ·exact he.symm
 ·rw [if_neg he] at h;exact absurd rfl h
theorem y4s:c7 (cfL pB) 1:=fun e he=>by
 simp only [cfL,Int.add_zero] at he;by_cases h1:u6=e
 ·subst h1;decide
 ·rw [if_neg h1] at he;by_cases h2:xl=e
  ·subst h2;decide
  ·rw [if_neg h2] at he;exact absurd rfl he
theorem y4t (e:Int): -1<=cfL pB e/\cfL pB e<=1:=by
 simp only [cfL,Int.add_zero];by_cases h1:u6=e
 ·rw [if_pos h1,if_neg (by rw [←h1];decide)];omega
 ·rw [if_neg h1];split<;>omega
theorem y1o:Fn Tryz.prog 43 [jo false [(u6,1)],jo false [(xl,1)]] (jo false pB):=by
 refine Qh (N:=1) (UL (by decide)) (UL (by decide)) (fun e he=>?_) (fun e he=>?_) (by decide) (fun e=>?_) (fun e=>?_) ⟨QN.asc,fun e=>?_⟩ (fun e=>?_)
 ·rw [RV e he];decide
 ·rw [RV e he];decide
 ·simp only [cfL];split<;>omega
 ·simp only [cfL];split<;>omega
 ·simp only [cfL];split<;>split<;>omega
 ·simp only [cfL];split<;>split<;>omega
theorem ZN {p:List (Int×Int)} {f:Int->Int} (hp:dL p f) (e:Int):cvL p (cfL pB) e=f (e-u6)-f (e-xl):=by
 rw [Qj,hp.cf,hp.cf];omega
theorem RU {k:Nat} (hk:k<=45) (e:Int): -35184372088832<=Hs.XE k e/\Hs.XE k e<=35184372088832:=by
 have h1:=Hs.Cz k e;have h2:((2^k:Nat):Int)<=((2^45:Nat):Int):=Int.ofNat_le.2 (Nat.pow_le_pow_right (by decide) hk);rw [Int.natCast_pow,Int.natCast_pow] at h2;have h3:((2:Nat):Int)^45=35184372088832:=by decide
 rw [h3] at h2;have h4:((2:Nat):Int)^k=2^k:=rfl;rw [h4] at h2;generalize (2:Int)^k=y at*;omega
theorem UK: ∀n:Nat,Hs.dN n (-(n:Int))=1
 |0=>rfl
 |n+1=>by
  unfold Hs.dN;have h1:=UK n;have h2:Hs.dN n (-((n+1:Nat):Int)-1)=0:=Classical.byContradiction fun h=>by
   have:=Hs.oP n _ h
   omega
  rw [h2,show-((n+1:Nat):Int)+1= -(n:Int) by omega,h1];rfl
theorem Hq {n:Nat} (hn:n<=900) {q:List (Int×Int)} (hq:dL q (Hs.XE (n+1))):q≠[]:=fun h=>by
 have h1:=hq.cf (bB (-(n:Int)) (-(n:Int)));rw [h] at h1;unfold Hs.XE Hs.Xh at h1;rw [tG (by omega),pL (by omega),if_pos (by omega),Nat.add_sub_cancel,Int.sub_zero,UK] at h1;simp [cfL] at h1
theorem XN (k:Nat) (hk:1<=k/\k<=45) {p:List (Int×Int)} (hp:dL p (Hs.XE k)):Fn Tryz.prog 45 [I k] (jo false p):=by
 have t1:=LM 1 (-1) (-1) (by decide) (by decide) (by decide) (by decide);have t2:=LM 1 1 (-1) (by decide) (by decide) (by decide) (by decide);have t3:=LM 1 0 0 (by decide) (by decide) (by decide) (by decide);have hF:=y1o;rw [show bB (-1) (-1)=u6 from rfl] at t1;rw [show bB 1 (-1)=xl from rfl] at t2;rw [show bB 0 0=0 from rfl] at t3
 refine Fn.aH [.cell 2 29] Tryz.func45 rfl rfl (by decide) (by simp [Tryz.ntmps45]) ?_;rw [Tryz.ntmps45]
 repeat' (first|omega|(try apply ah);simp only [go_sem,sevalprocAttr,dq]|(refine ⟨aO.fn (r:=?_) rfl ?_ ?_⟩;rotate_left;assumption)|(refine ⟨c8.fn (r:=?_) rfl ?_ ?_⟩;rotate_left;assumption)|apply ag<;>(intro h_;(try simp only [h_]);revert h_)|apply And.intro|with_reducible intro h_|trivial|simp only [go_sem,ai];omega)
 refine dn.intro (fun n fr H=> ∃(i:Nat) (q:List (Int×Int)),i+1<=k/\n=k-i/\dL q (Hs.XE (i+1))/\fr=[(11,I i),(10,I ((k:Int)-1)),(4, .ptr 2 0),(3, .ptr 1 0),(2, .ptr 0 0)]/\H=[(2, .cells 29 (.lst [.bool false,mu q])),(1, .cells 29 (.lst [.bool false,mu pB])),(0,u5)]) ?_ ?_
 ·refine ⟨_,_,_,Wk.sub ?_ ?_,0,[(0,1)],by omega,rfl,Hs.Ht,rfl,rfl⟩
  ·simp only [go_sem,sevalprocAttr,dq]
  ·simp only [go_sem,sevalprocAttr,dq]
 rintro n fr H ⟨i,q,hi,rfl,hq,rfl,rfl⟩;by_cases pb:i+1<k
 ·have bi:decide ((i:Int)<(k:Int)-1)=true:=by simp;omega
  have e2: ∀e,cvL q (cfL pB) e=Hs.XE (i+1+1) e:=fun e=>by rw [ZN hq,Hs.Hr i (by omega)];rfl
  obtain ⟨q',vI⟩:=EM (Hs.tn (i+1+1)) (by omega)
  have hM:=ZQ (p:=q) (q:=pB) (r:=q') (N:=50) (A:=35184372088832) (B:=1) hq QN (Hq (by omega) hq) (by decide) ((Hs.tn (i+1)).mono (by omega)) (y4s.mono (by decide)) (by decide) (RU (by omega)) y4t (by decide) (by decide) (by decide) (vI.congr fun e=>(e2 e).symm) (fun e=>by dsimp only;rw [e2];have:=RU (k:=i+1+1) (by omega) e;omega) (fun e he=>by dsimp only at he;rw [e2] at he;have:=Hs.tn (i+1+1) e he;omega)
  repeat' (first|omega|(try apply ah);simp only [go_sem,sevalprocAttr,bi,dq]|(refine ⟨aO.fn (r:=?_) rfl ?_ ?_⟩;rotate_left;assumption)|(refine ⟨c8.fn (r:=?_) rfl ?_ ?_⟩;rotate_left;assumption)|apply ag<;>(intro h_;(try simp only [h_]);revert h_)|apply And.intro|with_reducible intro h_|trivial|simp only [go_sem,ai];omega)
  refine ⟨_,_,_,?_,Wk.sub ?_ ?_,i+1,q',by omega,rfl,vI,rfl,rfl⟩
  ·omega
  ·simp only [go_sem,sevalprocAttr,dq]
  ·simp only [go_sem,sevalprocAttr,dq]
 ·obtain rfl:k=i+1:=by omega
  have bi:decide ((i:Int)<((i+1:Nat):Int)-1)=false:=by simp
  obtain rfl:q=p:=hq.uniq hp
  repeat' (first|omega|(try apply ah);simp only [go_sem,sevalprocAttr,bi,dq]|apply ag<;>(intro h_;(try simp only [h_]);revert h_)|apply And.intro|with_reducible intro h_|trivial|simp only [go_sem,ai];omega)
  all_goals exact ca.refl _
end Go.Proofs.YtjpbeacamoijhaaGreatDoor
namespace Go.Proofs.YtjpbeacamoijhaaGreatDoor
open Sp
set_option linter.unusedSimpArgs false
set_option linter.unusedVariables false
structure rU (s m:List Int) (l:Nat):Prop where
 val:bI s m l=true
 len:3*s.length+l<=36
 n14:s.length<=9
 pos:0<s.length\/0<l
theorem QM {motive:List Int->List Int->Nat->Prop} (desc: ∀s m l,rU s m l->mN s m=none->motive s m l)
  (step: ∀(s m:List Int) (l c l':Nat),rU s m l->mN s m=some (c:Int)->c<s.length->(s.getD c 0=1\/s.getD c 0= -1)->gP s m c l=l'->rU (jR s c) (jc s m c) l->(jR s c).length=s.length->rU (de s c) (en s m c) l'->(de s c).length+1=s.length->motive (jR s c) (jc s m c) l->motive (de s c) (en s m c) l'->motive s m l):
  ∀s m l,rU s m l->motive s m l:=by
 have key: ∀(f:Nat) (s m:List Int) (l:Nat),rU s m l->s.length*s.length+bc s m+1<=f->motive s m l:=by
  intro f
  induction f with
  |zero=>intro s m l _ h;omega
  |succ f ih=>
   intro s m l h hf;have v:=dr h.val;have GH:=Ud v;have hn:=h.n14;have hl:=h.len;cases hb:mN s m with
   |none=>exact desc s m l h hb
   |some c=>
    have WC:=R7 v.dB hb;obtain ⟨c,rfl⟩: ∃d:Nat,c=d:=⟨c.toNat,by omega⟩;have hc:c<s.length:=by omega
    have tZ:=Qy (m:=m) (b:=(s.getD c 0== -1)) (c:=c) (n:=s.length);have AG:gP s m c l=l+nt m (s.getD c 0== -1) c s.length:=rfl;obtain ⟨v2,l2⟩:=YL h.val hc (by omega);have v1:=iH h.val hc;have oI:=He h.val hc hb;have s9:=Ud (dr v2);obtain ⟨d,hd⟩: ∃d,s.length=d+1:=⟨s.length-1,by omega⟩;have hsq:s.length*s.length=d*d+2*d+1:=by rw [hd,Nat.add_mul,Nat.mul_add];omega
    obtain ⟨l',ox⟩: ∃l':Nat,gP s m c l=l':=⟨(gP s m c l).toNat,by omega⟩;have h1:rU (jR s c) (jc s m c) l:=⟨v1,by rw [dA];omega,by rw [dA];omega,by rw [dA];exact h.pos⟩;have h2:rU (de s c) (en s m c) l':=⟨by rw [←ox];exact v2,by rw [l2];omega,by rw [l2];omega,by
     rw [l2];by_cases h1:0<s.length-1
     ·exact .inl h1
     ·have nU:s.length=1:=by omega
      obtain rfl:c=0:=by omega
      have:=ZZ (m:=m) (b:=(s.getD 0 0== -1))
      rw [nU] at AG;right;omega⟩
    exact step s m l c l' h hb hc (v.sg c hc) ox h1 (dA ..) h2 (by rw [l2];omega) (ih _ _ _ h1 (by rw [dA];omega)) (ih _ _ _ h2 (by rw [l2,hd,Nat.add_sub_cancel];rw [l2] at s9;omega))
 exact fun s m l h=>key _ s m l h (Nat.le_refl _)
end Go.Proofs.YtjpbeacamoijhaaGreatDoor
set_option linter.unusedSimpArgs false
set_option linter.unusedVariables false
namespace Go.Proofs.YtjpbeacamoijhaaGreatDoor
open Go Go.RowKit
set_option maxRecDepth 100000
theorem Lz (h b:Int) (h0:0<=h) (h1:h<=100000):Fn Tryz.prog 110 [I h,I b] (I (cd h b)):=y7j h b h0 h1
theorem YN (s m:List Int) (L:Int) (hs:s.length<=1000) (hm:pf m s.length):Fn Tryz.prog 93 [dgA s m L] (.bool (qg m s.length)):=by
 obtain ⟨p1,p2,p3,p4⟩:=Ml hm;have iX:=hm.1;refine Fn.intro [.tmp 2] Tryz.func93 rfl rfl (by decide) (by simp [Tryz.ntmps93]) ?_;rw [Tryz.ntmps93]
 repeat' (first|omega|(try apply ah);simp only [go_sem,sevalprocAttr]|apply ag<;>(intro h_;(try simp only [h_]);revert h_)|apply And.intro|with_reducible intro h_|trivial|simp only [go_sem,ai];omega)
 refine ⟨aO.fn rfl (y36 s m L hs hm) ?_⟩
 repeat' (first|omega|(try apply ah);simp only [go_sem,sevalprocAttr]|apply ag<;>(intro h_;(try simp only [h_]);revert h_)|apply And.intro|with_reducible intro h_|trivial|simp only [go_sem,ai];omega)
 generalize zh:(ja m s.length).1=part at*;generalize DH:(ja m s.length).2=np at*;refine dn.intro (fun n fr H=> ∃k:Nat,k<=part.length/\n=part.length-k/\fr=[(22,I k),(21,I part.length),(20,roI part),(5, .sl 1 1 0 np.toNat),(3,roI part),(1, .ptr 0 0)]/\H=[(1, .cells 3 (.ints (j6 part np.toNat k))),(0, .cells 24 (.lst [roI s,roI m,I L]))]) ?_ ?_
 ·refine ⟨_,_,_,?_,0,by omega,rfl,rfl,rfl⟩;refine Wk.sub ?_ ?_<;>simp only [go_sem,sevalprocAttr];simp [j6]
 rintro n fr H ⟨k,hk,rfl,rfl,rfl⟩;obtain ⟨d1,d2⟩:=IC part np.toNat k;by_cases cT:k<part.length
 ·have q4:=p4 k (by omega);have d3:=d2 (part.getD k 0).toNat
  repeat' (first|omega|(try apply ah);simp only [go_sem,sevalprocAttr]|apply ag<;>(intro h_;(try simp only [h_]);revert h_)|apply And.intro|with_reducible intro h_|trivial|simp only [go_sem,ai];omega)
  refine ⟨_,_,_,?_,?_,⟨k+1,by omega,rfl,rfl,rfl⟩⟩
  ·omega
  ·refine Wk.sub ?_ ?_<;>simp only [go_sem,sevalprocAttr];rfl
 obtain rfl:k=part.length:=by omega
 repeat' (first|omega|(try apply ah);simp only [go_sem,sevalprocAttr]|apply ag<;>(intro h_;(try simp only [h_]);revert h_)|apply And.intro|with_reducible intro h_|trivial|simp only [go_sem,ai];omega)
 refine dn.intro (fun n fr H=> ∃h:Nat,h<=m.length/\n=m.length-h/\fr=[(40,I h),(39,I m.length),(8, .sl 1 2 0 m.length),(5, .sl 1 1 0 np.toNat),(3,roI part),(1, .ptr 0 0)]/\H=[(2, .cells 4 (.bools (bR m part np.toNat h).2)),(1, .cells 3 (.ints (bR m part np.toNat h).1)),(0, .cells 24 (.lst [roI s,roI m,I L]))]) ?_ ?_
 ·refine ⟨_,_,_,?_,0,by omega,rfl,rfl,rfl⟩;refine Wk.sub ?_ ?_<;>simp only [go_sem,sevalprocAttr]
  all_goals simp [bR]
 rintro n fr H ⟨h,hh,rfl,rfl,rfl⟩;obtain ⟨e1,e2,e3⟩:=Dh m part np.toNat h;by_cases Ws:h<m.length
 ·have q4:=p4 (h/4) (by omega);have e4:=e3 (part.getD (h/4) 0).toNat;have e5:(h:Int).tdiv 4=(h/4:Nat):=by rw [tN (by omega)];omega
  have e6:((h:Int).toNat)=h:=by omega
  repeat' (first|omega|(try apply ah);simp only [go_sem,sevalprocAttr,e5]|apply ag<;>(intro h_;(try simp only [h_]);revert h_)|apply And.intro|with_reducible intro h_|trivial|simp only [go_sem,ai];omega)
  ·have eS:bR m part np.toNat (h+1)=bR m part np.toNat h:=by
    simp only [bR,wa];rw [if_pos (by assumption)]
   refine ⟨_,_,_,?_,?_,⟨h+1,by omega,rfl,rfl,rfl⟩⟩
   ·omega
   ·refine Wk.sub ?_ ?_<;>(rw [eS];simp only [go_sem,sevalprocAttr])
  ·have hf:(bR m part np.toNat h).2.getD h false=false:=by assumption
   have eS:bR m part np.toNat (h+1)=((bR m part np.toNat h).1.set (part.getD (h/4) 0).toNat ((bR m part np.toNat h).1.getD (part.getD (h/4) 0).toNat 0+1),mark m (m.length+1) (bR m part np.toNat h).2 h):=by
    simp only [bR,wa];rw [if_neg (Nf hf)]
   have hu:=Zn (bR m part np.toNat h).2;generalize (bR m part np.toNat h).2=lD at*;generalize (bR m part np.toNat h).1.set (part.getD (h/4) 0).toNat ((bR m part np.toNat h).1.getD (part.getD (h/4) 0).toNat 0+1)=exc at*
   refine dn.intro (fun f fr H=> ∃(seen:List Bool) (g:Int),uD seen<f/\seen.length=m.length/\0<=g/\g<4*s.length/\mark m f seen g=mark m (m.length+1) lD h/\
    fr=[(10,I g),(40,I h),(39,I m.length),(8, .sl 1 2 0 m.length),(5, .sl 1 1 0 np.toNat),(3,roI part),(1, .ptr 0 0)]/\H=[(2, .cells 4 (.bools seen)),(1, .cells 3 (.ints exc)),(0, .cells 24 (.lst [roI s,roI m,I L]))]) ?_ ?_
   ·refine ⟨m.length+1,_,_,?_,lD,h,by omega,e2,by omega,by omega,rfl,rfl,rfl⟩;refine Wk.sub ?_ ?_<;>simp only [go_sem,sevalprocAttr]
   rintro f fr H ⟨seen,g,Wx,Ox,hg0,AM,vL,rfl,rfl⟩;obtain ⟨f',rfl⟩: ∃f',f=f'+1:=⟨f-1,by omega⟩;have p6:=hm.2 g.toNat (by omega)
   repeat' (first|omega|(try apply ah);simp only [go_sem,sevalprocAttr]|apply ag<;>(intro h_;(try simp only [h_]);revert h_)|apply And.intro|with_reducible intro h_|trivial|simp only [go_sem,ai];omega)
   ·refine ⟨aO.fn rfl (Lz _ _ p6.1 (by omega)) ?_⟩
    repeat' (first|omega|(try apply ah);simp only [go_sem,sevalprocAttr]|apply ag<;>(intro h_;(try simp only [h_]);revert h_)|apply And.intro|with_reducible intro h_|trivial|simp only [go_sem,ai];omega)
    have mC:seen.getD g.toNat false=false:=by assumption
    have hus:=Q4 (l:=seen) (i:=g.toNat) (by omega) mC;have BM:=EN (b:= -1) p6.1 p6.2;refine ⟨f',_,_,?_,?_,⟨seen.set g.toNat true,cd (m.getD g.toNat 0) (-1),by omega,by simp [Ox],BM.1,BM.2,?_,rfl,rfl⟩⟩
    ·omega
    ·refine Wk.sub ?_ ?_<;>simp only [go_sem,sevalprocAttr]
    ·rw [←vL];simp only [mark];rw [if_neg (Nf mC)]
   ·have mC:seen.getD g.toNat false=true:=by assumption
    have N9:seen=mark m (m.length+1) lD h:=by rw [←vL];simp only [mark];rw [if_pos mC]
    refine ⟨_,_,_,?_,?_,⟨h+1,by omega,rfl,rfl,rfl⟩⟩
    ·omega
    ·refine Wk.sub ?_ ?_<;>(rw [eS];simp only [go_sem,sevalprocAttr]);exact N9
 obtain rfl:h=m.length:=by omega
 repeat' (first|omega|(try apply ah);simp only [go_sem,sevalprocAttr]|apply ag<;>(intro h_;(try simp only [h_]);revert h_)|apply And.intro|with_reducible intro h_|trivial|simp only [go_sem,ai];omega)
 refine dn.intro (fun n fr H=> ∃k:Nat,k<=np.toNat/\n=np.toNat-k/\(∀i,i<k->(bR m part np.toNat m.length).1.getD i 0=2)/\fr=[(75,I k),(74,I np.toNat),(73, .sl 1 1 0 np.toNat)]/\H=[(1, .cells 3 (.ints (bR m part np.toNat m.length).1))]) ?_ ?_
 ·refine ⟨_,_,_,?_,0,by omega,rfl,by omega,rfl,rfl⟩;refine Wk.sub ?_ ?_<;>simp only [go_sem,sevalprocAttr]
 rintro n fr H ⟨k,hk,rfl,cg,rfl,rfl⟩
 repeat' (first|omega|(try apply ah);simp only [go_sem,sevalprocAttr]|apply ag<;>(intro h_;(try simp only [h_]);revert h_)|apply And.intro|with_reducible intro h_|trivial|simp only [go_sem,ai];omega)
 ·unfold qg;rw [zh,DH];exact (Yj (k:=k) (by rw [(Dh m part np.toNat m.length).1];omega) (by assumption)).symm
 ·refine ⟨_,_,_,?_,?_,⟨k+1,by omega,rfl,fun i hi=>?_,rfl,rfl⟩⟩
  ·omega
  ·refine Wk.sub ?_ ?_<;>simp only [go_sem,sevalprocAttr]
  ·rcases Nat.lt_or_ge i k with g|g
   ·exact cg i g
   ·rw [show i=k by omega];assumption
 ·unfold qg;rw [zh,DH];exact (Xt (fun i hi=>cg i (by rw [(Dh m part np.toNat m.length).1] at hi;omega))).symm
end Go.Proofs.YtjpbeacamoijhaaGreatDoor
