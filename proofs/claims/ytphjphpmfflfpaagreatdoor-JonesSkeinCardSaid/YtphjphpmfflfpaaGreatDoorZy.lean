/- Plain: mirror images, reversal and renumbering: validity, and what becomes of the bracket. -/
import Derived.Test.YtphjphpmfflfpaaGreatDoorZx
import Derived.Test.YtphjphpmfflfpaaGreatDoorZr
import Derived.Test.YtphjphpmfflfpaaGreatDoorZw
import Derived.Test.YtphjphpmfflfpaaGreatDoorZb
import Derived.Test.YtphjphpmfflfpaaGreatDoorZc
namespace Go.Proofs.YtphjphpmfflfpaaGreatDoor
set_option linter.unusedSimpArgs false
set_option linter.unusedVariables false
section
variable {m m':List Int} {n L:Nat}
end
def mN (k:Nat->Nat) (x:Nat):Nat:=x-x % 4+(x % 4+k (x/4))% 4
theorem RB (b:Bool) (c:Nat):aB b ((4*c:Nat):Int)=((if b then 4*c+3 else 4*c+1:Nat):Int)/\aB b ((4*c+1:Nat):Int)=((if b then 4*c+2 else 4*c:Nat):Int)/\aB b ((4*c+2:Nat):Int)=((if b then 4*c+1 else 4*c+3:Nat):Int)/\
  aB b ((4*c+3:Nat):Int)=((if b then 4*c else 4*c+2:Nat):Int):=by
 obtain ⟨a0,a1,a2,a3,b0,b1,b2,b3⟩:=zM c;cases b
 ·exact ⟨b0,b1,b2,b3⟩
 ·exact ⟨a0,a1,a2,a3⟩
theorem four (x:Nat):x=4*(x/4)\/x=4*(x/4)+1\/x=4*(x/4)+2\/x=4*(x/4)+3:=by omega
theorem Bj {k:Nat->Nat} (c:Nat) (h:k c=1\/k c=2\/k c=3):(k c=1->mN k (4*c)=4*c+1/\mN k (4*c+1)=4*c+2/\mN k (4*c+2)=4*c+3/\mN k (4*c+3)=4*c)/\
  (k c=2->mN k (4*c)=4*c+2/\mN k (4*c+1)=4*c+3/\mN k (4*c+2)=4*c/\mN k (4*c+3)=4*c+1)/\
  (k c=3->mN k (4*c)=4*c+3/\mN k (4*c+1)=4*c/\mN k (4*c+2)=4*c+1/\mN k (4*c+3)=4*c+2):=by
 have d0:4*c/4=c:=by omega
 have d1:(4*c+1)/4=c:=by omega
 have d2:(4*c+2)/4=c:=by omega
 have d3:(4*c+3)/4=c:=by omega
 unfold mN;rw [d0,d1,d2,d3];omega
theorem JT {k:Nat->Nat} (hk: ∀c,k c=1\/k c=3) (b:Bool) (x:Nat):aB (!b) (mN k x:Nat)=(mN k (aB b x).toNat:Int):=by
 obtain ⟨c,hc⟩: ∃c,x/4=c:=⟨_,rfl⟩;have hx:=four x;rw [hc] at hx;obtain ⟨j0,j1,j2,j3⟩:=RB b c;obtain ⟨i0,i1,i2,i3⟩:=RB (!b) c;have R:=Bj (k:=k) c (by rcases hk c with h|h<;>simp [h]);rcases hk c with h|h
 ·obtain ⟨r0,r1,r2,r3⟩:=R.1 h;rcases hx with rfl|rfl|rfl|rfl
  ·rw [r0,i1,j0,Int.toNat_natCast];cases b<;>simp [r1,r3]
  ·rw [r1,i2,j1,Int.toNat_natCast];cases b<;>simp [r0,r2]
  ·rw [r2,i3,j2,Int.toNat_natCast];cases b<;>simp [r1,r3]
  ·rw [r3,i0,j3,Int.toNat_natCast];cases b<;>simp [r0,r2]
 ·obtain ⟨r0,r1,r2,r3⟩:=R.2.2 h;rcases hx with rfl|rfl|rfl|rfl
  ·rw [r0,i3,j0,Int.toNat_natCast];cases b<;>simp [r1,r3]
  ·rw [r1,i0,j1,Int.toNat_natCast];cases b<;>simp [r0,r2]
  ·rw [r2,i1,j2,Int.toNat_natCast];cases b<;>simp [r1,r3]
  ·rw [r3,i2,j3,Int.toNat_natCast];cases b<;>simp [r0,r2]
section
variable {s m:List Int} {L:Int}
end
theorem Ef {c t k3 k1:Nat} (ht:t<2) (h:k1<2^c) (i:Nat):da (2^c*(2*k3+t)+k1) i=if i<c then da k1 i else if i=c then t==1 else da k3 (i-c-1):=by
 by_cases h1:i<c
 ·rw [if_pos h1,GL h1]
 ·rw [if_neg h1];obtain ⟨j,rfl⟩: ∃j,i=c+j:=⟨i-c,by omega⟩;rw [DL h];cases j with
  |zero=>
   rw [if_pos (Nat.add_zero c)];unfold da;rw [Nat.pow_zero,Nat.div_one,Nat.mul_add_mod,Nat.mod_eq_of_lt ht]
  |succ j=>
   rw [if_neg (by omega),show c+(j+1)-c-1=j by omega,Nat.add_comm j 1]
   have:=DL (k1:=t) (k2:=k3) (i:=1) (c:=j) (by omega)
   rwa [Nat.pow_one] at this
theorem JS {c k3 k1:Nat} (h:k1<2^c) (i:Nat):da (2^c*k3+k1) i=if i<c then da k1 i else da k3 (i-c):=by
 by_cases h1:i<c
 ·rw [if_pos h1,GL h1]
 ·rw [if_neg h1];obtain ⟨j,rfl⟩: ∃j,i=c+j:=⟨i-c,by omega⟩;rw [DL h,Nat.add_sub_cancel_left]
theorem JR {c t k3 k1:Nat} (ht:t<2) (h:k1<2^c):yU (da (2^c*(2*k3+t)+k1)) c=da (2^c*k3+k1):=by
 funext i;unfold yU;rw [Ef ht h,JS h];by_cases h1:i<c
 ·rw [if_pos h1,if_pos h1,if_pos h1]
 ·rw [if_neg h1,if_neg (by omega),if_neg (by omega),if_neg h1,show i+1-c-1=i-c by omega]
theorem JQ {c t k3 k1 r:Nat} (ht:t<2) (h:k1<2^c):gR (2^c*(2*k3+t)+k1) (c+r+1)=gR (2^c*k3+k1) (c+r)+t:=by
 have h1:=Hy (k1:=k1) (k2:=2*k3+t) (n1:=c) (n2:=1+r) h;have h2:=Hy (k1:=k1) (k2:=k3) (n1:=c) (n2:=r) h;have h3:=Hy (k1:=t) (k2:=k3) (n1:=1) (n2:=r) (by omega);rw [Nat.pow_one] at h3;have h4:gR t 1=t:=by
  rcases (show t=0\/t=1 by omega) with rfl|rfl<;>decide
 rw [show c+r+1=c+(1+r) by omega];omega
theorem IQ (f:Nat->Int) (c r:Nat):sm f (2^(c+r+1))=sm (fun k3=>sm (fun k1=>f (2^c*(2*k3+0)+k1)) (2^c)) (2^r)+sm (fun k3=>sm (fun k1=>f (2^c*(2*k3+1)+k1)) (2^c)) (2^r):=by
 rw [show 2^(c+r+1)=2^c*(2*2^r) by rw [Nat.pow_succ,Nat.pow_add,Nat.mul_assoc,Nat.mul_comm (2^r)],DS,DS,←qp];refine iQ fun k3 _=>?_;simp only [sm];omega
def tb (m:List Int) (c r L t:Nat) (e:Int):Int:=
 sm (fun k3=>sm (fun k1=>if 1<=cN m (c+r+1) L (2^c*(2*k3+t)+k1) then dpw (cN m (c+r+1) L (2^c*(2*k3+t)+k1)-1) (e-wB (c+r) (2^c*k3+k1)) else 0) (2^c)) (2^r)
theorem ED (m:List Int) (c r L:Nat) (e:Int):bA m (c+r+1) L 1 e=tb m c r L 0 (e-1)+tb m c r L 1 (e+1):=by
 unfold bA oU;rw [IQ];unfold tb;have key: ∀t,t<2-> ∀k3 k1,k1<2^c->wB (c+r+1) (2^c*(2*k3+t)+k1)=wB (c+r) (2^c*k3+k1)+1-2*t:=fun t ht k3 k1 h=>by
  unfold wB;rw [JQ ht h];omega
 congr 1
 ·refine iQ fun k3 _=>iQ fun k1 h1=>?_;rw [key 0 (by omega) k3 k1 h1,show e-(wB (c+r) (2^c*k3+k1)+1-2*((0:Nat):Int))=e-1-wB (c+r) (2^c*k3+k1) by omega]
 ·refine iQ fun k3 _=>iQ fun k1 h1=>?_;rw [key 1 (by omega) k3 k1 h1,show e-(wB (c+r) (2^c*k3+k1)+1-2*((1:Nat):Int))=e+1-wB (c+r) (2^c*k3+k1) by omega]
section
variable {s m:List Int} {Lz:Int} {c:Nat}
theorem IP (hv:dm s m Lz=true) (hc:c<s.length):Rel s.length (Sp.tw (Sp.kT s c) c) (Sp.tw (4-Sp.kT s c) c) m (ka s m c):=by
 have v:=jC hv;refine ⟨fun x hx=>Sp.iI hx,fun x hx=>Sp.iI hx,fun x _=>(Sp.dO Sp.iL).1,fun x _=>(Sp.dO Sp.iL).2,by rw [Sp.oJ];exact v.len,fun x hx=>?_⟩;rw [Sp.oK v hc hx];rfl
theorem IM (hv:dm s m Lz=true) (hc:c<s.length) (ch:Nat->Bool):bF (ka s m c) s.length (fun i=>if i=c then !ch i else ch i)=bF m s.length ch:=by
 have hp:=fA hv;refine JU (IP hv hc) hp fun x hx=>?_;have hd:=Sp.lk (Sp.kT s c) c x;rw [hd];by_cases h:x/4=c
 ·rw [if_pos h];have hj:=jD (ch (x/4)) x;have hn:=Rg (ch (x/4)) (h:=(x:Int)) (by omega);have e1: ∀y:Nat,y/4=c->Sp.tw (Sp.kT s c) c y=mN (fun _=>Sp.kT s c) y:=fun y hy=>by unfold Sp.tw mN;rw [if_pos hy]
  rw [e1 x h,e1 _ (by omega)];exact JT (fun _=>Sp.iL) _ x
 ·rw [if_neg h,Sp.dN h];have hj:=jD (ch (x/4)) x;have hn:=Rg (ch (x/4)) (h:=(x:Int)) (by omega);rw [Sp.dN (by omega)];omega
theorem WN (hv:dm s m Lz=true) {r:Nat} (hn:s.length=c+r+1) (L:Nat) {t:Nat} (ht:t<2) (e:Int):tb (ka s m c) c r L t e=tb m c r L (1-t) e:=by
 unfold tb;refine iQ fun k3 _=>iQ fun k1 h1=>?_;have h2:=IM hv (show c<s.length by omega) (da (2^c*(2*k3+(1-t))+k1));have h3:cN (ka s m c) (c+r+1) L (2^c*(2*k3+t)+k1)=cN m (c+r+1) L (2^c*(2*k3+(1-t))+k1):=by
  unfold cN;rw [hn] at h2;rw [←h2];congr 1;unfold bF;congr 1;refine AK fun i _=>?_;rw [Ef ht h1,Ef (by omega) h1];by_cases a:i<c
  ·rw [if_pos a,if_neg (by omega),if_pos a]
  ·rw [if_neg a];by_cases a2:i=c
   ·rw [if_pos a2,if_pos a2,if_neg a,if_pos a2];rcases (show t=0\/t=1 by omega) with rfl|rfl<;>rfl
   ·rw [if_neg a2,if_neg a2,if_neg a,if_neg a2]
 rw [h3]
theorem WM {m:List Int} {c r:Nat} (hp:bd m (c+r+1)) (b:Bool) (df:bd (bO (cV m b c (4*(c+r+1))) c (c+r+1)) (c+r)) (L L':Nat) (hL:(L':Int)=L+jl m b c (c+r+1)) (e:Int):
  tb m c r L (if b then 1 else 0) e=bA (bO (cV m b c (4*(c+r+1))) c (c+r+1)) (c+r) L' 1 e:=by
 unfold tb bA oU;rw [show 2^(c+r)=2^c*2^r from Nat.pow_add _ _ _,DS];refine iQ fun k3 _=>iQ fun k1 h1=>?_;have ht:(if b then 1 else 0)<2:=by split<;>omega
 have hb:da (2^c*(2*k3+(if b then 1 else 0))+k1) c=b:=by
  rw [Ef ht h1,if_neg (by omega),if_pos rfl];cases b<;>rfl
 have h2:=IU hp (show c<c+r+1 by omega) (da (2^c*(2*k3+(if b then 1 else 0))+k1)) (by rw [hb];exact df);rw [hb,JR ht h1,show c+r+1-1=c+r by omega] at h2;have h3:cN m (c+r+1) L (2^c*(2*k3+(if b then 1 else 0))+k1)=cN (bO (cV m b c (4*(c+r+1))) c (c+r+1)) (c+r) L' (2^c*k3+k1):=by
  unfold cN;omega
 rw [h3]
theorem Vk (hv:dm s m Lz=true) (hc:c<s.length) {L L':Nat} (hl:Lz=L) (tu:lu s m c Lz=L') (uO:L'<=64):
  ∃Q:Int->Int,(s.getD c 0=1-> ∀e,bA m s.length L 1 e=bA (nE s m c) (s.length-1) L' 1 (e-1)+Q (e+1)/\bA (ka s m c) s.length L 1 e=Q (e-1)+bA (nE s m c) (s.length-1) L' 1 (e+1))/\
   (s.getD c 0= -1-> ∀e,bA (ka s m c) s.length L 1 e=bA (nE s m c) (s.length-1) L' 1 (e-1)+Q (e+1)/\bA m s.length L 1 e=Q (e-1)+bA (nE s m c) (s.length-1) L' 1 (e+1)):=by
 obtain ⟨lE,dq⟩:=Sp.gB hv hc (by omega);have hp:=fA hv;have df:=fA lE;obtain ⟨r,hn⟩: ∃r,s.length=c+r+1:=⟨s.length-c-1,by omega⟩;have Yb:(L':Int)=L+jl m (s.getD c 0== -1) c (c+r+1):=by rw [←hn,←hl,←tu];rfl
 have hw:=fun t ht e=>WN hv hn L (t:=t) ht e;rw [dq] at df;unfold nE at df⊢;rw [hn] at hp df⊢;rw [show c+r+1-1=c+r by omega] at df⊢;have hs:=fun e=>WM hp (s.getD c 0== -1) df L L' Yb e;rcases (jC hv).sg c hc with h|h
 ·have hb:(s.getD c 0== -1)=false:=by rw [h];rfl
  rw [hb] at hs⊢;simp only [Bool.false_eq_true,if_false] at hs;refine ⟨tb m c r L 1,fun _ e=>?_,fun h'=>by omega⟩;rw [ED,ED,hw 0 (by omega),hw 1 (by omega),hs,←hs (e+1)];exact ⟨rfl,rfl⟩
 ·have hb:(s.getD c 0== -1)=true:=by rw [h];rfl
  rw [hb] at hs⊢;simp only [if_true] at hs;refine ⟨tb m c r L 0,fun h'=>by omega,fun _ e=>?_⟩;rw [ED,ED,hw 0 (by omega),hw 1 (by omega),←hs,←hs (e+1)];exact ⟨rfl,rfl⟩
end
open Go Go.RowKit
set_option maxRecDepth 100000
set_option maxHeartbeats 8000000
def tY (a b:Int):Int:=a-b
theorem JP (a b:Int) (h1: -1125899906842624<=a) (h2:a<=1125899906842624) (h3: -1125899906842624<=b) (h4:b<=1125899906842624):Fn Tryz.prog 111 [I a,I b] (I (tY a b)):=by
 unfold tY;refine Fn.intro [.tmp 4] Tryz.func111 rfl rfl (by decide) (by simp [Tryz.ntmps111]) ?_;rw [Tryz.ntmps111]
 repeat' (first|omega|(try apply aj);simp only [go_sem,sevalprocAttr]|apply ag<;>(intro h_;(try simp only [h_]);revert h_)|apply ah|apply ai|apply ae|apply And.intro|with_reducible intro h_|trivial|simp only [go_sem,ak];omega)
theorem JO (p q:List (Int×Int)) (hp:qi p) (hq:qi q) (jK:p.length<=500000) (xf:q.length<=500000) (ct:mD (mrg tY p q)=true):Fn Tryz.prog 49 [plA false p,plA false q] (plA false (nz (mrg tY p q))):=by
 have hc:=Iq p q 111 tY hp hq jK xf (fun a b h1 h2 h3 h4=>JP a b h1 h2 h3 h4);rw [if_pos ct] at hc;refine Fn.intro [.cell 4 29] Tryz.func49 rfl rfl (by decide) (by simp [Tryz.ntmps49]) ?_;rw [Tryz.ntmps49]
 repeat' (first|omega|(try apply aj);simp only [go_sem,sevalprocAttr]|apply ag<;>(intro h_;(try simp only [h_]);revert h_)|apply ah|apply ai|apply ae|apply And.intro|with_reducible intro h_|trivial|simp only [go_sem,ak];omega)
 refine ⟨az.fn rfl hc ?_⟩
 repeat' (first|omega|(try apply aj);simp only [go_sem,sevalprocAttr]|apply ag<;>(intro h_;(try simp only [h_]);revert h_)|apply ah|apply ai|apply ae|apply And.intro|with_reducible intro h_|trivial|simp only [go_sem,ak];omega)
theorem IL {p q:List (Int×Int)} {f g:Int->Int} (hp:bH p f) (hq:bH q g) (hs: ∀e,f e≠0-> -1000<=e/\e<=1000) (ht: ∀e,g e≠0-> -1000<=e/\e<=1000)
  (hf: ∀e,-562949953421312<=f e/\f e<=562949953421312) (hg: ∀e,-562949953421312<=g e/\g e<=562949953421312):
  ∃r,bH r (fun e=>f e-g e)/\Fn Tryz.prog 49 [plA false p,plA false q] (plA false r):=by
 have ha:=GP tY p q hp.asc.asc hq.asc.asc;have hc: ∀x,cfL (mrg tY p q) x=f x-g x:=fun x=>by rw [D4 tY rfl p q hp.asc.asc hq.asc.asc,hp.cf,hq.cf];rfl
 refine ⟨nz (mrg tY p q),⟨Gk ha,fun e=>by rw [Gl,hc]⟩,JO p q (hp.fits fun e=>by have:=hf e;omega) (hq.fits fun e=>by have:=hg e;omega) (by have:=hp.len hs;omega) (by have:=hq.len ht;omega) ?_⟩;unfold mD;rw [List.all_eq_true];intro t ht
 have:=Hn ha ht
 rw [hc] at this;have h1:=hf t.1;have h2:=hg t.1;exact Az (by omega) (by omega)
theorem JN:zJ Tryz.prog 45 [I (-2), .ro 1 5 (.ints [1,0,0,0,-1])] (plA false [(-2,1),(2,-1)]):=by
 have h:=zJ.XC (IY (-2) [1,0,0,0,-1] (by decide) (by decide) (by decide) (by decide)) (by decide) (fun x hx=>Ak hx);exact h
def tc (f:Int->Int) (e:Int):Int:=f (e+2)-f (e-2)
theorem Qw: ∀(p:List (Int×Int)) (e:Int),cvL p (cfL [(-2,1),(2,-1)]) e=tc (cfL p) e
 |[],e=>by simp [cvL,tc,cfL]
 |t::p,e=>by
  have ih:=Qw p e;unfold tc at ih⊢;simp only [cvL,cfL] at ih⊢;rw [ih];by_cases h1:t.1=e+2
  ·rw [if_pos (by omega),if_neg (by omega),if_pos h1,if_neg (by omega)];omega
  ·by_cases h2:t.1=e-2
   ·rw [if_neg (by omega),if_pos (by omega),if_neg h1,if_pos h2];omega
   ·rw [if_neg (by omega),if_neg (by omega),if_neg h1,if_neg h2];omega
theorem JM {p:List (Int×Int)} {f:Int->Int} (hp:bH p f) (hs: ∀e,f e≠0-> -1000<=e/\e<=1000) (hb: ∀e,-281474976710656<=f e/\f e<=281474976710656) (jq:0<p.length) (hd:fm p-aI p+4<=64+8*(p.length:Int)):
  ∃q,bH q (tc f)/\Fn Tryz.prog 16 [plA false p,plA false [(-2,1),(2,-1)]] (plA false q):=by
 have hq:bH [(-2,1),(2,-1)] (cfL [(-2,1),(2,-1)]):=⟨⟨by decide,by decide⟩,fun _=>rfl⟩;refine Em hp hq hs (fun e he=>?_) (fun e=>by have:=hb e;omega) (fun e=>?_) (h:=tc f) (fun e=>by rw [Qw,show cfL p=f from funext hp.cf]) (fun e=>?_) jq (by decide) ?_
 ·simp only [cfL] at he;by_cases h1:(-2:Int)=e
  ·omega
  ·rw [if_neg h1] at he;by_cases h2:(2:Int)=e
   ·omega
   ·rw [if_neg h2] at he;exact absurd rfl he
 ·simp only [cfL];split<;>split<;>omega
 ·have h1:=hb (e+2);have h2:=hb (e-2);unfold tc;omega
 ·have e1:fm [((-2:Int),(1:Int)),(2,-1)]=2:=rfl;have e2:aI [((-2:Int),(1:Int)),(2,-1)]= -2:=rfl;rw [e1,e2,show ([((-2:Int),(1:Int)),(2,-1)]:List (Int×Int)).length=2 from rfl];omega
theorem Ds {m:List Int} {n L:Nat} {w e:Int}:fu m n L w e=rh w*bA m n L 1 (e+3*w):=rfl
theorem Vj {mp mm my:List Int} {n n' L L':Nat} {w:Int} {Q:Int->Int} (h1: ∀e,bA mp n L 1 e=bA my n' L' 1 (e-1)+Q (e+1)) (h2: ∀e,bA mm n L 1 e=Q (e-1)+bA my n' L' 1 (e+1)) (e:Int):
  fu mp n L (w+1) (e-4)-fu mm n L (w-1) (e+4)=tc (fu my n' L' w) e:=by
 unfold tc;rw [Ds,Ds,Ds,Ds,h1,h2];have s1:rh (w+1)= -rh w:=by unfold rh;split<;>split<;>omega
 have s2:rh (w-1)= -rh w:=by unfold rh;split<;>split<;>omega
 rw [s1,s2,show e-4+3*(w+1)-1=e-2+3*w by omega,show e+4+3*(w-1)+1=e+2+3*w by omega,show e-4+3*(w+1)+1=e+3*w by omega,show e+4+3*(w-1)-1=e+3*w by omega];rcases QQ w with h|h<;>rw [h]<;>omega
theorem N5 {mp mm my:List Int} {n n' L L':Nat} {w:Int} {Q:Int->Int} (hp:bd mp n) (hq:bd mm n) (hy:bd my n') (Ya:my.length=4*n') (hn:n<=9) (tn:n'<=9) (hL:L<=20) (tu:L'<=20) (hw: -8<=w/\w<=8) (aw: ¬(n'=0/\L'=0))
  (h1: ∀e,bA mp n L 1 e=bA my n' L' 1 (e-1)+Q (e+1)) (h2: ∀e,bA mm n L 1 e=Q (e-1)+bA my n' L' 1 (e+1)):
  ∃P M R,R.length<=1000000/\Fn Tryz.prog 38 [plA false (nG mp n L (w+1)),I 4] (plA false P)/\Fn Tryz.prog 38 [plA false (nG mm n L (w-1)),I (-4)] (plA false M)/\
   Fn Tryz.prog 49 [plA false P,plA false M] (plA false R)/\Fn Tryz.prog 16 [plA false (nG my n' L' w),plA false [(-2,1),(2,-1)]] (plA false R):=by
 have jp:=Dv (w:=w+1) hp hn hL (by omega);have jm:=Dv (w:=w-1) hq hn hL (by omega);have jy:=Dv (w:=w) hy tn tu (by omega);obtain ⟨a1,a2⟩:=Hi 4 (by omega) jp fun e he=>by have:=pz hp hn hL (by omega) he;omega
 obtain ⟨b1,b2⟩:=Hi (-4) (by omega) jm fun e he=>by have:=pz hq hn hL (by omega) he;omega
 obtain ⟨R,c1,c2⟩:=IL a1 b1 (fun e he=>by have:=pz hp hn hL (by omega) he;omega) (fun e he=>by have:=pz hq hn hL (by omega) he;omega) (fun e=>by have:=Ar (w:=w+1) hp hn hL (e-4);omega) (fun e=>by have:=Ar (w:=w-1) hq hn hL (e- -4);omega);have ig:=Mq hy tn tu
 have py:=JZ hy Ya aw tn tu;have dy:=WR hy tn ig.asc ig.cf py
 have ey:=IX (QQ w) ig (k:=3*w) jy
 have sy: ∀e,fu my n' L' w e≠0-> -1000<=e/\e<=1000:=fun e he=>by have:=pz hy tn tu (by omega) he;omega
 obtain ⟨S,d1,d2⟩:=JM jy sy (fun e=>by have:=Ar (w:=w) hy tn tu e;omega) (by rw [ey,GA];exact py) (by
  have q:=IW (rh w) (3*w) py;rw [ey,GA,q.1,q.2];omega)
 have sR: ∀e,tc (fu my n' L' w) e≠0-> -1000<=e/\e<=1000:=fun e he=>by
  unfold tc at he;by_cases k1:fu my n' L' w (e+2)=0
  ·have:=pz (w:=w) hy tn tu (by omega) (e:=e-2) (fun h=>he (by rw [k1,h];omega))
   omega
  ·have:=pz (w:=w) hy tn tu (by omega) k1
   omega
 have eR:R=S:=by
  refine bG.ext c1.asc d1.asc fun e=>?_;rw [c1.cf,d1.cf,←Vj h1 h2 e,show e- -4=e+4 by omega]
 subst eR;exact ⟨_,_,R,by have:=d1.len sR;omega,a2,b2,c2,d2⟩
end Go.Proofs.YtphjphpmfflfpaaGreatDoor
set_option linter.unusedSimpArgs false
set_option linter.unusedVariables false
namespace Go.Proofs.YtphjphpmfflfpaaGreatDoor
open Go Go.RowKit
set_option maxRecDepth 100000
set_option maxHeartbeats 4000000
def sP:List (List Nat):=[[18,19,20,21,22,23,8],[18,19,20,21,22,23,8],[18,19,20,21,22,23,8],[18,19,20,21,22,23,8],[14,15,16,17,22,23,8],[14,15,16,17,22,23,8],[14,15,16,17,22,23,8],[14,15,16,17,22,23,8],[14,15,16,17,18,19,20,21,8],[14,15,16,17,18,19,20,21,8],[8],[14,15,16,17,18,19,20,21,22,23,24],[]]
def sN:List (List Nat):=[[],[],[],[],[0,1,2,3],[0,1,2,3],[0,1,2,3],[0,1,2,3],[0,1,2,3,4,5,6,7],[0,1,2,3,4,5,6,7],[],[0,1,2,3,4,5,6,7,8,9,10],[]]
def sM:List (List Nat):=[[35,36,37,38,39,40],[35,36,37,38,39,40],[33,34,36,37,38,39,40],[33,34,35,37,38,39],[33,34,35,36,38],[33,34,35,36,37],[33,34,35,36],[33,34,35],[],[]]
def sL:List (List Nat):=[[53,54,55,56,57,58],[53,54,55,56,57,58],[51,52,54,56,57],[51,52,53,56,57],[51,52,56,57],[51,52,53,54,55,57],[51,52,53,54,55,56],[51,52],[],[]]
theorem WL (g:Nat) (cap:List AV) (ig:Int->Int->Int) (h:Int) (h0:0<=h) (h1:h<=10000) (aD:(cap.all p1)=true) (hf:Fn Tryz.prog g ([I (h/4),I (h % 4)]++cap) (I (ig (h/4) (h % 4)))):
  Fn Tryz.prog 151 [I h, .rp (.lst [.fn g cap]) 0] (I (fZ h (ig (h/4) (h % 4)))):=by
 have e1:h.tmod 4=h % 4:=Nf h0;have e2:h.tdiv 4=h/4:=sW h0;refine Fn.intro [.tmp 3] Tryz.func151 rfl rfl (by decide) (by simp [Tryz.ntmps151]) ?_;rw [Tryz.ntmps151]
 repeat' (first|omega|(try apply aj);simp only [go_sem,sevalprocAttr,e1,e2]|apply ag<;>(intro h_;(try simp only [h_]);revert h_)|apply ah|apply ai|apply ae|apply And.intro|with_reducible intro h_|trivial|simp only [go_sem,ak];omega)
 refine ⟨az.fn ?_ hf ?_⟩
 ·simp only [List.all_cons,gV aD];rfl
 repeat' (first|omega|(try apply aj);simp only [go_sem,sevalprocAttr]|apply ag<;>(intro h_;(try simp only [h_]);revert h_)|apply ah|apply ai|apply ae|apply And.intro|with_reducible intro h_|trivial|simp only [go_sem,ak];omega)
 refine ⟨az.fn rfl (GW h _ h0 (by omega)) ?_⟩
 repeat' (first|omega|(try apply aj);simp only [go_sem,sevalprocAttr]|apply ag<;>(intro h_;(try simp only [h_]);revert h_)|apply ah|apply ai|apply ae|apply And.intro|with_reducible intro h_|trivial|simp only [go_sem,ak];omega)
theorem JL (s m:List Int) (L:Int) (g1 g2:Nat) (c1 c2:List AV) (ig:Int->Int->Int) (sg:Int->Int) (hs:s.length<=1000) (hm:iP m s.length) (aD:(c1.all p1)=true) (aK:(c2.all p1)=true)
  (hb: ∀c x:Int,0<=c->c<s.length->0<=x->x<4->Fn Tryz.prog g1 ([I c,I x]++c1) (I (ig c x))) (hg: ∀c:Nat,c<s.length->Fn Tryz.prog g2 ([I c]++c2) (I (sg c))/\InI (s.getD c 0*sg c)):
  Fn Tryz.prog 99 [dgA s m L, .fn g1 c1, .fn g2 c2] (dgA (ri s sg s.length) (rC m (fun h=>fZ h (ig (h/4) (h % 4))) m.length) L):=by
 have fB:=hm.1
 have w5: ∀h:Int,0<=h->h<4*s.length->Fn Tryz.prog 151 [I h, .rp (.lst [.fn g1 c1]) 0] (I (fZ h (ig (h/4) (h % 4)))):=fun h h0 h1=>
  WL g1 c1 ig h h0 (by omega) aD (hb _ _ (by omega) (by omega) (by omega) (by omega))
 refine Fn.intro [.cell 6 24] Tryz.func99 rfl rfl (by decide) (by simp [Tryz.ntmps99]) ?_;rw [Tryz.ntmps99]
 repeat' (first|omega|(first|apply aj|(refine an.intro (id:=2) sP sN (by decide+kernel) mixed ?_)|(refine an.intro (id:=6) sM [[],[],[0,1],[0,1,2],[0,1,2,3],[0,1,2,3,4],[0,1,2,3],[0,1,2],[],[]] (by decide+kernel) mixed ?_)|(refine an.intro (id:=11) sL [[],[],[0,1],[0,1,2],[0,1],[0,1,2,3,4],[0,1,2,3,4,5],[0,1],[],[]] (by decide+kernel) mixed ?_)|skip);simp only [go_sem,sevalprocAttr,ja aD,gV aD,je aD,fY aD,jd aD,gA aD,gw aD,gd aD,gb aD,ja aK,gV aK,je aK,fY aK,jd aK,gA aK,gw aK,gd aK,gb aK,↓reduceIte,reduceCtorEq,sP,sN,sM,sL]|apply ag<;>(intro h_;(try simp only [h_]);revert h_)|apply ah|apply ai|apply ae|apply And.intro|with_reducible intro h_|trivial|simp only [go_sem,ak];omega)
 refine bN.intro (fun n fr H=> ∃k:Nat,k<=s.length/\n=s.length-k/\fr=[(28,I k),(27,I s.length),(26,roI s),(8, .ptr 14 0),(7, .fn 151 [.ptr 1 0]),(6, .ptr 2 0),(3, .ptr 0 0),(2, .fn g2 c2)]/\
  H=[(14, .cells 24 (.lst [.sl 1 6 0 s.length, .sl 1 10 0 m.length,I L])),(10, .cells 3 (.ints (List.replicate m.length 0))),(6, .cells 3 (.ints (ri s sg k++List.replicate (s.length-k) 0))),(2, .cells 24 (.lst [.nils, .nils,I 0])),(1, .cells 115 (.lst [.fn g1 c1])),(0, .cells 24 (.lst [roI s,roI m,I L]))]) ?_ ?_
 ·refine ⟨_,_,_,?_,0,by omega,rfl,rfl,rfl⟩;refine Wk.sub ?_ ?_<;>simp only [go_sem,sevalprocAttr]
  all_goals simp [ri,fY aD,fY aK]
 rintro n fr H ⟨k,hk,rfl,rfl,rfl⟩;have gl:=Ea s sg k;by_cases bJ:k<s.length
 ·obtain ⟨tp,nP⟩:=hg k bJ
  repeat' (first|omega|(first|apply aj|(refine an.intro (id:=2) sP sN (by decide+kernel) mixed ?_)|(refine an.intro (id:=6) sM [[],[],[0,1],[0,1,2],[0,1,2,3],[0,1,2,3,4],[0,1,2,3],[0,1,2],[],[]] (by decide+kernel) mixed ?_)|(refine an.intro (id:=11) sL [[],[],[0,1],[0,1,2],[0,1],[0,1,2,3,4],[0,1,2,3,4,5],[0,1],[],[]] (by decide+kernel) mixed ?_)|skip);simp only [go_sem,sevalprocAttr,ja aD,gV aD,je aD,fY aD,jd aD,gA aD,gw aD,gd aD,gb aD,ja aK,gV aK,je aK,fY aK,jd aK,gA aK,gw aK,gd aK,gb aK,↓reduceIte,reduceCtorEq,sP,sN,sM,sL]|apply ag<;>(intro h_;(try simp only [h_]);revert h_)|apply ah|apply ai|apply ae|apply And.intro|with_reducible intro h_|trivial|simp only [go_sem,ak];omega)
  refine ⟨cg.fn (by simp only [List.all_cons,gV aK];rfl) tp ?_⟩;unfold InI at nP
  repeat' (first|omega|(try apply aj);simp only [go_sem,sevalprocAttr,ja aD,gV aD,je aD,fY aD,jd aD,gA aD,gw aD,gd aD,gb aD,ja aK,gV aK,je aK,fY aK,jd aK,gA aK,gw aK,gd aK,gb aK]|apply ag<;>(intro h_;(try simp only [h_]);revert h_)|apply ah|apply ai|apply ae|apply And.intro|with_reducible intro h_|trivial|simp only [go_sem,ak];omega)
  all_goals first|omega|skip
  refine ⟨_,_,_,?_,?_,⟨k+1,by omega,rfl,rfl,rfl⟩⟩
  ·omega
  ·refine Wk.sub ?_ ?_<;>simp only [go_sem,sevalprocAttr]
   all_goals simp only [fY aD,fY aK,and_self,and_true,UZ s sg s.length k bJ]
 obtain rfl:k=s.length:=by omega
 rw [Nat.sub_self,List.replicate_zero,List.append_nil] at*
 repeat' (first|omega|(first|apply aj|(refine an.intro (id:=2) sP sN (by decide+kernel) mixed ?_)|(refine an.intro (id:=6) sM [[],[],[0,1],[0,1,2],[0,1,2,3],[0,1,2,3,4],[0,1,2,3],[0,1,2],[],[]] (by decide+kernel) mixed ?_)|(refine an.intro (id:=11) sL [[],[],[0,1],[0,1,2],[0,1],[0,1,2,3,4],[0,1,2,3,4,5],[0,1],[],[]] (by decide+kernel) mixed ?_)|skip);simp only [go_sem,sevalprocAttr,ja aD,gV aD,je aD,fY aD,jd aD,gA aD,gw aD,gd aD,gb aD,ja aK,gV aK,je aK,fY aK,jd aK,gA aK,gw aK,gd aK,gb aK,↓reduceIte,reduceCtorEq,sP,sN,sM,sL]|apply ag<;>(intro h_;(try simp only [h_]);revert h_)|apply ah|apply ai|apply ae|apply And.intro|with_reducible intro h_|trivial|simp only [go_sem,ak];omega)
 refine bN.intro (fun n fr H=> ∃k:Nat,k<=m.length/\n=m.length-k/\fr=[(46,I k),(45,I m.length),(44,roI m),(8, .ptr 14 0),(7, .fn 151 [.ptr 1 0]),(6, .ptr 2 0),(3, .ptr 0 0)]/\
  H=[(14, .cells 24 (.lst [.sl 1 6 0 s.length, .sl 1 10 0 m.length,I L])),(10, .cells 3 (.ints (rC m (fun h=>fZ h (ig (h/4) (h % 4))) k))),(6, .cells 3 (.ints (ri s sg s.length))),(2, .cells 24 (.lst [.nils, .nils,I 0])),(1, .cells 115 (.lst [.fn g1 c1])),(0, .cells 24 (.lst [roI s,roI m,I L]))]) ?_ ?_
 ·refine ⟨_,_,_,?_,0,by omega,rfl,rfl,rfl⟩;refine Wk.sub ?_ ?_<;>simp only [go_sem,sevalprocAttr]
  all_goals simp [rC,fY aD]
 rintro n fr H ⟨k,hk,rfl,rfl,rfl⟩;have ml:=Eb m (fun h=>fZ h (ig (h/4) (h % 4))) k;by_cases bJ:k<m.length
 ·have ju:=hm.2 k (by omega);have RR:=w5 k (by omega) (by omega);have KE:=w5 (m.getD k 0) ju.1 ju.2;have RX:=IA (h:=k) (b:=ig (k/4) (k % 4)) (n:=s.length) (by omega) (by omega)
  repeat' (first|omega|(first|apply aj|(refine an.intro (id:=2) sP sN (by decide+kernel) mixed ?_)|(refine an.intro (id:=6) sM [[],[],[0,1],[0,1,2],[0,1,2,3],[0,1,2,3,4],[0,1,2,3],[0,1,2],[],[]] (by decide+kernel) mixed ?_)|(refine an.intro (id:=11) sL [[],[],[0,1],[0,1,2],[0,1],[0,1,2,3,4],[0,1,2,3,4,5],[0,1],[],[]] (by decide+kernel) mixed ?_)|skip);simp only [go_sem,sevalprocAttr,ja aD,gV aD,je aD,fY aD,jd aD,gA aD,gw aD,gd aD,gb aD,ja aK,gV aK,je aK,fY aK,jd aK,gA aK,gw aK,gd aK,gb aK,↓reduceIte,reduceCtorEq,sP,sN,sM,sL]|apply ag<;>(intro h_;(try simp only [h_]);revert h_)|apply ah|apply ai|apply ae|apply And.intro|with_reducible intro h_|trivial|simp only [go_sem,ak];omega)
  refine ⟨cg.flat rfl (by simp only [go_sem,sevalprocAttr,ja aD,gV aD,je aD,fY aD,jd aD,gA aD,gw aD,gd aD,gb aD,ja aK,gV aK,je aK,fY aK,jd aK,gA aK,gw aK,gd aK,gb aK]) (by simp only [go_sem,sevalprocAttr,ja aD,gV aD,je aD,fY aD,jd aD,gA aD,gw aD,gd aD,gb aD,ja aK,gV aK,je aK,fY aK,jd aK,gA aK,gw aK,gd aK,gb aK]) RR rfl ?_⟩
  repeat' (first|omega|(try apply aj);simp only [go_sem,sevalprocAttr,ja aD,gV aD,je aD,fY aD,jd aD,gA aD,gw aD,gd aD,gb aD,ja aK,gV aK,je aK,fY aK,jd aK,gA aK,gw aK,gd aK,gb aK]|apply ag<;>(intro h_;(try simp only [h_]);revert h_)|apply ah|apply ai|apply ae|apply And.intro|with_reducible intro h_|trivial|simp only [go_sem,ak];omega)
  refine ⟨cg.flat rfl (by simp only [go_sem,sevalprocAttr,ja aD,gV aD,je aD,fY aD,jd aD,gA aD,gw aD,gd aD,gb aD,ja aK,gV aK,je aK,fY aK,jd aK,gA aK,gw aK,gd aK,gb aK]) (by simp only [go_sem,sevalprocAttr,ja aD,gV aD,je aD,fY aD,jd aD,gA aD,gw aD,gd aD,gb aD,ja aK,gV aK,je aK,fY aK,jd aK,gA aK,gw aK,gd aK,gb aK]) KE rfl ?_⟩
  repeat' (first|omega|(try apply aj);simp only [go_sem,sevalprocAttr,ja aD,gV aD,je aD,fY aD,jd aD,gA aD,gw aD,gd aD,gb aD,ja aK,gV aK,je aK,fY aK,jd aK,gA aK,gw aK,gd aK,gb aK]|apply ag<;>(intro h_;(try simp only [h_]);revert h_)|apply ah|apply ai|apply ae|apply And.intro|with_reducible intro h_|trivial|simp only [go_sem,ak];omega)
  refine ⟨_,_,_,?_,?_,⟨k+1,by omega,rfl,rfl,rfl⟩⟩
  ·omega
  ·refine Wk.sub ?_ ?_<;>simp only [go_sem,sevalprocAttr]
   all_goals simp only [fY aD,rC,and_self,and_true]
 ·obtain rfl:k=m.length:=by omega
  repeat' (first|omega|(first|apply aj|(refine an.intro (id:=2) sP sN (by decide+kernel) mixed ?_)|(refine an.intro (id:=6) sM [[],[],[0,1],[0,1,2],[0,1,2,3],[0,1,2,3,4],[0,1,2,3],[0,1,2],[],[]] (by decide+kernel) mixed ?_)|(refine an.intro (id:=11) sL [[],[],[0,1],[0,1,2],[0,1],[0,1,2,3,4],[0,1,2,3,4,5],[0,1],[],[]] (by decide+kernel) mixed ?_)|skip);simp only [go_sem,sevalprocAttr,ja aD,gV aD,je aD,fY aD,jd aD,gA aD,gw aD,gd aD,gb aD,ja aK,gV aK,je aK,fY aK,jd aK,gA aK,gw aK,gd aK,gb aK,↓reduceIte,reduceCtorEq,sP,sN,sM,sL]|apply ag<;>(intro h_;(try simp only [h_]);revert h_)|apply ah|apply ai|apply ae|apply And.intro|with_reducible intro h_|trivial|simp only [go_sem,ak];omega)
  ·exact List.take_of_length_le (by omega)
  ·exact List.take_of_length_le (by omega)
end Go.Proofs.YtphjphpmfflfpaaGreatDoor
