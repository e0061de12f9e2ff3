/- Plain: the terms of a list of coefficients. -/
import Derived.Test.YtphjphpmfflfpaaGreatDoorZc
import Derived.Test.YtphjphpmfflfpaaGreatDoorSq
import Derived.Test.YtphjphpmfflfpaaGreatDoorZk
import Derived.Test.YtphjphpmfflfpaaGreatDoorZo
import Derived.Test.YtphjphpmfflfpaaGreatDoorZv
import Derived.Test.YtphjphpmfflfpaaGreatDoorZn
import Derived.Test.YtphjphpmfflfpaaGreatDoorZr
set_option linter.unusedSimpArgs false
set_option linter.unusedVariables false
namespace Go.Proofs.YtphjphpmfflfpaaGreatDoor
namespace Sp
end Sp
namespace Sp
section
variable {s m:List Int} {L:Int} {n c:Nat} {b:Bool}
theorem jg {s:List Int} {c:Nat}: ∀k,(dZ s c k).length=(if c<k then k-1 else k)/\ ∀x,x<(if c<k then k-1 else k)->(dZ s c k).getD x 0=s.getD (if x<c then x else x+1) 0
 |0=>by simp [dZ]
 |k+1=>by
  obtain ⟨h1,h2⟩:=jg (s:=s) (c:=c) k;simp only [dZ];by_cases e:k=c
  ·subst e;rw [if_pos rfl,if_pos (by omega)];rw [if_neg (by omega)] at h1 h2;refine ⟨by omega,fun x hx=>h2 x (by omega)⟩
  ·rw [if_neg e];by_cases hc:c<k
   ·rw [if_pos hc] at h1 h2;rw [if_pos (by omega)];refine ⟨by rw [List.length_append,h1];simp;omega,fun x hx=>?_⟩;by_cases iM:x<k-1
    ·rw [ER _ _ _ (by omega)];exact h2 x iM
    ·obtain rfl:x=k-1:=by omega
     rw [EP _ _ _ (by omega),h1,Nat.sub_self,if_neg (by omega),show k-1+1=k by omega];rfl
   ·rw [if_neg hc] at h1 h2;rw [if_neg (by omega)];refine ⟨by rw [List.length_append,h1];simp,fun x hx=>?_⟩;by_cases iM:x<k
    ·rw [ER _ _ _ (by omega)];exact h2 x iM
    ·obtain rfl:x=k:=by omega
     rw [EP _ _ _ (by omega),h1,Nat.sub_self,if_pos (by omega)];rfl
theorem oM {i:Nat} (hi:i/4≠c): ∀k,k<=m.length->i<k->(cV m b c k).getD i 0=b9 m b c 5 (m.getD i 0):=fun k=>by
 induction k with
 |zero=>intro _ h;omega
 |succ k ih=>
  intro hk aA;have hl:=GX (m:=m) (b:=b) (c:=c) k;simp only [cV];by_cases rU:k/4=c
  ·rw [if_pos rU]
   have:i≠k:=fun e=>hi (by rw [e];exact rU)
   exact ih (by omega) (by omega)
  ·rw [if_neg rU];by_cases e:k=i
   ·rw [←e,kl (by omega)]
   ·rw [j9 e];exact ih (by omega) (by omega)
theorem QF (hv:dm s m L=true):kk m s.length/\mJ m s.length=true:=by
 have v:=jC hv;refine ⟨⟨v.dd,fun x hx=>(v.mt x hx).2.2.1⟩,?_⟩;rw [H5] at hv;unfold zX at hv;exact (Bool.and_eq_true _ _▸hv).2
theorem J0 {x:Int} (hs:s.getD c 0=1\/s.getD c 0= -1) (hx:x/4=c):bV s (aB (s.getD c 0== -1) x)= !bV s x:=by
 have e:x=4*c\/x=4*c+1\/x=4*c+2\/x=4*c+3:=by omega
 have d0:(4*(c:Int))/4=c/\(4*(c:Int)+1)/4=c/\(4*(c:Int)+2)/4=c/\(4*(c:Int)+3)/4=c:=by omega
 have r0:(4*(c:Int))% 4=0/\(4*(c:Int)+1)% 4=1/\(4*(c:Int)+2)% 4=2/\(4*(c:Int)+3)% 4=3:=by omega
 obtain ⟨d1,d2,d3,d4⟩:=d0;obtain ⟨r1,r2,r3,r4⟩:=r0;rcases hs with hs|hs
 ·have hb:(s.getD c 0== -1)=false:=by rw [hs];decide
  rw [hb];obtain ⟨j1,j2,j3,j4⟩:=RA c;rcases e with rfl|rfl|rfl|rfl
  ·rw [j1];simp only [bV,d1,d2,r1,r2,Int.toNat_natCast,hs];decide
  ·rw [j2];simp only [bV,d1,d2,r1,r2,Int.toNat_natCast,hs];decide
  ·rw [j3];simp only [bV,d3,d4,r3,r4,Int.toNat_natCast,hs];decide
  ·rw [j4];simp only [bV,d3,d4,r3,r4,Int.toNat_natCast,hs];decide
 ·have hb:(s.getD c 0== -1)=true:=by rw [hs];decide
  rw [hb];obtain ⟨j1,j2,j3,j4⟩:=Rz c;rcases e with rfl|rfl|rfl|rfl
  ·rw [j1];simp only [bV,d1,d4,r1,r4,Int.toNat_natCast,hs];decide
  ·rw [j2];simp only [bV,d2,d3,r2,r3,Int.toNat_natCast,hs];decide
  ·rw [j3];simp only [bV,d2,d3,r2,r3,Int.toNat_natCast,hs];decide
  ·rw [j4];simp only [bV,d1,d4,r1,r4,Int.toNat_natCast,hs];decide
theorem OU (v:yn s m L) (hc:c<s.length): ∀f x,ax s.length x->bV s (b9 m (s.getD c 0== -1) c f x)=bV s x
 |0,x,_=>rfl
 |f+1,x,hx=>by
  unfold b9
  split
  ·rename_i e
   have hd:=jD (s.getD c 0== -1) x;have hr:ax s.length (aB (s.getD c 0== -1) x):=by unfold ax;omega
   rw [OU v hc f _ (v.dd.bP hr)];unfold ax at hr;have h1:=(v.mt (aB (s.getD c 0== -1) x).toNat (by omega)).2.2.2.2;rw [show (((aB (s.getD c 0== -1) x).toNat:Nat):Int)=aB (s.getD c 0== -1) x by omega,J0 (v.sg c hc) e] at h1;cases h2:bV s x<;>cases h3:bV s (m.getD (aB (s.getD c 0== -1) x).toNat 0)<;>simp_all
  ·rfl
theorem lv:0<=jl m b c n/\jl m b c n<=2:=by
 unfold jl;simp only;split<;>split<;>omega
theorem Mu (hc:c<s.length) {x y:Nat} (hx:x<4*(s.length-1)) (hy:y=if x/4<c then x else x+4):bV (dZ s c s.length) x=bV s y:=by
 obtain ⟨_,h2⟩:=jg (s:=s) (c:=c) s.length;rw [if_pos hc] at h2;have e1:((x:Int)/4).toNat=x/4:=by omega
 have e2:((y:Int)/4).toNat=if x/4<c then x/4 else x/4+1:=by rw [hy];split<;>omega
 have e3:(y:Int)% 4=(x:Int)% 4:=by rw [hy];split<;>omega
 unfold bV;rw [e1,e2,e3,h2 (x/4) (by omega)]
theorem gB (hv:dm s m L=true) (hc:c<s.length) (hL:lu s m c L<=64):dm (nV s c) (nE s m c) (lu s m c L)=true/\(nV s c).length=s.length-1:=by
 have v:=jC hv;obtain ⟨hd,dT⟩:=QF hv;obtain ⟨qK,KJ⟩:=Tj (b:=(s.getD c 0== -1)) hd hc dT;obtain ⟨w1,w2⟩:=jg (s:=s) (c:=c) s.length;rw [if_pos hc] at w1 w2;obtain ⟨wl,wg⟩:=jh (E:=cV m (s.getD c 0== -1) c (4*s.length)) (c:=c) s.length;rw [if_pos hc] at wl wg;have dq:(nV s c).length=s.length-1:=w1;refine ⟨?_,dq⟩;rw [H5];unfold zX;rw [dq,Bool.and_eq_true];refine ⟨?_,KJ⟩
 unfold sT;rw [decide_eq_true_iff,dq];have uO:=v.s64;have w8:=lv (m:=m) (b:=(s.getD c 0== -1)) (c:=c) (n:=s.length);have vN:=v.l0;refine ⟨by omega,wl,by unfold lu;omega,hL,fun i hi=>?_,fun h hh=>?_⟩
 ·unfold nV;rw [w2 i hi];exact v.sg _ (by split<;>omega)
 ·have p1:=qK.dd.ok.2 h hh;have p2:=qK.dd.inv h hh;have p3:=qK.ne h hh;refine ⟨p1.1,by rw [dq];exact p1.2,p3,p2,?_⟩;obtain ⟨y,hy⟩: ∃y,y=if h/4<c then h else h+4:=⟨_,rfl⟩;have y9:y<4*s.length/\y/4≠c:=by rw [hy];split<;>omega
  unfold nV;rw [Mu hc hh hy];have e1:(nE s m c).getD h 0=cb (cV m (s.getD c 0== -1) c (4*s.length)) c y:=by unfold nE;rw [wg h hh,hy]
  have fB:=v.len;have e2:(cV m (s.getD c 0== -1) c (4*s.length)).getD y 0=b9 m (s.getD c 0== -1) c 5 (m.getD y 0):=oM y9.2 _ (by omega) y9.1;have n7:=AJ (b:=(s.getD c 0== -1)) v.dd hc y9.1 y9.2;have RY:ax s.length (m.getD y 0):=by have:=v.dd.ok.2 y y9.1;unfold ax;omega
  have xd:=H4 (b:=(s.getD c 0== -1)) v.dd hc 5 _ RY;have ho:=OU v hc 5 _ RY;have aw:=(v.mt y y9.1).2.2.2.2;have p1':(0:Int)<=(nE s m c).getD h 0/\(nE s m c).getD h 0<4*((s.length-1:Nat):Int):=p1;unfold cb at e1;rw [e2] at e1;generalize b9 m (s.getD c 0== -1) c 5 (m.getD y 0)=z at*;unfold ax at xd;obtain ⟨z,rfl⟩: ∃q:Nat,z=q:=⟨z.toNat,by omega⟩
  obtain ⟨q,hq⟩: ∃q:Nat,(nE s m c).getD h 0=q:=⟨((nE s m c).getD h 0).toNat,by omega⟩;rw [hq,Mu (y:=z) hc (by omega) (by rw [hq] at e1;split at e1<;>split<;>omega),ho];exact aw
end
end Sp
namespace Sp
section
variable {s m:List Int} {L:Int} {n c k:Nat}
def tw (k c x:Nat):Nat:=if x/4=c then x-x % 4+(x % 4+k)% 4 else x
theorem lk (k c x:Nat):tw k c x/4=x/4:=by unfold tw;split<;>omega
theorem iI {x:Nat} (hx:x<4*n):tw k c x<4*n:=by have:=lk k c x;omega
theorem dN {x:Nat} (h:x/4≠c):tw k c x=x:=by unfold tw;rw [if_neg h]
theorem dO {x:Nat} (hk:k=1\/k=3):tw (4-k) c (tw k c x)=x/\tw k c (tw (4-k) c x)=x:=by
 by_cases h:x/4=c
 ·unfold tw;simp only [h,if_true];rw [if_pos (by omega),if_pos (by omega)];rcases hk with rfl|rfl<;>omega
 ·rw [dN h,dN h,dN h];exact ⟨rfl,rfl⟩
theorem QE {x y:Nat} (hk:k=1\/k=3) (e:tw k c x=tw k c y):x=y:=by
 rw [←(dO (c:=c) (x:=x) hk).1,e,(dO hk).1]
theorem A8 (x:Nat) (hk:k=1\/k=3):tw k c (ed x)=ed (tw k c x):=by
 by_cases h:x/4=c
 ·have h1:=Aq x;have h2:=lk k c x;unfold tw ed;rw [if_pos (by unfold ed at h1;omega),if_pos h];rcases hk with rfl|rfl<;>omega
 ·rw [dN h,dN (by rw [Aq];exact h)]
theorem Qx (hs:s.getD c 0=1\/s.getD c 0= -1) (x:Nat):fZ x (ot s (· ==(c:Int)) ((x:Int)/4))=(tw (if s.getD c 0=1 then 1 else 3) c x:Nat):=by
 by_cases h:x/4=c
 ·have e:((x:Int)/4==(c:Int))=true:=by simp;omega
  have e2:((x:Int)/4).toNat=c:=by omega
  unfold ot tw;rw [if_pos e,e2,if_pos h]
  split
  ·unfold fZ;rw [show Int.tmod (-3) 4= -3 by decide];omega
  ·unfold fZ;rw [show Int.tmod (-1) 4= -1 by decide];omega
 ·have e:((x:Int)/4==(c:Int))=false:=by simp;omega
  unfold ot;rw [if_neg (fun e'=>by have:=e.symm.trans e';cases this),dN h];unfold fZ;rw [show Int.tmod 0 4=0 by decide];omega
theorem Mt {to:Int->Int} {t:Nat->Nat} (ht: ∀x:Nat,to x=t x) (hi: ∀x y,t x=t y->x=y) (hl: ∀x,x<m.length->t x<m.length): ∀k,k<=m.length-> ∀i,i<k->(rC m to k).getD (t i) 0=to (m.getD i 0)
 |0,_,i,h=>by omega
 |k+1,hk,i,h=>by
  have hlen:=Eb m to k;simp only [rC];rw [ht k,Int.toNat_natCast];by_cases e:i=k
  ·subst e;rw [kl (by rw [hlen];exact hl i (by omega))]
  ·rw [j9 (fun e'=>e (hi _ _ e').symm)];exact Mt ht hi hl k (by omega) i (by omega)
theorem ln {i:Nat} (hi:i<s.length):(oI s c).getD i 0=if i=c then-s.getD i 0 else s.getD i 0:=by
 unfold oI zH ri;rw [List.getD_eq_getElem?_getD,List.getElem?_map,List.getElem?_range hi];simp only [Option.map_some,Option.getD_some,qa];by_cases e:i=c
 ·subst e;simp
 ·have: ¬((i:Int)==(c:Int))=true:=by simp;omega
  rw [if_neg this,if_neg e];simp
theorem jk:(oI s c).length=s.length:=by unfold oI zH;rw [Ea]
def kT (s:List Int) (c:Nat):Nat:=if s.getD c 0=1 then 1 else 3
theorem iL:kT s c=1\/kT s c=3:=by unfold kT;split<;>simp
theorem oK (v:yn s m L) (hc:c<s.length) {i:Nat} (hi:i<4*s.length):(ka s m c).getD (tw (kT s c) c i) 0=(tw (kT s c) c (bZ m i):Nat):=by
 have hs:=v.sg c hc;have fB:=v.len;unfold ka C5;rw [Mt (t:=tw (kT s c) c) (fun x=>Qx hs x) (fun x y e=>QE iL e) (fun x hx=>by rw [fB] at hx⊢;exact iI hx) m.length (Nat.le_refl _) i (by omega)];have h0:=(v.mt i hi).1;have e:m.getD i 0=((bZ m i:Nat):Int):=by unfold bZ;omega
 rw [e];exact Qx hs _
theorem oJ:(ka s m c).length=m.length:=Eb _ _ _
theorem Ms (hs:s.getD c 0=1\/s.getD c 0= -1) (hc:c<s.length) {x:Nat} (hx:x<4*s.length):bV (oI s c) (tw (kT s c) c x)=bV s x:=by
 have hd:=lk (kT s c) c x;have e1:(((tw (kT s c) c x:Nat):Int)/4).toNat=x/4:=by omega
 have e2:((x:Int)/4).toNat=x/4:=by omega
 unfold bV;rw [e1,e2,ln (by omega)];by_cases h:x/4=c
 ·rw [if_pos h,h];have r:x % 4=0\/x % 4=1\/x % 4=2\/x % 4=3:=by omega
  rcases hs with hs|hs
  ·have hk:kT s c=1:=by unfold kT;rw [if_pos hs]
   rw [hk,hs];rcases r with r|r|r|r
   ·rw [show (x:Int)% 4=0 by omega,show ((tw 1 c x:Nat):Int)% 4=1 by unfold tw;rw [if_pos h];omega];decide
   ·rw [show (x:Int)% 4=1 by omega,show ((tw 1 c x:Nat):Int)% 4=2 by unfold tw;rw [if_pos h];omega];decide
   ·rw [show (x:Int)% 4=2 by omega,show ((tw 1 c x:Nat):Int)% 4=3 by unfold tw;rw [if_pos h];omega];decide
   ·rw [show (x:Int)% 4=3 by omega,show ((tw 1 c x:Nat):Int)% 4=0 by unfold tw;rw [if_pos h];omega];decide
  ·have hk:kT s c=3:=by unfold kT;rw [if_neg (by omega)]
   rw [hk,hs];rcases r with r|r|r|r
   ·rw [show (x:Int)% 4=0 by omega,show ((tw 3 c x:Nat):Int)% 4=3 by unfold tw;rw [if_pos h];omega];decide
   ·rw [show (x:Int)% 4=1 by omega,show ((tw 3 c x:Nat):Int)% 4=0 by unfold tw;rw [if_pos h];omega];decide
   ·rw [show (x:Int)% 4=2 by omega,show ((tw 3 c x:Nat):Int)% 4=1 by unfold tw;rw [if_pos h];omega];decide
   ·rw [show (x:Int)% 4=3 by omega,show ((tw 3 c x:Nat):Int)% 4=2 by unfold tw;rw [if_pos h];omega];decide
 ·rw [if_neg h,dN h]
theorem wi (v:yn s m L) (hc:c<s.length) {i:Nat} (hi:i<4*s.length):bZ (ka s m c) i=tw (kT s c) c (bZ m (tw (4-kT s c) c i))/\((bZ (ka s m c) i:Nat):Int)=(ka s m c).getD i 0:=by
 have h:=oK v hc (i:=tw (4-kT s c) c i) (iI hi);rw [(dO iL).2] at h;refine ⟨?_,?_⟩
 ·unfold bZ;rw [h,Int.toNat_natCast];rfl
 ·unfold bZ;rw [h,Int.toNat_natCast]
theorem lh (hv:dm s m L=true) (hc:c<s.length):dm (oI s c) (ka s m c) L=true:=by
 have v:=jC hv;obtain ⟨hd,dT⟩:=QF hv;have hs:=v.sg c hc;have hS:=hd.E1.1 dT;have hk:4-kT s c=1\/4-kT s c=3:=by have:=iL (s:=s) (c:=c);omega
 have eo: ∀x,x<4*s.length->bZ m x<4*s.length:=fun x hx=>hd.jo.lt x hx;have eZ: ∀x,x<4*s.length->bZ (ka s m c) x<4*s.length:=fun x hx=>by rw [(wi v hc hx).1];exact iI (eo _ (iI hx))
 have LN:ow (4*s.length) ed (bZ (ka s m c)):=by
  refine hS.vV (io:=tw (4-kT s c) c) (fun x hx=>iI hx) (fun x y hx hy e=>QE hk e) (fun x hx=>(qu s.length).lt x hx) eZ (fun x hx=>A8 x hk) (fun x hx=>?_);rw [(wi v hc hx).1,(dO iL).1]
 have fB:(ka s m c).length=4*s.length:=by rw [oJ];exact v.len
 have hD:kk (ka s m c) s.length:=by
  refine ⟨⟨⟨fB,fun i hi=>?_⟩,fun x hx=>?_⟩,fun x hx e=>?_⟩
  ·have h1:=(wi v hc hi).2;have h2:=eZ i hi;omega
  ·have h1:=wi v hc hx;have h2:=LN.jo.inv x hx;have h3:=wi v hc (eZ x hx);rw [h2] at h3;rw [←h1.2,Int.toNat_natCast,←h3.2]
  ·have h1:=wi v hc hx;exact LN.jo.ne x hx (by omega)
 rw [H5];unfold zX;rw [jk,Bool.and_eq_true];refine ⟨?_,hD.E1.2 LN⟩;unfold sT;rw [decide_eq_true_iff,jk];refine ⟨v.s64,fB,v.l0,v.y7,fun i hi=>?_,fun h hh=>?_⟩
 ·rw [ln hi]
  have:=v.sg i hi
  split<;>omega
 ·have p1:=hD.dd.ok.2 h hh;refine ⟨p1.1,by rw [jk];exact p1.2,hD.ne h hh,hD.dd.inv h hh,?_⟩;have q:=wi v hc hh;obtain ⟨y,hy⟩: ∃y,y=tw (4-kT s c) c h:=⟨_,rfl⟩;have kU:y<4*s.length:=by rw [hy];exact iI hh
  have e:h=tw (kT s c) c y:=by rw [hy,(dO iL).2]
  rw [←hy] at q;have aw:=(v.mt y kU).2.2.2.2;rw [←q.2,q.1,e,Ms hs hc kU,Ms hs hc (eo y kU)];rw [hd.cast kU];exact aw
end
end Sp
namespace Sp
section
variable {s m:List Int} {L:Int} {n c k:Nat}
end
end Sp
namespace Sp
end Sp
namespace Sp
section
variable {s m:List Int} {L:Int} {n c k:Nat}
theorem Mr {b:Bool}: ∀k,k<=4-> ∀x,gX m b 0 k x=false
 |0,_,_=>rfl
 |k+1,hk,x=>by simp only [gX];rw [if_pos (by omega)];exact Mr k (by omega) x
theorem tX {b:Bool}:1<=jl m b 0 1:=by
 unfold jl;simp only [Nat.mul_one];rw [Mr 4 (Nat.le_refl _)];simp only [Bool.false_eq_true,if_false]
 split<;>omega
end
end Sp
namespace Sp
section
variable {s m:List Int} {L:Int} {n c k:Nat}
end
end Sp
namespace Sp
section
variable {s s1 s2 m m1 m2:List Int} {L L1 L2:Int} {n c k:Nat}
variable {col:Nat->Bool} {LA LB:Int}
end
end Sp
theorem Wr (b:Bool) (x:Int) (n:Nat):aB b (x+4*n)=aB b x+4*n:=by
 unfold aB;rw [ox,nS,ox,nS,show (x+4*(n:Int))% 2=x % 2 by omega]
 split<;>omega
section
variable {m1 m2:List Int} {n1 n2:Nat}
end
section
variable {m1 m2:List Int} {n1 n2 L1 L2:Nat}
theorem IZ {m:List Int} {n L:Nat} (hp:bd m n) (h0: ¬(n=0/\L=0)) (k:Nat):1<=cN m n L k:=by
 unfold cN;by_cases hn:0<n
 ·have:=EF hp (da k) hn;omega
 ·omega
end
open Go Go.RowKit
set_option maxRecDepth 100000
set_option maxHeartbeats 8000000
theorem ud {a:Int} (h:a≠0): ∀k:Nat,a^k≠0
 |0=>by rw [Int.pow_zero];decide
 |k+1=>by rw [Int.pow_succ];exact Int.mul_ne_zero (ud h k) h
theorem Mq {m:List Int} {n L:Nat} (hp:bd m n) (hs:n<=9) (hL:L<=20):bH (ld m n L) (bA m n L 1):=sX fun e he=>tH hp hs hL (by omega) he
theorem JZ {m:List Int} {n L:Nat} (hp:bd m n) (hm:m.length=4*n) (h0: ¬(n=0/\L=0)) (hs:n<=9) (hL:L<=20):0<(ld m n L).length:=by
 have hP:=Mq hp hs hL;have dh:evL (ld m n L)≠0:=by
  rw [←Mw 1000 (ld m n L) fun t ht=>tH hp hs hL (j:=1) (by omega) (hP.mem ht).2,show cfL (ld m n L)=bA m n L 1 from funext hP.cf];have h1:=J1 (K:=2^n) (c:=cN m n L) (w:=wB n) 1 1000 fun k _ hk=>by
   have a:=Qk hp (L:=L) k;have b:=MS k n;unfold wB;omega
  have h2:qO (bA m n L 1) 1000=sm (fun k=>(-2:Int)^(cN m n L k-1)) (2^n):=Eq.trans h1 (iQ fun k _=>by rw [if_pos (IZ hp h0 k)]);rw [h2];by_cases hn:0<n
  ·rw [I0 hp hn L];exact Int.mul_ne_zero (ud (by decide) _) (ud (by decide) _)
  ·have jN:n=0:=by omega
   subst jN;simp only [Nat.pow_zero,sm];rw [show (0:Int)+(-2)^(cN m 0 L 0-1)=(-2)^(cN m 0 L 0-1) by omega];exact ud (by decide) _
 cases h:ld m n L with
 |nil=>rw [h] at dh;exact absurd rfl dh
 |cons t p=>simp
theorem zJ.XC {P:Program} {f:Nat} {args:List AV} {n t id:Nat} {l:List AV} (h:qg P f args (.agg [.bool false, .sl 2 id 0 n]) [(id, .cells t (.lst l))]) (hn:l.length=n*2) (hI: ∀x∈l,∃k,x=I k):zJ P f args (.agg [.bool false, .ro 2 n (.lst l)]):=by
 refine ⟨h.1,fun w Mx vs h1 h2 h3=>(h.2 w Mx vs h1 h2 h3).mono ?_⟩;rintro e w' ⟨v,ρ',rfl,hs,hv⟩;refine ⟨v,rfl,hs.below,?_⟩;have hr:=hs.objs id _ (show hget [(id,AObj.cells t (.lst l))] id=some (.cells t (.lst l)) by simp [hget]);have ho:=hs.own id _ (show hget [(id,AObj.cells t (.lst l))] id=some (.cells t (.lst l)) by simp [hget]) rfl;have aA:=hr.lt rfl;obtain ⟨g1,arr,g2,g3,g4⟩:=hr
 obtain ⟨x,k1,k2⟩:=Ik (My:=fun b=>b<w.heap.size) (ρ0:=ρ0) (c:= .lst l) (c':= .lst l) g1 g2 g3 rfl fun j hj=>by
  obtain ⟨u,q1,q2⟩:=g4 j hj;refine ⟨u,q1,?_⟩;have bY:j<l.length:=by simpa [Cs.len] using hj
  obtain ⟨k,hk⟩:=hI l[j] (List.getElem_mem bY);have e:(Cs.lst l).get j=I k:=by simp only [Cs.get,List.getD_eq_getElem?_getD,List.getElem?_eq_getElem bY,Option.getD_some,hk]
  rw [e] at q2⊢;cases q2;exact .int _ _
 cases hv with
 |agg vs xs hl hx=>
  refine .agg vs _ hl fun i v' x' hi iM=>?_
  match i,iM with
  |0,iM=>
   cases iM;have hv0:=hx 0 v' _ hi rfl;cases hv0;exact .bool _
  |1,iM=>
   cases iM;have hv0:=hx 1 v' _ hi rfl;cases hv0 with
   |sl _ _ _ _ cap hd hc aP t' ad ha hb iN=>
    refine .ro 2 n (.lst l) (some ad) cap x (by simp [Cs.len];omega) hc (by decide) (fun h0=>⟨ad,rfl,?_⟩) fun j hj=>k2 j (by simpa [Cs.len] using hj);have e:=ha (by omega);rw [show (ρ' id).add 0=ρ' id from rfl] at e;subst e;exact ⟨aA,fun hb=>by omega,fun j hj=>k1 j (by simpa [Cs.len] using hj)⟩
  |i+2,iM=>cases iM
theorem IY (low:Int) (cs:List Int) (hl: -1000000<=low/\low+cs.length<=1000000) (hn:cs.length<=100000) (hc: ∀c∈cs,-1125899906842624<=c/\c<=1125899906842624) (aw:tmI low cs≠[]):
  qg Tryz.prog 45 [I low,roI cs] (.agg [.bool false, .sl 2 3 0 (tmI low cs).length]) [(3, .cells 75 (.lst (dA (tmI low cs))))]:=by
 refine qg.intro [.cell 4 29] Tryz.func45 rfl rfl (by decide) (by simp [Tryz.ntmps45]) ?_;rw [Tryz.ntmps45]
 repeat' (first|omega|(try apply aj);simp only [go_sem,sevalprocAttr]|apply ag<;>(intro h_;(try simp only [h_]);revert h_)|apply ah|apply ai|apply ae|apply And.intro|with_reducible intro h_|trivial|simp only [go_sem,ak];omega)
 refine bN.intro (fun n fr H=> ∃k:Nat,k<=cs.length/\n=cs.length-k/\fr=[(10,I k),(9,I cs.length),(8,roI cs),(5, .ptr 1 0),(4, .ptr 0 0),(0,I low)]/\
  ((tmI low (cs.take k)=[]/\H=[(1, .cells 29 (.lst [.bool false, .nils])),(0, .cells 29 (.lst [.bool false, .nils]))])\/
   H=[(3, .cells 75 (.lst (dA (tmI low (cs.take k))))),(1, .cells 29 (.lst [.bool false, .sl 2 3 0 (tmI low (cs.take k)).length])),(0, .cells 29 (.lst [.bool false, .nils]))])) ?_ ?_
 ·refine ⟨_,_,_,?_,0,by omega,rfl,rfl, .inl ⟨by simp [tmI],rfl⟩⟩;refine Wk.sub ?_ ?_<;>simp only [go_sem,sevalprocAttr]
  all_goals simp_all
 rintro n fr H ⟨k,hk,rfl,rfl,eh⟩;have vG:=D8 low (cs.take k);rw [List.length_take] at vG;by_cases bJ:k<cs.length
 ·have E7:=hc (cs.getD k 0) (by simp [List.getD_eq_getElem?_getD,List.getElem?_eq_getElem bJ]);have eT:=Ey low (cs.take k) (cs.getD k 0);rw [←Ic bJ,List.length_take,show min k cs.length=k by omega] at eT;have mU:=tR (cs.getD k 0) 1125899906842624 (by omega) (by omega);have mi:=tR (low+k) 1048576 (by omega) (by omega);rw [Az (by omega) (by omega)] at mU mi
  have bl:decide (1048576<low)=false:=by simp;omega
  have hlen:=ybu (tmI low (cs.take k));by_cases iz:cs.getD k 0=0
  ·have bz:(cs.getD k 0==0)=true:=by simpa using iz
   rw [if_pos iz,List.append_nil] at eT;rcases eh with ⟨hn,rfl⟩|rfl
   ·repeat' (first|omega|(try apply aj);simp only [go_sem,sevalprocAttr,bz]|apply ag<;>(intro h_;(try simp only [h_]);revert h_)|apply ah|apply ai|apply ae|apply And.intro|with_reducible intro h_|trivial|simp only [go_sem,ak];omega)
    refine ⟨_,_,_,?_,?_,⟨k+1,by omega,rfl,rfl, .inl ⟨by rw [eT];exact hn,rfl⟩⟩⟩
    ·omega
    ·refine Wk.sub ?_ ?_<;>(simp only [go_sem,sevalprocAttr,yav])
     all_goals simp_all
   ·repeat' (first|omega|(try apply aj);simp only [go_sem,sevalprocAttr,bz]|apply ag<;>(intro h_;(try simp only [h_]);revert h_)|apply ah|apply ai|apply ae|apply And.intro|with_reducible intro h_|trivial|simp only [go_sem,ak];omega)
    refine ⟨_,_,_,?_,?_,⟨k+1,by omega,rfl,rfl, .inr rfl⟩⟩
    ·omega
    ·rw [eT];refine Wk.sub ?_ ?_<;>(simp only [go_sem,sevalprocAttr,yav])
     all_goals simp_all
  ·have bz:(cs.getD k 0==0)=false:=by rw [beq_eq_false_iff_ne];exact iz
   rw [if_neg iz] at eT;rcases eh with ⟨hn,rfl⟩|rfl
   ·rw [hn,List.nil_append] at eT
    repeat' (first|omega|(try apply aj);simp only [go_sem,sevalprocAttr,bz]|apply ag<;>(intro h_;(try simp only [h_]);revert h_)|apply ah|apply ai|apply ae|apply And.intro|with_reducible intro h_|trivial|simp only [go_sem,ak];omega)
    refine ⟨az.fn rfl mU ?_⟩
    repeat' (first|omega|(try apply aj);simp only [go_sem,sevalprocAttr,bl]|apply ag<;>(intro h_;(try simp only [h_]);revert h_)|apply ah|apply ai|apply ae|apply And.intro|with_reducible intro h_|trivial|simp only [go_sem,ak];omega)
    refine ⟨az.fn rfl mi ?_⟩
    repeat' (first|omega|(try apply aj);simp only [go_sem,sevalprocAttr]|apply ag<;>(intro h_;(try simp only [h_]);revert h_)|apply ah|apply ai|apply ae|apply And.intro|with_reducible intro h_|trivial|simp only [go_sem,ak];omega)
    refine ⟨_,_,_,?_,?_,⟨k+1,by omega,rfl,rfl, .inr rfl⟩⟩
    ·omega
    ·rw [eT];refine Wk.sub ?_ ?_<;>(simp only [go_sem,sevalprocAttr,yav])
     all_goals first|rfl|simp_all
   ·repeat' (first|omega|(try apply aj);simp only [go_sem,sevalprocAttr,bz]|apply ag<;>(intro h_;(try simp only [h_]);revert h_)|apply ah|apply ai|apply ae|apply And.intro|with_reducible intro h_|trivial|simp only [go_sem,ak];omega)
    refine ⟨az.fn rfl mU ?_⟩
    repeat' (first|omega|(try apply aj);simp only [go_sem,sevalprocAttr,bl]|apply ag<;>(intro h_;(try simp only [h_]);revert h_)|apply ah|apply ai|apply ae|apply And.intro|with_reducible intro h_|trivial|simp only [go_sem,ak];omega)
    refine ⟨az.fn rfl mi ?_⟩
    repeat' (first|omega|(try apply aj);simp only [go_sem,sevalprocAttr,hlen]|apply ag<;>(intro h_;(try simp only [h_]);revert h_)|apply ah|apply ai|apply ae|apply And.intro|with_reducible intro h_|trivial|simp only [go_sem,ak];omega)
    rw [yG];refine ⟨_,_,_,?_,?_,⟨k+1,by omega,rfl,rfl, .inr rfl⟩⟩
    ·omega
    ·rw [eT];refine Wk.sub ?_ ?_<;>(simp only [go_sem,sevalprocAttr,yav,List.length_append])
     all_goals simp_all
 ·obtain rfl:k=cs.length:=by omega
  rw [List.take_of_length_le (Nat.le_refl _)] at eh vG;rcases eh with ⟨hn,rfl⟩|rfl
  ·exact absurd hn aw
  ·have hlen:=ybu (tmI low cs)
   repeat' (first|omega|(try apply aj);simp only [go_sem,sevalprocAttr,yh7]|apply ag<;>(intro h_;(try simp only [h_]);revert h_)|apply ah|apply ai|apply ae|apply And.intro|with_reducible intro h_|trivial|simp only [go_sem,ak];omega)
end Go.Proofs.YtphjphpmfflfpaaGreatDoor
namespace Go.Proofs.YtphjphpmfflfpaaGreatDoor
section
variable {n:Nat} {mt jn mt':Int->Int} {x y:Int}
end
section
variable {m:List Int} {n:Nat}
end
namespace Sp
open Classical
section
variable {N:Nat} {si al jB:Nat->Nat}
end
end Sp
section
variable {s1 s2 m1 m2:List Int} {L1 L2:Int} {n1 n2:Nat}
end
open Go Go.RowKit
set_option maxRecDepth 100000
set_option maxHeartbeats 8000000
def shl (c k:Int) (p:List (Int×Int)):List (Int×Int):=p.map fun t=>(t.1-k,c*t.2)
theorem QR (c k:Int): ∀(p:List (Int×Int)) (e:Int),cfL (shl c k p) e=c*cfL p (e+k)
 |[],e=>by simp [shl,cfL]
 |t::p,e=>by
  have ih:=QR c k p e;rw [show shl c k (t::p)=(t.1-k,c*t.2)::shl c k p from rfl];simp only [cfL,ih];by_cases h:t.1=e+k
  ·rw [if_pos (by omega),if_pos h,Int.mul_add]
  ·rw [if_neg (by omega),if_neg h,Int.mul_add,Int.mul_zero]
theorem IX {c k:Int} (hc:c=1\/c= -1) {p p':List (Int×Int)} {f:Int->Int} (hp:bH p f) (df:bH p' (fun e=>c*f (e+k))):p'=shl c k p:=by
 refine bG.ext df.asc ⟨?_,fun t ht=>?_⟩ fun e=>by rw [df.cf,QR,hp.cf]
 ·unfold shl;rw [List.pairwise_map];exact hp.asc.asc.imp fun fh=>by show _<_;omega
 ·obtain ⟨u,hu,rfl⟩:=List.mem_map.1 ht
  have:=hp.asc.nz u hu
  show c*u.2≠0;rcases hc with rfl|rfl<;>omega
theorem GA (c k:Int) (p:List (Int×Int)):(shl c k p).length=p.length:=by simp [shl]
theorem IW (c k:Int) {p:List (Int×Int)} (h:0<p.length):aI (shl c k p)=aI p-k/\fm (shl c k p)=fm p-k:=by
 have key: ∀i,i<p.length->((shl c k p).getD i (0,0)).1=(p.getD i (0,0)).1-k:=fun i hi=>by simp [shl,List.getD_eq_getElem?_getD,hi]
 unfold aI fm;rw [GA];exact ⟨key 0 h,key _ (by omega)⟩
def rh (w:Int):Int:=if w % 2=0 then 1 else-1
theorem QQ (w:Int):rh w=1\/rh w= -1:=by unfold rh;split<;>simp
section
variable {m1 m2:List Int} {n1 n2 L1 L2:Nat} {w1 w2:Int}
end
end Go.Proofs.YtphjphpmfflfpaaGreatDoor
