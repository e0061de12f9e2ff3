/- Smoothing and switching keep a diagram valid; the resolution ends; its polynomial. -/
import Derived.Test.YtjpbeacamoijhaaGreatDoorSq
import Derived.Test.YtjpbeacamoijhaaGreatDoorZb
import Derived.Test.YtjpbeacamoijhaaGreatDoorZn
set_option linter.unusedSimpArgs false
set_option linter.unusedVariables false
namespace Go.Proofs.YtjpbeacamoijhaaGreatDoor
namespace Sp
section
variable {s m:List Int} {L:Int} {n c:Nat} {b:Bool}
theorem nQ {s:List Int} {c:Nat}: ∀k,(jb s c k).length=(if c<k then k-1 else k)/\ ∀x,x<(if c<k then k-1 else k)->(jb s c k).getD x 0=s.getD (if x<c then x else x+1) 0
 |0=>by simp [jb]
 |k+1=>by
  obtain ⟨h1,h2⟩:=nQ (s:=s) (c:=c) k;simp only [jb];by_cases e:k=c
  ·subst e;rw [if_pos rfl,if_pos (by omega)];rw [if_neg (by omega)] at h1 h2;refine ⟨by omega,fun x hx=>h2 x (by omega)⟩
  ·rw [if_neg e];by_cases hc:c<k
   ·rw [if_pos hc] at h1 h2;rw [if_pos (by omega)];refine ⟨by rw [List.length_append,h1];simp;omega,fun x hx=>?_⟩;by_cases gX:x<k-1
    ·rw [Jl _ _ _ (by omega)];exact h2 x gX
    ·obtain rfl:x=k-1:=by omega
     rw [Jk _ _ _ (by omega),h1,Nat.sub_self,if_neg (by omega),show k-1+1=k by omega];rfl
   ·rw [if_neg hc] at h1 h2;rw [if_neg (by omega)];refine ⟨by rw [List.length_append,h1];simp,fun x hx=>?_⟩;by_cases gX:x<k
    ·rw [Jl _ _ _ (by omega)];exact h2 x gX
    ·obtain rfl:x=k:=by omega
     rw [Jk _ _ _ (by omega),h1,Nat.sub_self,if_pos (by omega)];rfl
theorem qh {i:Nat} (hi:i/4≠c): ∀k,k<=m.length->i<k->(eJ m b c k).getD i 0=cW m b c 5 (m.getD i 0):=fun k=>by
 induction k with
 |zero=>intro _ h;omega
 |succ k ih=>
  intro hk ay;have hl:=Lo (m:=m) (b:=b) (c:=c) k;simp only [eJ];by_cases nG:k/4=c
  ·rw [if_pos nG]
   have:i≠k:=fun e=>hi (by rw [e];exact nG)
   exact ih (by omega) (by omega)
  ·rw [if_neg nG];by_cases e:k=i
   ·rw [←e,nr (by omega)]
   ·rw [ns e];exact ih (by omega) (by omega)
theorem qD (hv:bI s m L=true):oX m s.length/\qf m s.length=true:=by
 have v:=dr hv;refine ⟨⟨v.dB,fun x hx=>(v.mt x hx).2.2.1⟩,?_⟩;rw [Dk] at hv;unfold zU at hv;exact (Bool.and_eq_true _ _▸hv).2
theorem Z2 {x:Int} (hs:s.getD c 0=1\/s.getD c 0= -1) (hx:x/4=c):ak s (aF (s.getD c 0== -1) x)= !ak s x:=by
 have e:x=4*c\/x=4*c+1\/x=4*c+2\/x=4*c+3:=by omega
 have d0:(4*(c:Int))/4=c/\(4*(c:Int)+1)/4=c/\(4*(c:Int)+2)/4=c/\(4*(c:Int)+3)/4=c:=by omega
 have r0:(4*(c:Int))% 4=0/\(4*(c:Int)+1)% 4=1/\(4*(c:Int)+2)% 4=2/\(4*(c:Int)+3)% 4=3:=by omega
 obtain ⟨d1,d2,d3,d4⟩:=d0;obtain ⟨r1,r2,r3,r4⟩:=r0;rcases hs with hs|hs
 ·have hb:(s.getD c 0== -1)=false:=by rw [hs];decide
  rw [hb];obtain ⟨j1,j2,j3,j4⟩:=VM c;rcases e with rfl|rfl|rfl|rfl
  ·rw [j1];simp only [ak,d1,d2,r1,r2,Int.toNat_natCast,hs];decide
  ·rw [j2];simp only [ak,d1,d2,r1,r2,Int.toNat_natCast,hs];decide
  ·rw [j3];simp only [ak,d3,d4,r3,r4,Int.toNat_natCast,hs];decide
  ·rw [j4];simp only [ak,d3,d4,r3,r4,Int.toNat_natCast,hs];decide
 ·have hb:(s.getD c 0== -1)=true:=by rw [hs];decide
  rw [hb];obtain ⟨j1,j2,j3,j4⟩:=VL c;rcases e with rfl|rfl|rfl|rfl
  ·rw [j1];simp only [ak,d1,d4,r1,r4,Int.toNat_natCast,hs];decide
  ·rw [j2];simp only [ak,d2,d3,r2,r3,Int.toNat_natCast,hs];decide
  ·rw [j3];simp only [ak,d2,d3,r2,r3,Int.toNat_natCast,hs];decide
  ·rw [j4];simp only [ak,d1,d4,r1,r4,Int.toNat_natCast,hs];decide
theorem SG (v:jP s m L) (hc:c<s.length): ∀f x,aA s.length x->ak s (cW m (s.getD c 0== -1) c f x)=ak s x
 |0,x,_=>rfl
 |f+1,x,hx=>by
  unfold cW
  split
  ·rename_i e
   have hd:=qc (s.getD c 0== -1) x;have hr:aA s.length (aF (s.getD c 0== -1) x):=by unfold aA;omega
   rw [SG v hc f _ (v.dB.iV hr)];unfold aA at hr;have h1:=(v.mt (aF (s.getD c 0== -1) x).toNat (by omega)).2.2.2.2;rw [show (((aF (s.getD c 0== -1) x).toNat:Nat):Int)=aF (s.getD c 0== -1) x by omega,Z2 (v.sg c hc) e] at h1;cases h2:ak s x<;>cases h3:ak s (m.getD (aF (s.getD c 0== -1) x).toNat 0)<;>simp_all
  ·rfl
theorem Qy:0<=nt m b c n/\nt m b c n<=2:=by
 unfold nt;simp only;split<;>split<;>omega
theorem Qx (hc:c<s.length) {x y:Nat} (hx:x<4*(s.length-1)) (hy:y=if x/4<c then x else x+4):ak (jb s c s.length) x=ak s y:=by
 obtain ⟨_,h2⟩:=nQ (s:=s) (c:=c) s.length;rw [if_pos hc] at h2;have e1:((x:Int)/4).toNat=x/4:=by omega
 have e2:((y:Int)/4).toNat=if x/4<c then x/4 else x/4+1:=by rw [hy];split<;>omega
 have e3:(y:Int)% 4=(x:Int)% 4:=by rw [hy];split<;>omega
 unfold ak;rw [e1,e2,e3,h2 (x/4) (by omega)]
theorem YL (hv:bI s m L=true) (hc:c<s.length) (hL:gP s m c L<=64):bI (de s c) (en s m c) (gP s m c L)=true/\(de s c).length=s.length-1:=by
 have v:=dr hv;obtain ⟨hd,gS⟩:=qD hv;obtain ⟨Cg,NK⟩:=XX (b:=(s.getD c 0== -1)) hd hc gS;obtain ⟨w1,w2⟩:=nQ (s:=s) (c:=c) s.length;rw [if_pos hc] at w1 w2;obtain ⟨wl,wg⟩:=ll (E:=eJ m (s.getD c 0== -1) c (4*s.length)) (c:=c) s.length;rw [if_pos hc] at wl wg;have jY:(de s c).length=s.length-1:=w1;refine ⟨?_,jY⟩;rw [Dk];unfold zU;rw [jY,Bool.and_eq_true];refine ⟨?_,NK⟩
 unfold sK;rw [decide_eq_true_iff,jY];have yC:=v.s64;have tZ:=Qy (m:=m) (b:=(s.getD c 0== -1)) (c:=c) (n:=s.length);have AH:=v.l0;refine ⟨by omega,wl,by unfold gP;omega,hL,fun i hi=>?_,fun h hh=>?_⟩
 ·unfold de;rw [w2 i hi];exact v.sg _ (by split<;>omega)
 ·have p1:=Cg.dB.ok.2 h hh;have p2:=Cg.dB.inv h hh;have p3:=Cg.ne h hh;refine ⟨p1.1,by rw [jY];exact p1.2,p3,p2,?_⟩;obtain ⟨y,hy⟩: ∃y,y=if h/4<c then h else h+4:=⟨_,rfl⟩;have Av:y<4*s.length/\y/4≠c:=by rw [hy];split<;>omega
  unfold de;rw [Qx hc hh hy];have e1:(en s m c).getD h 0=c6 (eJ m (s.getD c 0== -1) c (4*s.length)) c y:=by unfold en;rw [wg h hh,hy]
  have iX:=v.len;have e2:(eJ m (s.getD c 0== -1) c (4*s.length)).getD y 0=cW m (s.getD c 0== -1) c 5 (m.getD y 0):=qh Av.2 _ (by omega) Av.1;have lO:=Dj (b:=(s.getD c 0== -1)) v.dB hc Av.1 Av.2;have V9:aA s.length (m.getD y 0):=by have:=v.dB.ok.2 y Av.1;unfold aA;omega
  have BU:=LR (b:=(s.getD c 0== -1)) v.dB hc 5 _ V9;have ho:=SG v hc 5 _ V9;have ax:=(v.mt y Av.1).2.2.2.2;have p1':(0:Int)<=(en s m c).getD h 0/\(en s m c).getD h 0<4*((s.length-1:Nat):Int):=p1;unfold c6 at e1;rw [e2] at e1;generalize cW m (s.getD c 0== -1) c 5 (m.getD y 0)=z at*;unfold aA at BU;obtain ⟨z,rfl⟩: ∃q:Nat,z=q:=⟨z.toNat,by omega⟩
  obtain ⟨q,hq⟩: ∃q:Nat,(en s m c).getD h 0=q:=⟨((en s m c).getD h 0).toNat,by omega⟩;rw [hq,Qx (y:=z) hc (by omega) (by rw [hq] at e1;split at e1<;>split<;>omega),ho];exact ax
end
end Sp
namespace Sp
section
variable {s m:List Int} {L:Int} {n c k:Nat}
def tw (k c x:Nat):Nat:=if x/4=c then x-x % 4+(x % 4+k)% 4 else x
theorem HU (k c x:Nat):tw k c x/4=x/4:=by unfold tw;split<;>omega
theorem j9 {x:Nat} (hx:x<4*n):tw k c x<4*n:=by have:=HU k c x;omega
theorem vW {x:Nat} (h:x/4≠c):tw k c x=x:=by unfold tw;rw [if_neg h]
theorem jQ {x:Nat} (hk:k=1\/k=3):tw (4-k) c (tw k c x)=x/\tw k c (tw (4-k) c x)=x:=by
 by_cases h:x/4=c
 ·unfold tw;simp only [h,if_true];rw [if_pos (by omega),if_pos (by omega)];rcases hk with rfl|rfl<;>omega
 ·rw [vW h,vW h,vW h];exact ⟨rfl,rfl⟩
theorem HT {x y:Nat} (hk:k=1\/k=3) (e:tw k c x=tw k c y):x=y:=by
 rw [←(jQ (c:=c) (x:=x) hk).1,e,(jQ hk).1]
theorem E4 (x:Nat) (hk:k=1\/k=3):tw k c (aV x)=aV (tw k c x):=by
 by_cases h:x/4=c
 ·have h1:=jS x;have h2:=HU k c x;unfold tw aV;rw [if_pos (by unfold aV at h1;omega),if_pos h];rcases hk with rfl|rfl<;>omega
 ·rw [vW h,vW (by rw [jS];exact h)]
theorem Ue (hs:s.getD c 0=1\/s.getD c 0= -1) (x:Nat):cd x (rP s (· ==(c:Int)) ((x:Int)/4))=(tw (if s.getD c 0=1 then 1 else 3) c x:Nat):=by
 by_cases h:x/4=c
 ·have e:((x:Int)/4==(c:Int))=true:=by simp;omega
  have e2:((x:Int)/4).toNat=c:=by omega
  unfold rP tw;rw [if_pos e,e2,if_pos h]
  split
  ·unfold cd;rw [show Int.tmod (-3) 4= -3 by decide];omega
  ·unfold cd;rw [show Int.tmod (-1) 4= -1 by decide];omega
 ·have e:((x:Int)/4==(c:Int))=false:=by simp;omega
  unfold rP;rw [if_neg (fun e'=>by have:=e.symm.trans e';cases this),vW h];unfold cd;rw [show Int.tmod 0 4=0 by decide];omega
theorem ql {to:Int->Int} {t:Nat->Nat} (ht: ∀x:Nat,to x=t x) (hi: ∀x y,t x=t y->x=y) (hl: ∀x,x<m.length->t x<m.length): ∀k,k<=m.length-> ∀i,i<k->(jw m to k).getD (t i) 0=to (m.getD i 0)
 |0,_,i,h=>by omega
 |k+1,hk,i,h=>by
  have hlen:=Et m to k;simp only [jw];rw [ht k,Int.toNat_natCast];by_cases e:i=k
  ·subst e;rw [nr (by rw [hlen];exact hl i (by omega))]
  ·rw [ns (fun e'=>e (hi _ _ e').symm)];exact ql ht hi hl k (by omega) i (by omega)
theorem lB {i:Nat} (hi:i<s.length):(jR s c).getD i 0=if i=c then-s.getD i 0 else s.getD i 0:=by
 unfold jR ni gU;rw [List.getD_eq_getElem?_getD,List.getElem?_map,List.getElem?_range hi];simp only [Option.map_some,Option.getD_some,rO];by_cases e:i=c
 ·subst e;simp
 ·have: ¬((i:Int)==(c:Int))=true:=by simp;omega
  rw [if_neg this,if_neg e];simp
theorem dA:(jR s c).length=s.length:=by unfold jR ni;rw [sd]
def kT (s:List Int) (c:Nat):Nat:=if s.getD c 0=1 then 1 else 3
theorem eO:kT s c=1\/kT s c=3:=by unfold kT;split<;>simp
theorem Qw (v:jP s m L) (hc:c<s.length) {i:Nat} (hi:i<4*s.length):(jc s m c).getD (tw (kT s c) c i) 0=(tw (kT s c) c (aZ m i):Nat):=by
 have hs:=v.sg c hc;have iX:=v.len;unfold jc td;rw [ql (t:=tw (kT s c) c) (fun x=>Ue hs x) (fun x y e=>HT eO e) (fun x hx=>by rw [iX] at hx⊢;exact j9 hx) m.length (Nat.le_refl _) i (by omega)];have h0:=(v.mt i hi).1;have e:m.getD i 0=((aZ m i:Nat):Int):=by unfold aZ;omega
 rw [e];exact Ue hs _
theorem Qv:(jc s m c).length=m.length:=Et _ _ _
theorem nR (hs:s.getD c 0=1\/s.getD c 0= -1) (hc:c<s.length) {x:Nat} (hx:x<4*s.length):ak (jR s c) (tw (kT s c) c x)=ak s x:=by
 have hd:=HU (kT s c) c x;have e1:(((tw (kT s c) c x:Nat):Int)/4).toNat=x/4:=by omega
 have e2:((x:Int)/4).toNat=x/4:=by omega
 unfold ak;rw [e1,e2,lB (by omega)];by_cases h:x/4=c
 ·rw [if_pos h,h];have r:x % 4=0\/x % 4=1\/x % 4=2\/x % 4=3:=by omega
  rcases hs with hs|hs
  ·have hk:kT s c=1:=by unfold kT;rw [if_pos hs]
   rw [hk,hs];rcases r with r|r|r|r
   ·rw [show (x:Int)% 4=0 by omega,show ((tw 1 c x:Nat):Int)% 4=1 by unfold tw;rw [if_pos h];omega];decide
   ·rw [show (x:Int)% 4=1 by omega,show ((tw 1 c x:Nat):Int)% 4=2 by unfold tw;rw [if_pos h];omega];decide
   ·rw [show (x:Int)% 4=2 by omega,show ((tw 1 c x:Nat):Int)% 4=3 by unfold tw;rw [if_pos h];omega];decide
   ·rw [show (x:Int)% 4=3 by omega,show ((tw 1 c x:Nat):Int)% 4=0 by unfold tw;rw [if_pos h];omega];decide
  ·have hk:kT s c=3:=by unfold kT;rw [if_neg (by omega)]
   rw [hk,hs];rcases r with r|r|r|r
   ·rw [show (x:Int)% 4=0 by omega,show ((tw 3 c x:Nat):Int)% 4=3 by unfold tw;rw [if_pos h];omega];decide
   ·rw [show (x:Int)% 4=1 by omega,show ((tw 3 c x:Nat):Int)% 4=0 by unfold tw;rw [if_pos h];omega];decide
   ·rw [show (x:Int)% 4=2 by omega,show ((tw 3 c x:Nat):Int)% 4=1 by unfold tw;rw [if_pos h];omega];decide
   ·rw [show (x:Int)% 4=3 by omega,show ((tw 3 c x:Nat):Int)% 4=2 by unfold tw;rw [if_pos h];omega];decide
 ·rw [if_neg h,vW h]
theorem ju (v:jP s m L) (hc:c<s.length) {i:Nat} (hi:i<4*s.length):aZ (jc s m c) i=tw (kT s c) c (aZ m (tw (4-kT s c) c i))/\((aZ (jc s m c) i:Nat):Int)=(jc s m c).getD i 0:=by
 have h:=Qw v hc (i:=tw (4-kT s c) c i) (j9 hi);rw [(jQ eO).2] at h;refine ⟨?_,?_⟩
 ·unfold aZ;rw [h,Int.toNat_natCast];rfl
 ·unfold aZ;rw [h,Int.toNat_natCast]
theorem iH (hv:bI s m L=true) (hc:c<s.length):bI (jR s c) (jc s m c) L=true:=by
 have v:=dr hv;obtain ⟨hd,gS⟩:=qD hv;have hs:=v.sg c hc;have hS:=hd.vB.1 gS;have hk:4-kT s c=1\/4-kT s c=3:=by have:=eO (s:=s) (c:=c);omega
 have bZ: ∀x,x<4*s.length->aZ m x<4*s.length:=fun x hx=>hd.ki.lt x hx;have dR: ∀x,x<4*s.length->aZ (jc s m c) x<4*s.length:=fun x hx=>by rw [(ju v hc hx).1];exact j9 (bZ _ (j9 hx))
 have zx:eY (4*s.length) aV (aZ (jc s m c)):=by
  refine hS.um (io:=tw (4-kT s c) c) (fun x hx=>j9 hx) (fun x y hx hy e=>HT hk e) (fun x hx=>(bM s.length).lt x hx) dR (fun x hx=>E4 x hk) (fun x hx=>?_);rw [(ju v hc hx).1,(jQ eO).1]
 have iX:(jc s m c).length=4*s.length:=by rw [Qv];exact v.len
 have hD:oX (jc s m c) s.length:=by
  refine ⟨⟨⟨iX,fun i hi=>?_⟩,fun x hx=>?_⟩,fun x hx e=>?_⟩
  ·have h1:=(ju v hc hi).2;have h2:=dR i hi;omega
  ·have h1:=ju v hc hx;have h2:=zx.ki.inv x hx;have h3:=ju v hc (dR x hx);rw [h2] at h3;rw [←h1.2,Int.toNat_natCast,←h3.2]
  ·have h1:=ju v hc hx;exact zx.ki.ne x hx (by omega)
 rw [Dk];unfold zU;rw [dA,Bool.and_eq_true];refine ⟨?_,hD.vB.2 zx⟩;unfold sK;rw [decide_eq_true_iff,dA];refine ⟨v.s64,iX,v.l0,v.l64,fun i hi=>?_,fun h hh=>?_⟩
 ·rw [lB hi]
  have:=v.sg i hi
  split<;>omega
 ·have p1:=hD.dB.ok.2 h hh;refine ⟨p1.1,by rw [dA];exact p1.2,hD.ne h hh,hD.dB.inv h hh,?_⟩;have q:=ju v hc hh;obtain ⟨y,hy⟩: ∃y,y=tw (4-kT s c) c h:=⟨_,rfl⟩;have pW:y<4*s.length:=by rw [hy];exact j9 hh
  have e:h=tw (kT s c) c y:=by rw [hy,(jQ eO).2]
  rw [←hy] at q;have ax:=(v.mt y pW).2.2.2.2;rw [←q.2,q.1,e,nR hs hc pW,nR hs hc (bZ y pW)];rw [hd.cast pW];exact ax
end
end Sp
namespace Sp
section
variable {s m:List Int} {L:Int} {n c k:Nat}
def tI (k c:Nat) (x:Int):Int:=(tw k c x.toNat:Nat)
theorem KM (x:Nat):tI k c x=(tw k c x:Nat):=by unfold tI;rw [Int.toNat_natCast]
def we (y:Nat):Nat:=y-y % 4+(y % 4+2)% 4
theorem Vc (y:Nat):cd y 2=(we y:Nat):=by unfold cd we;rw [show Int.tmod 2 4=2 by decide];omega
theorem Fz (y:Nat) (hk:k=1\/k=3):we (tw k c y)=tw k c (we y):=by
 by_cases h:y/4=c
 ·unfold tw we;rw [if_pos h,if_pos (by omega)];rcases hk with rfl|rfl<;>omega
 ·rw [vW h,vW (by unfold we;omega)]
theorem lC (v:jP s m L) {g:Nat} (hg:g<4*s.length):aK m g=(we (aZ m g):Nat)/\we (aZ m g)<4*s.length:=by
 have h:=v.mt g hg;have e:m.getD g 0=((aZ m g:Nat):Int):=by unfold aZ;omega
 refine ⟨?_,by unfold we aZ;omega⟩;unfold aK;rw [Int.toNat_natCast,e,Vc]
theorem Vb (v:jP s m L) (hc:c<s.length) {g:Nat} (hg:g<4*s.length):aK (jc s m c) (tw (kT s c) c g:Nat)=(tw (kT s c) c (we (aZ m g)):Nat):=by
 unfold aK;rw [Int.toNat_natCast,Qw v hc hg,Vc,Fz _ eO]
theorem Qu (v:jP s m L) (hc:c<s.length) (x:Nat): ∀(f g:Nat),g<4*s.length->gV (aK (jc s m c)) (tw (kT s c) c x:Nat) f (tw (kT s c) c g:Nat)=(gV (aK m) x f g).map (tI (kT s c) c)
 |0,_,_=>rfl
 |f+1,g,hg=>by
  unfold gV;by_cases e:g=x
  ·subst e;rw [if_pos rfl,if_pos rfl];rfl
  ·have ne: ¬((tw (kT s c) c g:Nat):Int)=(tw (kT s c) c x:Nat):=fun e'=>e (HT (c:=c) (eO (s:=s) (c:=c)) (by omega));rw [if_neg ne,if_neg (by omega),Vb v hc hg,(lC v hg).1,Qu v hc x f _ (lC v hg).2,List.map_cons,KM]
theorem Z1 (v:jP s m L) (hc:c<s.length) {x:Nat} (hx:x<4*s.length) (f:Nat):af (aK (jc s m c)) f (tw (kT s c) c x:Nat)=(af (aK m) f x).map (tI (kT s c) c):=by
 unfold af;rw [Vb v hc hx,Qu v hc x f _ (lC v hx).2,(lC v hx).1,List.map_cons,KM]
structure vd (N k c:Nat) (st st':List (List Int)×List Bool):Prop where
 fst:st'.1=st.1.map (List.map (tI k c))
 len:st.2.length=N
 len':st'.2.length=N
 get: ∀y,y<N->st'.2.getD (tw k c y) false=st.2.getD y false
theorem vd.step {want Al:Int->Bool} {orb Fy:Int->List Int} {st st':List (List Int)×List Bool} (h:vd (4*n) k c st st') (hk:k=1\/k=3) {x:Nat} (hx:x<4*n) (hw:Al (tw k c x:Nat)=want x)
  (ho:Fy (tw k c x:Nat)=(orb x).map (tI k c)) (hr: ∀g∈orb x,0<=g/\g<4*n):vd (4*n) k c (jg want orb x st) (jg Al Fy (tw k c x) st'):=by
 unfold jg;rw [h.get x hx,hw]
 split
 ·exact h
 ·refine ⟨?_,?_,?_,fun y hy=>?_⟩
  ·simp only [h.fst,ho,List.map_append,List.map_cons,List.map_nil]
  ·simp only;rw [EE];exact h.len
  ·simp only;rw [EE];exact h.len'
  ·simp only;rw [ho,Dr _ _ _ (fun g hg=>?_),Dr _ _ _ (fun g hg=>by have:=hr g hg;rw [h.len];omega),h.get y hy]
   ·congr 1
    have:((tw k c y:Nat):Int)∈(orb x).map (tI k c)↔(y:Int)∈orb x:=by
     rw [List.mem_map];constructor
     ·rintro ⟨g,hg,e⟩
      have:=hr g hg
      unfold tI at e;have e2:=HT (c:=c) (x:=g.toNat) (y:=y) hk (Int.ofNat.inj e);rw [←e2,show ((g.toNat:Nat):Int)=g by omega];exact hg
     ·intro hg;exact ⟨_,hg,KM y⟩
    exact decide_eq_decide.2 this
   ·obtain ⟨z,hz,rfl⟩:=List.mem_map.1 hg
    have:=hr z hz
    have h2:=j9 (k:=k) (c:=c) (x:=z.toNat) (n:=n) (by omega);rw [h.len'];unfold tI;omega
theorem zY {want:Int->Bool} {orb:Int->List Int} {st:List (List Int)×List Bool} {x:Nat} (h:want x=false):jg want orb x st=st:=by
 unfold jg;rw [h];simp
theorem Va (v:jP s m L) (hc:c<s.length): ∀q,q<=s.length->vd (4*s.length) (kT s c) c (aL (4*s.length) (ak s) (af (aK m) (4*s.length)) (4*q)) (aL (4*s.length) (ak (jR s c)) (af (aK (jc s m c)) (4*s.length)) (4*q))
 |0,_=>⟨by simp [aL],by simp [aL],by simp [aL],fun y hy=>by
  have:=j9 (k:=kT s c) (c:=c) hy
  simp only [aL,Nat.mul_zero];rw [List.getD_eq_getElem?_getD,List.getD_eq_getElem?_getD,List.getElem?_replicate,List.getElem?_replicate,if_pos hy,if_pos this]⟩
 |q+1,hq=>by
  have ih:=Va v hc q (by omega);have hs:=v.sg c hc
  have rb: ∀{st st':List (List Int)×List Bool} (x:Nat),x<4*s.length->vd (4*s.length) (kT s c) c st st'->vd (4*s.length) (kT s c) c (jg (ak s) (af (aK m) (4*s.length)) x st) (jg (ak (jR s c)) (af (aK (jc s m c)) (4*s.length)) (tw (kT s c) c x) st'):=fun {st st'} x hx h=>
   h.step eO hx (nR hs hc hx) (Z1 v hc hx _) (fun g hg=>by
    have hR:aA s.length (x:Int):=by unfold aA;omega
    have:=(Ac (Ai v.dB) hR).2.1 g hg
    unfold aA at this;omega)
  simp only [show 4*(q+1)=4*q+1+1+1+1 by omega,aL];generalize aL (4*s.length) (ak s) (af (aK m) (4*s.length)) (4*q)=st at*;generalize aL (4*s.length) (ak (jR s c)) (af (aK (jc s m c)) (4*s.length)) (4*q)=st' at*;by_cases e:q=c
  ·subst e;have d:(4*(q:Int))/4=q/\(4*(q:Int)+1)/4=q/\(4*(q:Int)+2)/4=q/\(4*(q:Int)+3)/4=q:=by omega
   have r:(4*(q:Int))% 4=0/\(4*(q:Int)+1)% 4=1/\(4*(q:Int)+2)% 4=2/\(4*(q:Int)+3)% 4=3:=by omega
   have o0: ∀t:List Int,ak t ((4*q:Nat):Int)=false:=fun t=>by
    unfold ak;rw [show (((4*q:Nat):Int))% 4=0 by omega];simp
   rcases hs with hs|hs
   ·have hk:kT s q=1:=by unfold kT;rw [if_pos hs]
    have o3:ak s ((4*q+1+1+1:Nat):Int)=false:=by
     unfold ak;rw [show (((4*q+1+1+1:Nat):Int))% 4=3 by omega,show ((((4*q+1+1+1:Nat):Int))/4).toNat=q by omega,hs];decide
    have o1:ak (jR s q) ((4*q+1:Nat):Int)=false:=by
     unfold ak;rw [show (((4*q+1:Nat):Int))% 4=1 by omega,show ((((4*q+1:Nat):Int))/4).toNat=q by omega,lB hc,if_pos (show q=q from rfl),hs];decide
    rw [zY o3,zY (o0 s),zY o1,zY (o0 _)];have h1:=rb (4*q+1) (by omega) ih;rw [show tw (kT s q) q (4*q+1)=4*q+1+1 by rw [hk];unfold tw;rw [if_pos (by omega)];omega] at h1;have h2:=rb (4*q+1+1) (by omega) h1;rw [show tw (kT s q) q (4*q+1+1)=4*q+1+1+1 by rw [hk];unfold tw;rw [if_pos (by omega)];omega] at h2;exact h2
   ·have hk:kT s q=3:=by unfold kT;rw [if_neg (by omega)]
    have o1:ak s ((4*q+1:Nat):Int)=false:=by
     unfold ak;rw [show (((4*q+1:Nat):Int))% 4=1 by omega,show ((((4*q+1:Nat):Int))/4).toNat=q by omega,hs];decide
    have o3:ak (jR s q) ((4*q+1+1+1:Nat):Int)=false:=by
     unfold ak;rw [show (((4*q+1+1+1:Nat):Int))% 4=3 by omega,show ((((4*q+1+1+1:Nat):Int))/4).toNat=q by omega,lB hc,if_pos (show q=q from rfl),hs];decide
    rw [zY o3,zY (o0 s),zY o1,zY (o0 _)];have h1:=rb (4*q+1+1) (by omega) ih;rw [show tw (kT s q) q (4*q+1+1)=4*q+1 by rw [hk];unfold tw;rw [if_pos (by omega)];omega] at h1;have h2:=rb (4*q+1+1+1) (by omega) h1;rw [show tw (kT s q) q (4*q+1+1+1)=4*q+1+1 by rw [hk];unfold tw;rw [if_pos (by omega)];omega] at h2;exact h2
  ·have t0: ∀x:Nat,x/4=q->tw (kT s c) c x=x:=fun x hx=>vW (by omega);have h1:=rb (4*q) (by omega) ih;rw [t0 _ (by omega)] at h1;have h2:=rb (4*q+1) (by omega) h1;rw [t0 _ (by omega)] at h2;have h3:=rb (4*q+1+1) (by omega) h2;rw [t0 _ (by omega)] at h3;have h4:=rb (4*q+1+1+1) (by omega) h3;rw [t0 _ (by omega)] at h4;exact h4
theorem XV (hv:bI s m L=true) (hc:c<s.length):dt (jR s c) (jc s m c)=(dt s m).map (List.map (tI (kT s c) c)):=by
 have v:=dr hv;unfold dt;rw [Qv,v.len];exact (Va v hc s.length (Nat.le_refl _)).fst
end
end Sp
namespace Sp
end Sp
namespace Sp
section
variable {s m:List Int} {L:Int} {n c k:Nat}
theorem RQ: ∀(l r:List Int) (v:List Bool),dy v (l++r)=match dy v l with
  |(some c,v')=>(some c,v')
  |(none,v')=>dy v' r
 |[],r,v=>rfl
 |h::l,r,v=>by
  simp only [List.cons_append,dy];by_cases e:v.getD (h/4).toNat false=false/\h % 2=0
  ·rw [if_pos e,if_pos e]
  ·rw [if_neg e,if_neg e];exact RQ l r _
theorem Td: ∀(ls:List (List Int)) (v:List Bool),tJ v ls=(dy v ls.flatten).1
 |[],v=>rfl
 |l::ls,v=>by
  simp only [tJ,List.flatten_cons];rw [RQ]
  split
  ·rename_i e;rw [e]
  ·rename_i v' e;rw [e];exact Td ls v'
def bcN (v:List Bool):List Int->Nat
 |[]=>0
 |h::t=>(if v.getD (h/4).toNat false=false/\h % 2=0 then 1 else 0)+bcN (v.set (h/4).toNat true) t
theorem RP {v:List Bool} {i j:Nat} (h:v.getD i false=true):(v.set j true).getD i false=true:=by
 by_cases e:j=i
 ·subst e
  have:j<v.length:=Classical.byContradiction fun h'=>by rw [List.getD_eq_getElem?_getD,List.getElem?_eq_none (by omega)] at h;cases h
  exact nr this
 ·rw [ns e];exact h
theorem U9 (x:Int) (h:0<=x):tI k c x/4=x/4:=by
 unfold tI;have:=HU k c x.toNat;omega
theorem U8 (x:Int) (h:0<=x) (hx:x/4≠c):tI k c x=x:=by
 unfold tI;rw [vW (by omega)];omega
theorem Zu (x:Int) (h:0<=x) (hx:x/4=c) (hk:k=1\/k=3):tI k c x % 2≠x % 2:=by
 unfold tI tw;rw [if_pos (by omega)];rcases hk with rfl|rfl<;>omega
theorem RO: ∀(l:List Int) (v:List Bool),v.getD c false=true->(∀x∈l,0<=x)->bcN v (l.map (tI k c))=bcN v l
 |[],_,_,_=>rfl
 |h::l,v,hv,hl=>by
  have h0:=hl h List.mem_cons_self;simp only [List.map_cons,bcN];rw [U9 h h0,RO l _ (RP hv) (fun x hx=>hl x (List.mem_cons_of_mem _ hx))];by_cases e:h/4=c
  ·rw [e,Int.toNat_natCast,hv,if_neg (fun h=>by cases h.1),if_neg (fun h=>by cases h.1)]
  ·rw [U8 h h0 e]
theorem SF: ∀(l:List Int) (v:List Bool),v.getD c false=true->(∀x∈l,0<=x)->(dy v l).1≠some (c:Int)
 |[],_,_,_=>by simp [dy]
 |h::l,v,hv,hl=>by
  have h0:=hl h List.mem_cons_self;simp only [dy]
  split
  ·rename_i e
   intro e';have e2:h/4=(c:Int):=Option.some.inj e';rw [e2,Int.toNat_natCast,hv] at e;cases e.1
  ·exact SF l _ (RP hv) (fun x hx=>hl x (List.mem_cons_of_mem _ hx))
theorem U7 (hk:k=1\/k=3): ∀(l:List Int) (v:List Bool),(∀x∈l,0<=x/\x<4*v.length)->(dy v l).1=some (c:Int)->bcN v (l.map (tI k c))+1=bcN v l
 |[],v,_,h=>by simp [dy] at h
 |h::l,v,hl,hb=>by
  have h0:=hl h List.mem_cons_self;have ox: ∀x∈l,0<=x/\x<4*(v.set (h/4).toNat true).length:=fun x hx=>by rw [List.length_set];exact hl x (List.mem_cons_of_mem _ hx)
  simp only [dy] at hb;simp only [List.map_cons,bcN];rw [U9 h h0.1];have hset:(v.set (h/4).toNat true).getD (h/4).toNat false=true:=nr (by omega)
  split at hb
  ·rename_i e
   have e2:h/4=(c:Int):=Option.some.inj hb;have hp:=Zu (c:=c) h h0.1 e2 hk;rw [if_pos e,if_neg (fun e'=>by omega)];have h3:(h/4).toNat=c:=by omega
   rw [h3] at hset⊢;rw [RO l _ hset (fun x hx=>(ox x hx).1)];omega
  ·rename_i e
   by_cases e2:h/4=(c:Int)
   ·have h3:(h/4).toNat=c:=by omega
    rw [h3] at hset hb;exact absurd hb (SF l _ hset (fun x hx=>(ox x hx).1))
   ·rw [U8 h h0.1 e2]
    have:=U7 hk l _ ox hb
    omega
theorem y4i {v:List Bool} {i:Nat} (h:i<v.length) (hv:v.getD i false=true):v.set i true=v:=by
 apply List.ext_getElem (by simp);intro j h1 h2;rw [List.getElem_set]
 split
 ·rename_i e;subst e
  have:v.getD i false=v[i]:=by rw [List.getD_eq_getElem?_getD,List.getElem?_eq_getElem h];rfl
  rw [←this,hv]
 ·rfl
theorem U6: ∀(l:List Int) (v:List Bool),(∀x∈l,0<=x/\x<4*v.length)->bcN v l<=uD v
 |[],v,_=>by simp [bcN]
 |h::l,v,hl=>by
  have h0:=hl h List.mem_cons_self;have ih:=U6 l (v.set (h/4).toNat true) (fun x hx=>by rw [List.length_set];exact hl x (List.mem_cons_of_mem _ hx));simp only [bcN];cases e:v.getD (h/4).toNat false with
  |false=>have:=Q4 (i:=(h/4).toNat) (by omega) e;split<;>omega
  |true=>rw [y4i (by omega) e] at ih⊢;simp;exact ih
def bc (s m:List Int):Nat:=bcN (List.replicate s.length false) (dt s m).flatten
theorem RN (v:jP s m L): ∀x∈(dt s m).flatten,0<=x/\x<4*((List.replicate s.length false).length:Nat):=fun x hx=>by
 obtain ⟨l,h1,h2⟩:=List.mem_flatten.1 hx
 have:=(Mq v.dB h1).2 x h2
 rw [List.length_replicate];exact this
theorem Ud (v:jP s m L):bc s m<=s.length:=by
 have:=U6 _ _ (RN v)
 unfold bc;refine Nat.le_trans this ?_;unfold uD;refine Nat.le_trans List.countP_le_length ?_;simp
theorem He (hv:bI s m L=true) (hc:c<s.length) (hb:mN s m=some (c:Int)):bc (jR s c) (jc s m c)+1=bc s m:=by
 unfold bc;rw [dA,XV hv hc,←List.map_flatten];refine U7 eO _ _ (RN (dr hv)) ?_;rw [←Td];exact hb
theorem RM {N:Nat} {want:Int->Bool} {orb:Int->List Int}: ∀h,(aL N want orb h).1=[]->(aL N want orb h).2=List.replicate N false/\ ∀x,x<h->x<N->want x=false
 |0,_=>⟨rfl,fun x hx=>by omega⟩
 |h+1,e=>by
  simp only [aL,jg] at e⊢;by_cases hq:((aL N want orb h).2.getD h false|| !want h)=true
  ·rw [if_pos hq] at e⊢;obtain ⟨h1,h2⟩:=RM h e;refine ⟨h1,fun x hx hN=>?_⟩;by_cases VQ:x<h
   ·exact h2 x VQ hN
   ·obtain rfl:x=h:=by omega
    rw [h1,List.getD_eq_getElem?_getD,List.getElem?_replicate,if_pos hN] at hq;simpa using hq
  ·rw [if_neg hq] at e;simp at e
theorem mS (v:jP s m L) (h:0<s.length):0<(dt s m).length:=by
 apply Nat.pos_of_ne_zero;intro e;have hn:dt s m=[]:=List.eq_nil_of_length_eq_zero e;have h2:=(RM _ hn).2 2 (by rw [v.len];omega) (by rw [v.len];omega);simp [ak] at h2
theorem Qt {b:Bool}: ∀k,k<=4-> ∀x,mn m b 0 k x=false
 |0,_,_=>rfl
 |k+1,hk,x=>by simp only [mn];rw [if_pos (by omega)];exact Qt k (by omega) x
theorem ZZ {b:Bool}:1<=nt m b 0 1:=by
 unfold nt;simp only [Nat.mul_one];rw [Qt 4 (Nat.le_refl _)];simp only [Bool.false_eq_true,if_false]
 split<;>omega
end
end Sp
namespace Sp
section
variable {s m:List Int} {L:Int} {n c k:Nat}
end
end Sp
namespace Sp
section
variable {s s1 s2 m m1 m2:List Int} {L L1 L2:Int} {n c k:Nat}
variable {col:Nat->Bool} {LA LB:Int}
end
end Sp
end Go.Proofs.YtjpbeacamoijhaaGreatDoor
