/- Smoothing and switching keep a diagram valid; the resolution ends; its polynomial. -/
import Derived.Test.YtjpbeacamoijhaaGreatDoorSq
import Derived.Test.YtjpbeacamoijhaaGreatDoorZa
import Derived.Test.YtjpbeacamoijhaaGreatDoorZg
set_option linter.unusedSimpArgs false
set_option linter.unusedVariables false
namespace Go.Proofs.YtjpbeacamoijhaaGreatDoor
namespace Sp
section
variable {s m:List Int} {L:Int} {n c:Nat} {b:Bool}
theorem oH {s:List Int} {c:Nat}: ∀k,(jz s c k).length=(if c<k then k-1 else k)/\ ∀x,x<(if c<k then k-1 else k)->(jz s c k).getD x 0=s.getD (if x<c then x else x+1) 0
 |0=>by simp [jz]
 |k+1=>by
  obtain ⟨h1,h2⟩:=oH (s:=s) (c:=c) k;simp only [jz];by_cases e:k=c
  ·subst e;rw [zzJ rfl,zzJ (by omega)];rw [zzI (by omega)] at h1 h2;refine ⟨by omega,fun x hx=>h2 x (by omega)⟩
  ·rw [zzI e];by_cases hc:c<k
   ·rw [zzJ hc] at h1 h2;rw [zzJ (by omega)];refine ⟨by rw [zzF,h1];simp;omega,fun x hx=>?_⟩;by_cases jD:x<k-1
    ·rw [Ci _ _ _ (by omega)];exact h2 x jD
    ·obtain rfl:x=k-1:=by omega
     rw [Ch _ _ _ (by omega),h1,Nat.sub_self,zzI (by omega),show k-1+1=k by omega];rfl
   ·rw [zzI hc] at h1 h2;rw [zzI (by omega)];refine ⟨by rw [zzF,h1];simp,fun x hx=>?_⟩;by_cases jD:x<k
    ·rw [Ci _ _ _ (by omega)];exact h2 x jD
    ·obtain rfl:x=k:=by omega
     rw [Ch _ _ _ (by omega),h1,Nat.sub_self,zzJ (by omega)];rfl
theorem qK {i:Nat} (hi:i/4≠c): ∀k,k<=m.length->i<k->(fv m b c k).getD i 0=dn m b c 5 (m.getD i 0):=fun k=>by
 induction k with
 |zero=>intro _ h;omega
 |succ k ih=>
  intro hk aD;have hl:=Mq (m:=m) (b:=b) (c:=c) k;simp only [fv];by_cases oi:k/4=c
  ·rw [zzJ oi]
   have:i≠k:=fun e=>hi (by rw [e];exact oi)
   exact ih (by omega) (by omega)
  ·rw [zzI oi];by_cases e:k=i
   ·rw [<-e,nY (by omega)]
   ·rw [nZ e];exact ih (by omega) (by omega)
theorem nG (hv:bf s m L=true):oA m s.length/\qI m s.length=true:=by
 have v:=bV hv;refine ⟨⟨v.dw,fun x hx=>(v.mt x hx).2.2.1⟩,?_⟩;rw [Cf] at hv;unfold zH at hv;exact (zzS _ _▸hv).2
theorem y8g {x:Int} (hs:s.getD c 0=1\/s.getD c 0= -1) (hx:x/4=c):aj s (aI (s.getD c 0== -1) x)= !aj s x:=by
 have e:x=4*c\/x=4*c+1\/x=4*c+2\/x=4*c+3:=by omega
 have d0:(4*(c:Int))/4=c/\(4*(c:Int)+1)/4=c/\(4*(c:Int)+2)/4=c/\(4*(c:Int)+3)/4=c:=by omega
 have r0:(4*(c:Int))% 4=0/\(4*(c:Int)+1)% 4=1/\(4*(c:Int)+2)% 4=2/\(4*(c:Int)+3)% 4=3:=by omega
 obtain ⟨d1,d2,d3,d4⟩:=d0;obtain ⟨r1,r2,r3,r4⟩:=r0;rcases hs with hs|hs
 ·have hb:(s.getD c 0== -1)=false:=by rw [hs];decide
  rw [hb];obtain ⟨j1,j2,j3,j4⟩:=XX c;rcases e with rfl|rfl|rfl|rfl
  ·rw [j1];simp only [aj,d1,d2,r1,r2,zzC,hs];decide
  ·rw [j2];simp only [aj,d1,d2,r1,r2,zzC,hs];decide
  ·rw [j3];simp only [aj,d3,d4,r3,r4,zzC,hs];decide
  ·rw [j4];simp only [aj,d3,d4,r3,r4,zzC,hs];decide
 ·have hb:(s.getD c 0== -1)=true:=by rw [hs];decide
  rw [hb];obtain ⟨j1,j2,j3,j4⟩:=XW c;rcases e with rfl|rfl|rfl|rfl
  ·rw [j1];simp only [aj,d1,d4,r1,r4,zzC,hs];decide
  ·rw [j2];simp only [aj,d2,d3,r2,r3,zzC,hs];decide
  ·rw [j3];simp only [aj,d2,d3,r2,r3,zzC,hs];decide
  ·rw [j4];simp only [aj,d1,d4,r1,r4,zzC,hs];decide
theorem Ux (v:iV s m L) (hc:c<s.length): ∀f x,av s.length x->aj s (dn m (s.getD c 0== -1) c f x)=aj s x
 |0,x,_=>rfl
 |f+1,x,hx=>by
  unfold dn
  split
  ·rename_i e
   have hd:=qG (s.getD c 0== -1) x;have hr:av s.length (aI (s.getD c 0== -1) x):=by unfold av;omega
   rw [Ux v hc f _ (v.dw.iP hr)];unfold av at hr;have h1:=(v.mt (aI (s.getD c 0== -1) x).toNat (by omega)).2.2.2.2;rw [show (((aI (s.getD c 0== -1) x).toNat:Nat):Int)=aI (s.getD c 0== -1) x by omega,y8g (v.sg c hc) e] at h1;cases h2:aj s x<;>cases h3:aj s (m.getD (aI (s.getD c 0== -1) x).toNat 0)<;>simp_all
  ·rfl
theorem SP:0<=n9 m b c n/\n9 m b c n<=2:=by
 unfold n9;simp only;split<;>split<;>omega
theorem SO (hc:c<s.length) {x y:Nat} (hx:x<4*(s.length-1)) (hy:y=if x/4<c then x else x+4):aj (jz s c s.length) x=aj s y:=by
 obtain ⟨_,h2⟩:=oH (s:=s) (c:=c) s.length;rw [zzJ hc] at h2;have e1:((x:Int)/4).toNat=x/4:=by omega
 have e2:((y:Int)/4).toNat=if x/4<c then x/4 else x/4+1:=by rw [hy];split<;>omega
 have e3:(y:Int)% 4=(x:Int)% 4:=by rw [hy];split<;>omega
 unfold aj;rw [e1,e2,e3,h2 (x/4) (by omega)]
theorem ysz (hv:bf s m L=true) (hc:c<s.length) (hL:im s m c L<=64):bf (dz s c) (fk s m c) (im s m c L)=true/\(dz s c).length=s.length-1:=by
 have v:=bV hv;obtain ⟨hd,iw⟩:=nG hv;obtain ⟨Da,PB⟩:=yx4 (b:=(s.getD c 0== -1)) hd hc iw;obtain ⟨w1,w2⟩:=oH (s:=s) (c:=c) s.length;rw [zzJ hc] at w1 w2;obtain ⟨wl,wg⟩:=mn (E:=fv m (s.getD c 0== -1) c (4*s.length)) (c:=c) s.length;rw [zzJ hc] at wl wg;have cP:(dz s c).length=s.length-1:=w1;refine ⟨?_,cP⟩;rw [Cf];unfold zH;rw [cP,zzS];refine ⟨?_,PB⟩
 unfold rz;rw [decide_eq_true_iff,cP];have Az:=v.s64;have uF:=SP (m:=m) (b:=(s.getD c 0== -1)) (c:=c) (n:=s.length);have C3:=v.l0;refine ⟨by omega,wl,by unfold im;omega,hL,fun i hi=>?_,fun h hh=>?_⟩
 ·unfold dz;rw [w2 i hi];exact v.sg _ (by split<;>omega)
 ·have p1:=Da.dw.ok.2 h hh;have p2:=Da.dw.inv h hh;have p3:=Da.ne h hh;refine ⟨p1.1,by rw [cP];exact p1.2,p3,p2,?_⟩;obtain ⟨y,hy⟩: ∃y,y=if h/4<c then h else h+4:=⟨_,rfl⟩;have tm:y<4*s.length/\y/4≠c:=by rw [hy];split<;>omega
  unfold dz;rw [SO hc hh hy];have e1:(fk s m c).getD h 0=dq (fv m (s.getD c 0== -1) c (4*s.length)) c y:=by unfold fk;rw [wg h hh,hy]
  have iR:=v.len;have e2:(fv m (s.getD c 0== -1) c (4*s.length)).getD y 0=dn m (s.getD c 0== -1) c 5 (m.getD y 0):=qK tm.2 _ (by omega) tm.1;have qP:=Eb (b:=(s.getD c 0== -1)) v.dw hc tm.1 tm.2;have Yq:av s.length (m.getD y 0):=by have:=v.dw.ok.2 y tm.1;unfold av;omega
  have CR:=MY (b:=(s.getD c 0== -1)) v.dw hc 5 _ Yq;have ho:=Ux v hc 5 _ Yq;have aA:=(v.mt y tm.1).2.2.2.2;have p1':(0:Int)<=(fk s m c).getD h 0/\(fk s m c).getD h 0<4*((s.length-1:Nat):Int):=p1;unfold dq at e1;rw [e2] at e1;generalize dn m (s.getD c 0== -1) c 5 (m.getD y 0)=z at*;unfold av at CR;obtain ⟨z,rfl⟩: ∃q:Nat,z=q:=⟨z.toNat,by omega⟩
  obtain ⟨q,hq⟩: ∃q:Nat,(fk s m c).getD h 0=q:=⟨((fk s m c).getD h 0).toNat,by omega⟩;rw [hq,SO (y:=z) hc (by omega) (by rw [hq] at e1;split at e1<;>split<;>omega),ho];exact aA
end
end Sp
namespace Sp
section
variable {s m:List Int} {L:Int} {n c k:Nat}
def tw (k c x:Nat):Nat:=if x/4=c then x-x % 4+(x % 4+k)% 4 else x
theorem Je (k c x:Nat):tw k c x/4=x/4:=by unfold tw;split<;>omega
theorem kz {x:Nat} (hx:x<4*n):tw k c x<4*n:=by have:=Je k c x;omega
theorem wJ {x:Nat} (h:x/4≠c):tw k c x=x:=by unfold tw;rw [zzI h]
theorem kd {x:Nat} (hk:k=1\/k=3):tw (4-k) c (tw k c x)=x/\tw k c (tw (4-k) c x)=x:=by
 by_cases h:x/4=c
 ·unfold tw;simp only [h,if_true];rw [zzJ (by omega),zzJ (by omega)];rcases hk with rfl|rfl<;>omega
 ·rw [wJ h,wJ h,wJ h];exact ⟨rfl,rfl⟩
theorem Jd {x y:Nat} (hk:k=1\/k=3) (e:tw k c x=tw k c y):x=y:=by
 rw [<-(kd (c:=c) (x:=x) hk).1,e,(kd hk).1]
theorem FQ (x:Nat) (hk:k=1\/k=3):tw k c (bt x)=bt (tw k c x):=by
 by_cases h:x/4=c
 ·have h1:=kg x;have h2:=Je k c x;unfold tw bt;rw [zzJ (by unfold bt at h1;omega),zzJ h];rcases hk with rfl|rfl<;>omega
 ·rw [wJ h,wJ (by rw [kg];exact h)]
theorem VP (hs:s.getD c 0=1\/s.getD c 0= -1) (x:Nat):iJ x (tL s (· ==(c:Int)) ((x:Int)/4))=(tw (if s.getD c 0=1 then 1 else 3) c x:Nat):=by
 by_cases h:x/4=c
 ·have e:((x:Int)/4==(c:Int))=true:=by simp;omega
  have e2:((x:Int)/4).toNat=c:=by omega
  unfold tL tw;rw [zzJ e,e2,zzJ h]
  split
  ·unfold iJ;rw [show Int.tmod (-3) 4= -3 by decide];omega
  ·unfold iJ;rw [show Int.tmod (-1) 4= -1 by decide];omega
 ·have e:((x:Int)/4==(c:Int))=false:=by simp;omega
  unfold tL;rw [zzI (fun e'=>by have:=e.symm.trans e';cases this),wJ h];unfold iJ;rw [show Int.tmod 0 4=0 by decide];omega
theorem SN {to:Int->Int} {t:Nat->Nat} (ht: ∀x:Nat,to x=t x) (hi: ∀x y,t x=t y->x=y) (hl: ∀x,x<m.length->t x<m.length): ∀k,k<=m.length-> ∀i,i<k->(xb m to k).getD (t i) 0=to (m.getD i 0)
 |0,_,i,h=>by omega
 |k+1,hk,i,h=>by
  have hlen:=JI m to k;simp only [xb];rw [ht k,zzC];by_cases e:i=k
  ·subst e;rw [nY (by rw [hlen];exact hl i (by omega))]
  ·rw [nZ (fun e'=>e (hi _ _ e').symm)];exact SN ht hi hl k (by omega) i (by omega)
theorem mC {i:Nat} (hi:i<s.length):(kf s c).getD i 0=if i=c then-s.getD i 0 else s.getD i 0:=by
 unfold kf HT w6;rw [zzB,zzO,List.getElem?_range hi];simp only [Option.map_some,Option.getD_some,vJ];by_cases e:i=c
 ·subst e;simp
 ·have: ¬((i:Int)==(c:Int))=true:=by simp;omega
  rw [zzI this,zzI e];simp
theorem dK:(kf s c).length=s.length:=by unfold kf HT;rw [JH]
def kT (s:List Int) (c:Nat):Nat:=if s.getD c 0=1 then 1 else 3
theorem jQ:kT s c=1\/kT s c=3:=by unfold kT;split<;>simp
theorem SM (v:iV s m L) (hc:c<s.length) {i:Nat} (hi:i<4*s.length):(jA s m c).getD (tw (kT s c) c i) 0=(tw (kT s c) c (aW m i):Nat):=by
 have hs:=v.sg c hc;have iR:=v.len;unfold jA Ld;rw [SN (t:=tw (kT s c) c) (fun x=>VP hs x) (fun x y e=>Jd jQ e) (fun x hx=>by rw [iR] at hx⊢;exact kz hx) m.length (zzA _) i (by omega)];have h0:=(v.mt i hi).1;have e:m.getD i 0=((aW m i:Nat):Int):=by unfold aW;omega
 rw [e];exact VP hs _
theorem SL:(jA s m c).length=m.length:=JI _ _ _
theorem oI (hs:s.getD c 0=1\/s.getD c 0= -1) (hc:c<s.length) {x:Nat} (hx:x<4*s.length):aj (kf s c) (tw (kT s c) c x)=aj s x:=by
 have hd:=Je (kT s c) c x;have e1:(((tw (kT s c) c x:Nat):Int)/4).toNat=x/4:=by omega
 have e2:((x:Int)/4).toNat=x/4:=by omega
 unfold aj;rw [e1,e2,mC (by omega)];by_cases h:x/4=c
 ·rw [zzJ h,h];have r:x % 4=0\/x % 4=1\/x % 4=2\/x % 4=3:=by omega
  rcases hs with hs|hs
  ·have hk:kT s c=1:=by unfold kT;rw [zzJ hs]
   rw [hk,hs];rcases r with r|r|r|r
   ·rw [show (x:Int)% 4=0 by omega,show ((tw 1 c x:Nat):Int)% 4=1 by unfold tw;rw [zzJ h];omega];decide
   ·rw [show (x:Int)% 4=1 by omega,show ((tw 1 c x:Nat):Int)% 4=2 by unfold tw;rw [zzJ h];omega];decide
   ·rw [show (x:Int)% 4=2 by omega,show ((tw 1 c x:Nat):Int)% 4=3 by unfold tw;rw [zzJ h];omega];decide
   ·rw [show (x:Int)% 4=3 by omega,show ((tw 1 c x:Nat):Int)% 4=0 by unfold tw;rw [zzJ h];omega];decide
  ·have hk:kT s c=3:=by unfold kT;rw [zzI (by omega)]
   rw [hk,hs];rcases r with r|r|r|r
   ·rw [show (x:Int)% 4=0 by omega,show ((tw 3 c x:Nat):Int)% 4=3 by unfold tw;rw [zzJ h];omega];decide
   ·rw [show (x:Int)% 4=1 by omega,show ((tw 3 c x:Nat):Int)% 4=0 by unfold tw;rw [zzJ h];omega];decide
   ·rw [show (x:Int)% 4=2 by omega,show ((tw 3 c x:Nat):Int)% 4=1 by unfold tw;rw [zzJ h];omega];decide
   ·rw [show (x:Int)% 4=3 by omega,show ((tw 3 c x:Nat):Int)% 4=2 by unfold tw;rw [zzJ h];omega];decide
 ·rw [zzI h,wJ h]
theorem jP (v:iV s m L) (hc:c<s.length) {i:Nat} (hi:i<4*s.length):aW (jA s m c) i=tw (kT s c) c (aW m (tw (4-kT s c) c i))/\((aW (jA s m c) i:Nat):Int)=(jA s m c).getD i 0:=by
 have h:=SM v hc (i:=tw (4-kT s c) c i) (kz hi);rw [(kd jQ).2] at h;refine ⟨?_,?_⟩
 ·unfold aW;rw [h,zzC];rfl
 ·unfold aW;rw [h,zzC]
theorem iZ (hv:bf s m L=true) (hc:c<s.length):bf (kf s c) (jA s m c) L=true:=by
 have v:=bV hv;obtain ⟨hd,iw⟩:=nG hv;have hs:=v.sg c hc;have hS:=hd.te.1 iw;have hk:4-kT s c=1\/4-kT s c=3:=by have:=jQ (s:=s) (c:=c);omega
 have bH: ∀x,x<4*s.length->aW m x<4*s.length:=fun x hx=>hd.e7.lt x hx;have cG: ∀x,x<4*s.length->aW (jA s m c) x<4*s.length:=fun x hx=>by rw [(jP v hc hx).1];exact kz (bH _ (kz hx))
 have Av:fq (4*s.length) bt (aW (jA s m c)):=by
  refine hS.BF (io:=tw (4-kT s c) c) (fun x hx=>kz hx) (fun x y hx hy e=>Jd hk e) (fun x hx=>(aO s.length).lt x hx) cG (fun x hx=>FQ x hk) (fun x hx=>?_);rw [(jP v hc hx).1,(kd jQ).1]
 have iR:(jA s m c).length=4*s.length:=by rw [SL];exact v.len
 have hD:oA (jA s m c) s.length:=by
  refine ⟨⟨⟨iR,fun i hi=>?_⟩,fun x hx=>?_⟩,fun x hx e=>?_⟩
  ·have h1:=(jP v hc hi).2;have h2:=cG i hi;omega
  ·have h1:=jP v hc hx;have h2:=Av.e7.inv x hx;have h3:=jP v hc (cG x hx);rw [h2] at h3;rw [<-h1.2,zzC,<-h3.2]
  ·have h1:=jP v hc hx;exact Av.e7.ne x hx (by omega)
 rw [Cf];unfold zH;rw [dK,zzS];refine ⟨?_,hD.te.2 Av⟩;unfold rz;rw [decide_eq_true_iff,dK];refine ⟨v.s64,iR,v.l0,v.l64,fun i hi=>?_,fun h hh=>?_⟩
 ·rw [mC hi]
  have:=v.sg i hi
  split<;>omega
 ·have p1:=hD.dw.ok.2 h hh;refine ⟨p1.1,by rw [dK];exact p1.2,hD.ne h hh,hD.dw.inv h hh,?_⟩;have q:=jP v hc hh;obtain ⟨y,hy⟩: ∃y,y=tw (4-kT s c) c h:=⟨_,rfl⟩;have qx:y<4*s.length:=by rw [hy];exact kz hh
  have e:h=tw (kT s c) c y:=by rw [hy,(kd jQ).2]
  rw [<-hy] at q;have aA:=(v.mt y qx).2.2.2.2;rw [<-q.2,q.1,e,oI hs hc qx,oI hs hc (bH y qx)];rw [hd.cast qx];exact aA
end
end Sp
namespace Sp
section
variable {s m:List Int} {L:Int} {n c k:Nat}
def tI (k c:Nat) (x:Int):Int:=(tw k c x.toNat:Nat)
theorem LS (x:Nat):tI k c x=(tw k c x:Nat):=by unfold tI;rw [zzC]
def xa (y:Nat):Nat:=y-y % 4+(y % 4+2)% 4
theorem Xt (y:Nat):iJ y 2=(xa y:Nat):=by unfold iJ xa;rw [show Int.tmod 2 4=2 by decide];omega
theorem Gj (y:Nat) (hk:k=1\/k=3):xa (tw k c y)=tw k c (xa y):=by
 by_cases h:y/4=c
 ·unfold tw xa;rw [zzJ h,zzJ (by omega)];rcases hk with rfl|rfl<;>omega
 ·rw [wJ h,wJ (by unfold xa;omega)]
theorem mD (v:iV s m L) {g:Nat} (hg:g<4*s.length):aS m g=(xa (aW m g):Nat)/\xa (aW m g)<4*s.length:=by
 have h:=v.mt g hg;have e:m.getD g 0=((aW m g:Nat):Int):=by unfold aW;omega
 refine ⟨?_,by unfold xa aW;omega⟩;unfold aS;rw [zzC,e,Xt]
theorem Xr (v:iV s m L) (hc:c<s.length) {g:Nat} (hg:g<4*s.length):aS (jA s m c) (tw (kT s c) c g:Nat)=(tw (kT s c) c (xa (aW m g)):Nat):=by
 unfold aS;rw [zzC,SM v hc hg,Xt,Gj _ jQ]
theorem SK (v:iV s m L) (hc:c<s.length) (x:Nat): ∀(f g:Nat),g<4*s.length->iz (aS (jA s m c)) (tw (kT s c) c x:Nat) f (tw (kT s c) c g:Nat)=(iz (aS m) x f g).map (tI (kT s c) c)
 |0,_,_=>rfl
 |f+1,g,hg=>by
  unfold iz;by_cases e:g=x
  ·subst e;rw [zzJ rfl,zzJ rfl];rfl
  ·have ne: ¬((tw (kT s c) c g:Nat):Int)=(tw (kT s c) c x:Nat):=fun e'=>e (Jd (c:=c) (jQ (s:=s) (c:=c)) (by omega));rw [zzI ne,zzI (by omega),Xr v hc hg,(mD v hg).1,SK v hc x f _ (mD v hg).2,List.map_cons,LS]
theorem y8h (v:iV s m L) (hc:c<s.length) {x:Nat} (hx:x<4*s.length) (f:Nat):af (aS (jA s m c)) f (tw (kT s c) c x:Nat)=(af (aS m) f x).map (tI (kT s c) c):=by
 unfold af;rw [Xr v hc hx,SK v hc x f _ (mD v hx).2,(mD v hx).1,List.map_cons,LS]
structure vL (N k c:Nat) (st pK:List (List Int)×List Bool):Prop where
 fst:pK.1=st.1.map (List.map (tI k c))
 len:st.2.length=N
 len':pK.2.length=N
 get: ∀y,y<N->pK.2.getD (tw k c y) false=st.2.getD y false
theorem vL.step {want Bf:Int->Bool} {orb Gi:Int->List Int} {st pK:List (List Int)×List Bool} (h:vL (4*n) k c st pK) (hk:k=1\/k=3) {x:Nat} (hx:x<4*n) (hw:Bf (tw k c x:Nat)=want x)
  (ho:Gi (tw k c x:Nat)=(orb x).map (tI k c)) (hr: ∀g∈orb x,0<=g/\g<4*n):vL (4*n) k c (jI want orb x st) (jI Bf Gi (tw k c x) pK):=by
 unfold jI;rw [h.get x hx,hw]
 split
 ·exact h
 ·refine ⟨?_,?_,?_,fun y hy=>?_⟩
  ·simp only [h.fst,ho,List.map_append,List.map_cons,List.map_nil]
  ·simp only;rw [Fw];exact h.len
  ·simp only;rw [Fw];exact h.len'
  ·simp only;rw [ho,Ef _ _ _ (fun g hg=>?_),Ef _ _ _ (fun g hg=>by have:=hr g hg;rw [h.len];omega),h.get y hy]
   ·congr 1
    have:((tw k c y:Nat):Int)∈(orb x).map (tI k c)↔(y:Int)∈orb x:=by
     rw [List.mem_map];constructor
     ·rintro ⟨g,hg,e⟩
      have:=hr g hg
      unfold tI at e;have e2:=Jd (c:=c) (x:=g.toNat) (y:=y) hk (Int.ofNat.inj e);rw [<-e2,show ((g.toNat:Nat):Int)=g by omega];exact hg
     ·intro hg;exact ⟨_,hg,LS y⟩
    exact decide_eq_decide.2 this
   ·obtain ⟨z,hz,rfl⟩:=List.mem_map.1 hg
    have:=hr z hz
    have h2:=kz (k:=k) (c:=c) (x:=z.toNat) (n:=n) (by omega);rw [h.len'];unfold tI;omega
theorem AZ {want:Int->Bool} {orb:Int->List Int} {st:List (List Int)×List Bool} {x:Nat} (h:want x=false):jI want orb x st=st:=by
 unfold jI;rw [h];simp
theorem Xq (v:iV s m L) (hc:c<s.length): ∀q,q<=s.length->vL (4*s.length) (kT s c) c (aT (4*s.length) (aj s) (af (aS m) (4*s.length)) (4*q)) (aT (4*s.length) (aj (kf s c)) (af (aS (jA s m c)) (4*s.length)) (4*q))
 |0,_=>⟨by simp [aT],by simp [aT],by simp [aT],fun y hy=>by
  have:=kz (k:=kT s c) (c:=c) hy
  simp only [aT,Nat.mul_zero];rw [zzB,zzB,List.getElem?_replicate,List.getElem?_replicate,zzJ hy,zzJ this]⟩
 |q+1,hq=>by
  have ih:=Xq v hc q (by omega);have hs:=v.sg c hc
  have rR: ∀{st pK:List (List Int)×List Bool} (x:Nat),x<4*s.length->vL (4*s.length) (kT s c) c st pK->vL (4*s.length) (kT s c) c (jI (aj s) (af (aS m) (4*s.length)) x st) (jI (aj (kf s c)) (af (aS (jA s m c)) (4*s.length)) (tw (kT s c) c x) pK):=fun {st pK} x hx h=>
   h.step jQ hx (oI hs hc hx) (y8h v hc hx _) (fun g hg=>by
    have hR:av s.length (x:Int):=by unfold av;omega
    have:=(A5 (Ba v.dw) hR).2.1 g hg
    unfold av at this;omega)
  simp only [show 4*(q+1)=4*q+1+1+1+1 by omega,aT];generalize aT (4*s.length) (aj s) (af (aS m) (4*s.length)) (4*q)=st at*;generalize aT (4*s.length) (aj (kf s c)) (af (aS (jA s m c)) (4*s.length)) (4*q)=pK at*;by_cases e:q=c
  ·subst e;have d:(4*(q:Int))/4=q/\(4*(q:Int)+1)/4=q/\(4*(q:Int)+2)/4=q/\(4*(q:Int)+3)/4=q:=by omega
   have r:(4*(q:Int))% 4=0/\(4*(q:Int)+1)% 4=1/\(4*(q:Int)+2)% 4=2/\(4*(q:Int)+3)% 4=3:=by omega
   have o0: ∀t:List Int,aj t ((4*q:Nat):Int)=false:=fun t=>by
    unfold aj;rw [show (((4*q:Nat):Int))% 4=0 by omega];simp
   rcases hs with hs|hs
   ·have hk:kT s q=1:=by unfold kT;rw [zzJ hs]
    have o3:aj s ((4*q+1+1+1:Nat):Int)=false:=by
     unfold aj;rw [show (((4*q+1+1+1:Nat):Int))% 4=3 by omega,show ((((4*q+1+1+1:Nat):Int))/4).toNat=q by omega,hs];decide
    have o1:aj (kf s q) ((4*q+1:Nat):Int)=false:=by
     unfold aj;rw [show (((4*q+1:Nat):Int))% 4=1 by omega,show ((((4*q+1:Nat):Int))/4).toNat=q by omega,mC hc,zzJ (show q=q from rfl),hs];decide
    rw [AZ o3,AZ (o0 s),AZ o1,AZ (o0 _)];have h1:=rR (4*q+1) (by omega) ih;rw [show tw (kT s q) q (4*q+1)=4*q+1+1 by rw [hk];unfold tw;rw [zzJ (by omega)];omega] at h1;have h2:=rR (4*q+1+1) (by omega) h1;rw [show tw (kT s q) q (4*q+1+1)=4*q+1+1+1 by rw [hk];unfold tw;rw [zzJ (by omega)];omega] at h2;exact h2
   ·have hk:kT s q=3:=by unfold kT;rw [zzI (by omega)]
    have o1:aj s ((4*q+1:Nat):Int)=false:=by
     unfold aj;rw [show (((4*q+1:Nat):Int))% 4=1 by omega,show ((((4*q+1:Nat):Int))/4).toNat=q by omega,hs];decide
    have o3:aj (kf s q) ((4*q+1+1+1:Nat):Int)=false:=by
     unfold aj;rw [show (((4*q+1+1+1:Nat):Int))% 4=3 by omega,show ((((4*q+1+1+1:Nat):Int))/4).toNat=q by omega,mC hc,zzJ (show q=q from rfl),hs];decide
    rw [AZ o3,AZ (o0 s),AZ o1,AZ (o0 _)];have h1:=rR (4*q+1+1) (by omega) ih;rw [show tw (kT s q) q (4*q+1+1)=4*q+1 by rw [hk];unfold tw;rw [zzJ (by omega)];omega] at h1;have h2:=rR (4*q+1+1+1) (by omega) h1;rw [show tw (kT s q) q (4*q+1+1+1)=4*q+1+1 by rw [hk];unfold tw;rw [zzJ (by omega)];omega] at h2;exact h2
  ·have t0: ∀x:Nat,x/4=q->tw (kT s c) c x=x:=fun x hx=>wJ (by omega);have h1:=rR (4*q) (by omega) ih;rw [t0 _ (by omega)] at h1;have h2:=rR (4*q+1) (by omega) h1;rw [t0 _ (by omega)] at h2;have h3:=rR (4*q+1+1) (by omega) h2;rw [t0 _ (by omega)] at h3;have h4:=rR (4*q+1+1+1) (by omega) h3;rw [t0 _ (by omega)] at h4;exact h4
theorem ZU (hv:bf s m L=true) (hc:c<s.length):dr (kf s c) (jA s m c)=(dr s m).map (List.map (tI (kT s c) c)):=by
 have v:=bV hv;unfold dr;rw [SL,v.len];exact (Xq v hc s.length (zzA _)).fst
end
end Sp
namespace Sp
end Sp
namespace Sp
section
variable {s m:List Int} {L:Int} {n c k:Nat}
theorem TZ: ∀(l r:List Int) (v:List Bool),dG v (l++r)=match dG v l with
  |(some c,v')=>(some c,v')
  |(none,v')=>dG v' r
 |[],r,v=>rfl
 |h::l,r,v=>by
  simp only [List.cons_append,dG];by_cases e:v.getD (h/4).toNat false=false/\h % 2=0
  ·rw [zzJ e,zzJ e]
  ·rw [zzI e,zzI e];exact TZ l r _
theorem U4: ∀(ls:List (List Int)) (v:List Bool),uo v ls=(dG v ls.flatten).1
 |[],v=>rfl
 |l::ls,v=>by
  simp only [uo,List.flatten_cons];rw [TZ]
  split
  ·rename_i e;rw [e]
  ·rename_i v' e;rw [e];exact U4 ls v'
def bcN (v:List Bool):List Int->Nat
 |[]=>0
 |h::t=>(if v.getD (h/4).toNat false=false/\h % 2=0 then 1 else 0)+bcN (v.set (h/4).toNat true) t
theorem TY {v:List Bool} {i j:Nat} (h:v.getD i false=true):(v.set j true).getD i false=true:=by
 by_cases e:j=i
 ·subst e
  have:j<v.length:=zzT fun h'=>by rw [zzB,zzP (by omega)] at h;cases h
  exact nY this
 ·rw [nZ e];exact h
theorem Xp (x:Int) (h:0<=x):tI k c x/4=x/4:=by
 unfold tI;have:=Je k c x.toNat;omega
theorem WW (x:Int) (h:0<=x) (hx:x/4≠c):tI k c x=x:=by
 unfold tI;rw [wJ (by omega)];omega
theorem N6 (x:Int) (h:0<=x) (hx:x/4=c) (hk:k=1\/k=3):tI k c x % 2≠x % 2:=by
 unfold tI tw;rw [zzJ (by omega)];rcases hk with rfl|rfl<;>omega
theorem TX: ∀(l:List Int) (v:List Bool),v.getD c false=true->(∀x∈l,0<=x)->bcN v (l.map (tI k c))=bcN v l
 |[],_,_,_=>rfl
 |h::l,v,hv,hl=>by
  have h0:=hl h zzD;simp only [List.map_cons,bcN];rw [Xp h h0,TX l _ (TY hv) (fun x hx=>hl x (zzE _ hx))];by_cases e:h/4=c
  ·rw [e,zzC,hv,zzI (fun h=>by cases h.1),zzI (fun h=>by cases h.1)]
  ·rw [WW h h0 e]
theorem Uw: ∀(l:List Int) (v:List Bool),v.getD c false=true->(∀x∈l,0<=x)->(dG v l).1≠some (c:Int)
 |[],_,_,_=>by simp [dG]
 |h::l,v,hv,hl=>by
  have h0:=hl h zzD;simp only [dG]
  split
  ·rename_i e
   intro e';have e2:h/4=(c:Int):=Option.some.inj e';rw [e2,zzC,hv] at e;cases e.1
  ·exact Uw l _ (TY hv) (fun x hx=>hl x (zzE _ hx))
theorem WV (hk:k=1\/k=3): ∀(l:List Int) (v:List Bool),(∀x∈l,0<=x/\x<4*v.length)->(dG v l).1=some (c:Int)->bcN v (l.map (tI k c))+1=bcN v l
 |[],v,_,h=>by simp [dG] at h
 |h::l,v,hl,hb=>by
  have h0:=hl h zzD;have qA: ∀x∈l,0<=x/\x<4*(v.set (h/4).toNat true).length:=fun x hx=>by rw [List.length_set];exact hl x (zzE _ hx)
  simp only [dG] at hb;simp only [List.map_cons,bcN];rw [Xp h h0.1];have hset:(v.set (h/4).toNat true).getD (h/4).toNat false=true:=nY (by omega)
  split at hb
  ·rename_i e
   have e2:h/4=(c:Int):=Option.some.inj hb;have hp:=N6 (c:=c) h h0.1 e2 hk;rw [zzJ e,zzI (fun e'=>by omega)];have h3:(h/4).toNat=c:=by omega
   rw [h3] at hset⊢;rw [TX l _ hset (fun x hx=>(qA x hx).1)];omega
  ·rename_i e
   by_cases e2:h/4=(c:Int)
   ·have h3:(h/4).toNat=c:=by omega
    rw [h3] at hset hb;exact absurd hb (Uw l _ hset (fun x hx=>(qA x hx).1))
   ·rw [WW h h0.1 e2]
    have:=WV hk l _ qA hb
    omega
theorem y45 {v:List Bool} {i:Nat} (h:i<v.length) (hv:v.getD i false=true):v.set i true=v:=by
 apply List.ext_getElem (by simp);intro j h1 h2;rw [List.getElem_set]
 split
 ·rename_i e;subst e
  have:v.getD i false=v[i]:=by rw [zzB,zzH h];rfl
  rw [<-this,hv]
 ·rfl
theorem WU: ∀(l:List Int) (v:List Bool),(∀x∈l,0<=x/\x<4*v.length)->bcN v l<=wT v
 |[],v,_=>by simp [bcN]
 |h::l,v,hl=>by
  have h0:=hl h zzD;have ih:=WU l (v.set (h/4).toNat true) (fun x hx=>by rw [List.length_set];exact hl x (zzE _ hx));simp only [bcN];cases e:v.getD (h/4).toNat false with
  |false=>have:=SJ (i:=(h/4).toNat) (by omega) e;split<;>omega
  |true=>rw [y45 (by omega) e] at ih⊢;simp;exact ih
def bc (s m:List Int):Nat:=bcN (List.replicate s.length false) (dr s m).flatten
theorem TW (v:iV s m L): ∀x∈(dr s m).flatten,0<=x/\x<4*((List.replicate s.length false).length:Nat):=fun x hx=>by
 obtain ⟨l,h1,h2⟩:=List.mem_flatten.1 hx
 have:=(NI v.dw h1).2 x h2
 rw [List.length_replicate];exact this
theorem VO (v:iV s m L):bc s m<=s.length:=by
 have:=WU _ _ (TW v)
 unfold bc;refine Nat.le_trans this ?_;unfold wT;refine Nat.le_trans List.countP_le_length ?_;simp
theorem Ii (hv:bf s m L=true) (hc:c<s.length) (hb:nJ s m=some (c:Int)):bc (kf s c) (jA s m c)+1=bc s m:=by
 unfold bc;rw [dK,ZU hv hc,<-List.map_flatten];refine WV jQ _ _ (TW (bV hv)) ?_;rw [<-U4];exact hb
theorem TV {N:Nat} {want:Int->Bool} {orb:Int->List Int}: ∀h,(aT N want orb h).1=[]->(aT N want orb h).2=List.replicate N false/\ ∀x,x<h->x<N->want x=false
 |0,_=>⟨rfl,fun x hx=>by omega⟩
 |h+1,e=>by
  simp only [aT,jI] at e⊢;by_cases hq:((aT N want orb h).2.getD h false|| !want h)=true
  ·rw [zzJ hq] at e⊢;obtain ⟨h1,h2⟩:=TV h e;refine ⟨h1,fun x hx hN=>?_⟩;by_cases X3:x<h
   ·exact h2 x X3 hN
   ·obtain rfl:x=h:=by omega
    rw [h1,zzB,List.getElem?_replicate,zzJ hN] at hq;simpa using hq
  ·rw [zzI hq] at e;simp at e
theorem nP (v:iV s m L) (h:0<s.length):0<(dr s m).length:=by
 apply Nat.pos_of_ne_zero;intro e;have hn:dr s m=[]:=zzQ e;have h2:=(TV _ hn).2 2 (by rw [v.len];omega) (by rw [v.len];omega);simp [aj] at h2
theorem R9 {b:Bool}: ∀k,k<=4-> ∀x,nf m b 0 k x=false
 |0,_,_=>rfl
 |k+1,hk,x=>by simp only [nf];rw [zzJ (by omega)];exact R9 k (by omega) x
theorem y8i {b:Bool}:1<=n9 m b 0 1:=by
 unfold n9;simp only [Nat.mul_one];rw [R9 4 (zzA _)];simp only [Bool.false_eq_true,if_false]
 split<;>omega
end
end Sp
namespace Sp
section
variable {s m:List Int} {L:Int} {n c k:Nat}
end
end Sp
namespace Sp
section
variable {s s1 s2 m m1 m2:List Int} {L L1 L2:Int} {n c k:Nat}
def bZ (m1 m2:List Int):List Int:=m1++m2.map fun x=>x+(m1.length:Int)
theorem qq {i:Nat} (h:i<m1.length):(bZ m1 m2).getD i 0=m1.getD i 0:=Ci _ _ _ h
theorem uw {i:Nat} (h:i<m2.length):(bZ m1 m2).getD (m1.length+i) 0=m2.getD i 0+m1.length:=by
 unfold bZ;rw [Ch _ _ _ (by omega),show m1.length+i-m1.length=i by omega];simp only [zzB,zzO,zzH h,Option.map_some,Option.getD_some]
theorem tg {x:Int} (h0:0<=x) (h:x<4*s1.length):aj (s1++s2) x=aj s1 x:=by
 unfold aj;rw [Ci _ _ _ (by omega)]
theorem tf {x:Int} (h0:0<=x):aj (s1++s2) (x+4*s1.length)=aj s2 x:=by
 unfold aj;rw [show (x+4*s1.length)% 4=x % 4 by omega,show ((x+4*s1.length)/4).toNat=s1.length+(x/4).toNat by omega,Ch _ _ _ (by omega),show s1.length+(x/4).toNat-s1.length=(x/4).toNat by omega]
theorem dQ (h1:bf s1 m1 L1=true) (h2:bf s2 m2 L2=true) (hn:s1.length+s2.length<=64) (hL:L1+L2<=64):bf (s1++s2) (bZ m1 m2) (L1+L2)=true:=by
 have v1:=bV h1;have v2:=bV h2;obtain ⟨d1,p1⟩:=nG h1;obtain ⟨d2,p2⟩:=nG h2;have S1:=d1.te.1 p1;have S2:=d2.te.1 p2;have l1:=v1.len;have l2:=v2.len;have cP:(s1++s2).length=s1.length+s2.length:=by simp
 have iR:(bZ m1 m2).length=4*(s1.length+s2.length):=by unfold bZ;simp;omega
 have gl: ∀i,i<4*s1.length->(bZ m1 m2).getD i 0=m1.getD i 0:=fun i hi=>qq (by omega);have gr: ∀i,i<4*s2.length->(bZ m1 m2).getD (i+4*s1.length) 0=m2.getD i 0+(4*s1.length:Nat):=fun i hi=>by
  rw [Nat.add_comm,<-l1,uw (by omega)]
 have al: ∀i,i<4*s1.length->aW (bZ m1 m2) i=aW m1 i:=fun i hi=>by unfold aW;rw [gl i hi]
 have ar: ∀i,i<4*s2.length->aW (bZ m1 m2) (i+4*s1.length)=aW m2 i+4*s1.length:=fun i hi=>by
  have:=(v2.mt i hi).1
  unfold aW;rw [gr i hi];omega
 have cs: ∀x,x<4*(s1.length+s2.length)->x<4*s1.length\/ ∃i,i<4*s2.length/\x=i+4*s1.length:=fun x hx=>by
  by_cases h:x<4*s1.length
  ·exact .inl h
  ·exact .inr ⟨x-4*s1.length,by omega,by omega⟩
 have hM:mX (4*(s1.length+s2.length)) (aW (bZ m1 m2)):=by
  refine ⟨fun x hx=>?_,fun x hx=>?_,fun x hx=>?_⟩
  ·rcases cs x hx with h|⟨i,hi,rfl⟩
   ·rw [al x h];have:=S1.e7.lt x h;omega
   ·rw [ar i hi];have:=S2.e7.lt i hi;omega
  ·rcases cs x hx with h|⟨i,hi,rfl⟩
   ·rw [al x h,al _ (S1.e7.lt x h)];exact S1.e7.inv x h
   ·rw [ar i hi,ar _ (S2.e7.lt i hi),S2.e7.inv i hi]
  ·rcases cs x hx with h|⟨i,hi,rfl⟩
   ·rw [al x h];exact S1.e7.ne x h
   ·rw [ar i hi];have:=S2.e7.ne i hi;omega
 have hS:fq (4*(s1.length+s2.length)) bt (aW (bZ m1 m2)):=by
  refine ⟨aO _,hM,fun r hr=>?_⟩;rcases cs r hr with h|⟨i,hi,rfl⟩
  ·have:=MV (N:=4*(s1.length+s2.length)) (N':=4*s1.length) (si:=bt) (al:=aW (bZ m1 m2)) (si':=bt) (al':=aW m1) (io:=id) (aO _) hM (fun x hx=>by simp only [id];omega) (fun x y _ _ e=>e) (fun x hx=>(aO s1.length).lt x hx) S1.e7.lt (fun x _=>rfl) (fun x hx=>(al x hx).symm)
   exact (this.2.2 r h).2 (S1.eq r h)
  ·have:=MV (N:=4*(s1.length+s2.length)) (N':=4*s2.length) (si:=bt) (al:=aW (bZ m1 m2)) (si':=bt) (al':=aW m2) (io:=fun x=>x+4*s1.length) (aO _) hM (fun x hx=>by omega) (fun x y _ _ e=>by omega) (fun x hx=>(aO s2.length).lt x hx) S2.e7.lt (fun x _=>by unfold bt;omega) (fun x hx=>(ar x hx).symm)
   exact (this.2.2 i hi).2 (S2.eq i hi)
 have hc: ∀x,x<4*(s1.length+s2.length)->((aW (bZ m1 m2) x:Nat):Int)=(bZ m1 m2).getD x 0:=fun x hx=>by
  rcases cs x hx with h|⟨i,hi,rfl⟩
  ·have:=(v1.mt x h).1
   rw [al x h,gl x h];unfold aW;omega
  ·have:=(v2.mt i hi).1
   rw [ar i hi,gr i hi];unfold aW;omega
 have hD:oA (bZ m1 m2) (s1.length+s2.length):=by
  refine ⟨⟨⟨iR,fun i hi=>?_⟩,fun x hx=>?_⟩,fun x hx e=>?_⟩
  ·have h1:=hc i hi;have h2:=hM.lt i hi;omega
  ·have h1:=hc x hx;have h2:=hM.inv x hx;have h3:=hc _ (hM.lt x hx);rw [h2] at h3;rw [<-h1,zzC,<-h3]
  ·have h1:=hc x hx;exact hM.ne x hx (by omega)
 rw [Cf];unfold zH;rw [cP,zzS];refine ⟨?_,hD.te.2 hS⟩;unfold rz;rw [decide_eq_true_iff,cP];have z1:=v1.l0;have z2:=v2.l0;refine ⟨hn,iR,by omega,hL,fun i hi=>?_,fun h hh=>?_⟩
 ·by_cases zr:i<s1.length
  ·rw [Ci _ _ _ zr];exact v1.sg i zr
  ·rw [Ch _ _ _ (by omega)];exact v2.sg _ (by omega)
 ·have q:=hD.dw.ok.2 h hh;refine ⟨q.1,by rw [cP];exact q.2,hD.ne h hh,hD.dw.inv h hh,?_⟩;rcases cs h hh with hl|⟨i,hi,rfl⟩
  ·have r:=v1.mt h hl;rw [gl h hl,tg (by omega) (by omega),tg r.1 r.2.1];exact r.2.2.2.2
  ·have r:=v2.mt i hi;rw [gr i hi,show ((i+4*s1.length:Nat):Int)=(i:Int)+4*s1.length by omega,show ((4*s1.length:Nat):Int)=4*(s1.length:Int) by omega,tf (by omega),tf r.1];exact r.2.2.2.2
variable {col:Nat->Bool} {LA LB:Int}
end
end Sp
theorem y1d (b:Bool) (x:Int) (n:Nat):aI b (x+4*n)=aI b x+4*n:=by
 unfold aI;rw [s6,sQ,s6,sQ,show (x+4*(n:Int))% 2=x % 2 by omega]
 split<;>omega
section
variable {m1 m2:List Int} {n1 n2:Nat}
end
section
variable {m1 m2:List Int} {n1 n2 L1 L2:Nat}
end
section
variable {m:List Int} {n c:Nat} {b:Bool}
theorem TU: ∀(f:Nat) (w:Int) (i:Nat),i<=f->(∀j,j<i->it (cH m b) j w/4=(c:Int))->it (cH m b) i w/4≠(c:Int)->dn m b c f w=it (cH m b) i w
 |0,w,i,hi,_,_=>by obtain rfl:i=0:=by omega
                   rfl
 |f+1,w,0,_,_,h=>BX h
 |f+1,w,i+1,hi,h,h'=>by
  have e: ∀j,it (cH m b) (j+1) w=it (cH m b) j (cH m b w):=fun j=>by rw [BU];rfl
  have h0:w/4=(c:Int):=h 0 (by omega);rw [Fj h0,e];rw [e] at h';exact TU f (cH m b w) i (by omega) (fun j hj=>by rw [<-e];exact h (j+1) (by omega)) h'
theorem Mm: ∀(f:Nat) (w:Int),∃i,i<=f/\(∀j,j<i->it (cH m b) j w/4=(c:Int))/\dn m b c f w=it (cH m b) i w
 |0,w=>⟨0,by omega,fun j hj=>by omega,rfl⟩
 |f+1,w=>by
  by_cases h0:w/4=(c:Int)
  ·obtain ⟨i,h1,h2,h3⟩:=Mm f (cH m b w);have e: ∀j,it (cH m b) (j+1) w=it (cH m b) j (cH m b w):=fun j=>by rw [BU];rfl
   refine ⟨i+1,by omega,fun j hj=>?_,by rw [Fj h0,e];exact h3⟩;cases j with
   |zero=>exact h0
   |succ j=>rw [e];exact h2 j (by omega)
  ·exact ⟨0,by omega,fun j hj=>by omega,BX h0⟩
def O0 (m:List Int) (b:Bool) (c:Nat) (h:Nat) (y:Int):Prop:= ∃i,(∀j,j<=i->it (cH m b) j (m.getD h 0)/4=(c:Int))/\(y=it (cH m b) i (m.getD h 0)\/y=aI b (it (cH m b) i (m.getD h 0)))
theorem TT: ∀(f:Nat) (w:Int) (u:Int->Bool) (y:Int),thrU m b c f w u y=true↔u y=true\/ ∃i,i<f/\(∀j,j<=i->it (cH m b) j w/4=(c:Int))/\(y=it (cH m b) i w\/y=aI b (it (cH m b) i w))
 |0,w,u,y=>by
  constructor
  ·intro h;exact .inl h
  ·rintro (h|⟨i,hi,_⟩)
   ·exact h
   ·omega
 |f+1,w,u,y=>by
  have e: ∀j,it (cH m b) (j+1) w=it (cH m b) j (cH m b w):=fun j=>by rw [BU];rfl
  by_cases h0:w/4=(c:Int)
  ·rw [SB h0,show m.getD (aI b w).toNat 0=cH m b w from rfl,TT f];constructor
   ·rintro (h|⟨i,hi,h1,h2⟩)
    ·simp only [mv,Bool.or_eq_true,beq_iff_eq] at h;rcases h with (h|h)|h
     ·exact .inl h
     ·exact .inr ⟨0,by omega,fun j hj=>by obtain rfl:j=0:=by omega
                                          exact h0, .inl h⟩
     ·exact .inr ⟨0,by omega,fun j hj=>by obtain rfl:j=0:=by omega
                                          exact h0, .inr h⟩
    ·refine .inr ⟨i+1,by omega,fun j hj=>?_,by rw [e];exact h2⟩;cases j with
     |zero=>exact h0
     |succ j=>rw [e];exact h1 j (by omega)
   ·rintro (h|⟨i,hi,h1,h2⟩)
    ·exact .inl (by simp [mv,h])
    ·cases i with
     |zero=>
      refine .inl ?_;simp only [mv,Bool.or_eq_true,beq_iff_eq];rcases h2 with h2|h2
      ·exact .inl (.inr h2)
      ·exact .inr h2
     |succ i=>
      rw [e] at h2;exact .inr ⟨i,by omega,fun j hj=>by rw [<-e];exact h1 (j+1) (by omega),h2⟩
  ·rw [SA h0];constructor
   ·exact .inl
   ·rintro (h|⟨i,_,h1,_⟩)
    ·exact h
    ·exact absurd (h1 0 (by omega)) h0
theorem TR (hp:iv m n) (hc:c<n) {h:Nat} (hh:h<4*n) (ho:h/4≠c) {i:Nat} (h1: ∀j,j<=i->it (cH m b) j (m.getD h 0)/4=(c:Int)):i<5:=by
 obtain ⟨k,k1,k2,k3⟩:=Mm (m:=m) (b:=b) (c:=c) 5 (m.getD h 0)
 have:=Eb (b:=b) hp hc hh ho
 rw [k3] at this;by_cases hk:k<=i
 ·exact absurd (h1 k hk) this
 ·omega
theorem R8 (hp:iv m n) (hc:c<n) (y:Int): ∀k,k<=4*n->(nf m b c k y=true↔ ∃h,h<k/\h/4≠c/\O0 m b c h y)
 |0,_=>by
  constructor
  ·intro h;cases h
  ·rintro ⟨h,hh,_⟩;omega
 |k+1,hk=>by
  have ih:=R8 hp hc y k (by omega);simp only [nf]
  split
  ·rename_i e
   rw [ih];constructor
   ·rintro ⟨h,h1,h2⟩;exact ⟨h,by omega,h2⟩
   ·rintro ⟨h,h1,h2,h3⟩
    have:h≠k:=fun e'=>h2 (by rw [e'];exact e)
    exact ⟨h,by omega,h2,h3⟩
  ·rename_i e
   rw [TT,ih];constructor
   ·rintro (⟨h,h1,h2⟩|⟨i,h1,h2,h3⟩)
    ·exact ⟨h,by omega,h2⟩
    ·exact ⟨k,by omega,e,i,h2,h3⟩
   ·rintro ⟨h,h1,h2,i,h3,h4⟩;by_cases e':h=k
    ·subst e';exact .inr ⟨i,TR hp hc (by omega) h2 h3,h3,h4⟩
    ·exact .inl ⟨h,by omega,h2,i,h3,h4⟩
theorem Fo: ∀(f:Nat) (x:Int) (u:Int->Bool) (y:Int),u y=true->qw m b f x u y=true
 |0,_,_,_,h=>h
 |f+1,x,u,y,h=>by
  unfold qw
  split
  ·exact h
  ·exact Fo f _ _ _ (by simp [mv,h])
end
def fh (c:Nat) (y:Int):Int:=if (c:Int)<y/4 then y-4 else y
def mA (c:Nat) (x:Int):Int:=if x/4<(c:Int) then x else x+4
theorem Fg (c:Nat) (x:Int):mA c x/4≠(c:Int):=by unfold mA;split<;>omega
theorem LR (c:Nat) (x:Int):fh c (mA c x)=x:=by unfold fh mA;split<;>split<;>omega
theorem EV {c:Nat} {y:Int} (h:y/4≠(c:Int)):mA c (fh c y)=y:=by unfold fh mA;split<;>split<;>omega
theorem Ff {n c:Nat} {x:Int} (hx:av (n-1) x):av n (mA c x):=by unfold av at*;unfold mA;split<;>omega
theorem ML {n c:Nat} (hc:c<n) {y:Int} (hy:av n y) (h:y/4≠(c:Int)):av (n-1) (fh c y):=by unfold av at*;unfold fh;split<;>omega
def Ck (ch:Nat->Bool) (c:Nat) (i:Nat):Bool:=ch (if i<c then i else i+1)
theorem OG {c:Nat} (ch:Nat->Bool) {y:Int} (h0:0<=y) (h:y/4≠(c:Int)):aI (Ck ch c (fh c y/4).toNat) (fh c y)=fh c (aI (ch (y/4).toNat) y):=by
 have hd:=qG (ch (y/4).toNat) y;unfold fh Ck;rw [hd];by_cases e:(c:Int)<y/4
 ·rw [zzJ e,zzJ e,zzI (by omega),show ((y-4)/4).toNat+1=(y/4).toNat by omega]
  have:=y1d (ch (y/4).toNat) (y-4) 1
  rw [show y-4+4*((1:Nat):Int)=y by omega] at this;omega
 ·rw [zzI e,zzI e,zzJ (by omega)]
section
variable {m m':List Int} {n c:Nat} {b:Bool} {mt jn mt' jn':Int->Int} (hp:iF m n) (hc:c<n) (hi:Inv2 n mt jn) (nv: ∀x,mt x=m.getD x.toNat 0) (uJ: ∀x,jn x/4=x/4) (nU: ∀x,x/4=(c:Int)->jn x=aI b x)
theorem iF.dw (hp:iF m n):iv m n:=⟨hp.ok,hp.inv⟩
include nU nv
theorem Ml {h:Nat} {i:Nat} (dA: ∀j,j<i->it (cH m b) j (m.getD h 0)/4=(c:Int)):aX mt jn h (it (cH m b) i (m.getD h 0)):=by
 induction i with
 |zero=>
  have h1:=aX.mate (mt:=mt) (jn:=jn) (.refl (h:Int));rw [nv] at h1;exact h1
 |succ i ih=>
  have h1:=aX.mate (aX.join (ih fun j hj=>dA j (by omega)));rw [nU _ (dA i (by omega)),nv] at h1;exact h1
theorem y8j {h:Nat} {y:Int} (ht:O0 m b c h y):aX mt jn h y:=by
 obtain ⟨i,h1,rfl|rfl⟩:=ht
 ·exact Ml nv nU fun j hj=>h1 j (by omega)
 ·have h2:=aX.join (Ml nv nU (i:=i) fun j hj=>h1 j (by omega));rwa [nU _ (h1 i (zzA _))] at h2
variable (oK:Inv2 (n-1) mt' jn') (qR: ∀x:Nat,x<4*(n-1)->mt' x=fh c (dn m b c 5 (m.getD (mA c x).toNat 0))) (uH: ∀y:Int,0<=y->y/4≠(c:Int)->jn' (fh c y)=fh c (jn y))
include hp hc hi uJ oK qR uH
omit hi in
theorem y8k {x y:Int} (hx:av (n-1) x) (h:aX mt' jn' x y):aX mt jn (mA c x) (mA c y):=by
 induction h with
 |refl=>exact .refl _
 | @mate y h ih=>
   have hy:=h.iP oK hx;have hr:=Ff (c:=c) hy;have ho:=Fg c y;obtain ⟨k,rfl⟩: ∃k:Nat,y=k:=⟨y.toNat,by unfold av at hy;omega⟩;obtain ⟨u,hu⟩: ∃u:Nat,mA c (k:Int)=u:=⟨(mA c (k:Int)).toNat,by unfold av at hr;omega⟩;unfold av at hr hy;rw [hu] at ih ho hr;rw [qR k (by omega),hu,zzC,EV (Eb hp.dw hc (by omega) (by omega))]
   obtain ⟨i,_,h2,h3⟩:=Mm (m:=m) (b:=b) (c:=c) 5 (m.getD u 0);rw [h3];exact ih.trans (Ml nv nU h2)
 | @join y h ih=>
   have hy:=h.iP oK hx;have hr:=Ff (c:=c) hy;have ho:=Fg c y;have h1:=uH (mA c y) hr.1 ho;rw [LR] at h1;rw [h1,EV (by rw [uJ];exact ho)];exact ih.trans (.join (.refl _))
omit oK in
theorem WT {x v:Int} (hx:av (n-1) x) (h:aX mt jn (mA c x) v):(v/4≠(c:Int)->aX mt' jn' x (fh c v))/\(v/4=(c:Int)-> ∃z:Nat,z<4*n/\z/4≠c/\aX mt' jn' x (fh c z)/\O0 m b c z v):=by
 have key: ∀z:Nat,z<4*n->z/4≠c->mt' (fh c z)=fh c (dn m b c 5 (m.getD z 0)):=fun z hz ho=>by
  have hk:=ML hc (y:=(z:Int)) (by unfold av;omega) (by omega);have h1:=EV (c:=c) (y:=(z:Int)) (by omega);unfold av at hk;obtain ⟨k,sy⟩: ∃k:Nat,fh c (z:Int)=k:=⟨(fh c (z:Int)).toNat,by omega⟩;rw [sy] at h1 hk⊢;rw [qR k (by omega),h1,zzC]
 induction h with
 |refl=>exact ⟨fun _=>by rw [LR];exact .refl _,fun e=>absurd e (Fg c x)⟩
 | @mate v h ih=>
   have hv:=h.iP hi (Ff hx);have Yw:=hi.mr _ hv;by_cases dA:v/4=(c:Int)
   ·obtain ⟨z,z1,z2,z3,i,z4,z5⟩:=ih.2 dA;rcases z5 with z5|z5
    ·cases i with
     |zero=>
      have e:mt v=z:=by rw [z5];show mt (m.getD z 0)=_;rw [nv,hp.inv z z1]
      rw [e];exact ⟨fun _=>z3,fun e=>absurd e (by omega)⟩
     |succ k=>
      have e:mt v=aI b (it (cH m b) k (m.getD z 0)):=by
       have hk:=z4 k (by omega);have hd:=qG b (it (cH m b) k (m.getD z 0));rw [z5];show mt (m.getD (aI b (it (cH m b) k (m.getD z 0))).toNat 0)=_;have h2:=hp.inv (aI b (it (cH m b) k (m.getD z 0))).toNat (by omega);rw [nv,h2];omega
      rw [e];have P9:aI b (it (cH m b) k (m.getD z 0))/4=(c:Int):=by rw [qG];exact z4 k (by omega)
      exact ⟨fun e=>absurd P9 e,fun _=>⟨z,z1,z2,z3,k,fun j hj=>z4 j (by omega), .inr rfl⟩⟩
    ·have e:mt v=it (cH m b) (i+1) (m.getD z 0):=by rw [z5,nv];rfl
     rw [e];refine ⟨fun ho=>?_,fun An=>⟨z,z1,z2,z3,i+1,fun j hj=>?_, .inl rfl⟩⟩
     ·have h5:=TR (b:=b) hp.dw hc z1 z2 z4;have h6:=TU (c:=c) 5 (m.getD z 0) (i+1) (by omega) (fun j hj=>z4 j (by omega)) ho;have h7:=z3.mate;rw [key z z1 z2,h6] at h7;exact h7
     ·by_cases jh:j<=i
      ·exact z4 j jh
      ·obtain rfl:j=i+1:=by omega
       exact An
   ·have h0:=ih.1 dA;unfold av at hv;obtain ⟨z,rfl⟩: ∃z:Nat,v=z:=⟨v.toNat,by omega⟩;refine ⟨fun ho=>?_,fun An=>⟨z,by omega,by omega,h0,0,fun j hj=>?_, .inl ?_⟩⟩
    ·have h7:=h0.mate;rw [key z (by omega) (by omega),BX (by rw [nv] at ho;exact ho)] at h7;rw [nv];exact h7
    ·obtain rfl:j=0:=by omega
     rw [nv] at An;exact An
    ·rw [nv];rfl
 | @join v h ih=>
   have hv:=h.iP hi (Ff hx);by_cases dA:v/4=(c:Int)
   ·obtain ⟨z,z1,z2,z3,i,z4,z5⟩:=ih.2 dA;rw [nU _ dA];refine ⟨fun e=>absurd (by rw [qG];exact dA) e,fun _=>⟨z,z1,z2,z3,i,z4,?_⟩⟩;rcases z5 with z5|z5
    ·exact .inr (by rw [z5])
    ·exact .inl (by rw [z5,u9])
   ·have h0:=(ih.1 dA).join;rw [uH v hv.1 dA] at h0;exact ⟨fun _=>h0,fun e=>absurd (by rw [<-uJ];exact e) dA⟩
omit oK in
theorem y8l {v:Int} (hv:v/4=(c:Int)):nf m b c (4*n) v=true↔ ∃z:Nat,z<4*n/\z/4≠c/\aX mt jn z v:=by
 rw [R8 hp.dw hc v _ (zzA _)];constructor
 ·rintro ⟨h,h1,h2,h3⟩;exact ⟨h,h1,h2,y8j nv nU h3⟩
 ·rintro ⟨z,z1,z2,z3⟩;have hk:=ML hc (y:=(z:Int)) (by unfold av;omega) (by omega);rw [<-EV (c:=c) (y:=(z:Int)) (by omega)] at z3;obtain ⟨h,h1,h2,_,h4⟩:=(WT hp hc hi nv uJ nU qR uH hk z3).2 hv;exact ⟨h,h1,h2,h4⟩
end
theorem U3 {R:List Int} {N:Nat} (hR:mW R N) {l:List Nat} (hm: ∀x∈l,x<N) (hp:l.Pairwise fun x y=>R.getD x 0≠R.getD y 0) (cF: ∀x,x<N-> ∃y∈l,R.getD x 0=R.getD y 0):roots R=l.length:=by
 have h1:(l.map fun x=>(R.getD x 0).toNat).Nodup:=by
  rw [List.nodup_iff_pairwise_ne,List.pairwise_map];refine hp.imp_of_mem fun ha hb h e=>h ?_
  have:=hR.iP _ (hm _ ha)
  have:=hR.iP _ (hm _ hb)
  omega
 have h2:roots R=((List.range N).filter fun x=>R.getD x 0==(x:Int)).length:=by unfold roots;rw [hR.len,List.countP_eq_length_filter]
 have h3:((List.range N).filter fun x=>R.getD x 0==(x:Int)).Nodup:=List.nodup_range.filter _;rw [h2];refine Nat.le_antisymm ?_ ?_
 ·have:=Ks h3 (k:=l.map fun x=>(R.getD x 0).toNat) fun x hx=>?_
  ·rwa [List.length_map] at this
  ·obtain ⟨h4,h5⟩:=List.mem_filter.1 hx;obtain ⟨y,h6,h7⟩:=cF x (List.mem_range.1 h4);have h8:=eq_of_beq h5;exact List.mem_map.2 ⟨y,h6,by omega⟩
 ·have:=Ks h1 (k:=(List.range N).filter fun x=>R.getD x 0==(x:Int)) fun x hx=>?_
  ·rwa [List.length_map] at this
  ·obtain ⟨y,h6,h7⟩:=List.mem_map.1 hx;have h8:=hR.iP y (hm y h6);have h9:=hR.idem y (hm y h6);rw [h7] at h9;exact List.mem_filter.2 ⟨List.mem_range.2 (by omega),by rw [h9];exact beq_iff_eq.2 (by omega)⟩
section
variable {m m':List Int} {n c:Nat} {b:Bool} {mt jn mt' jn':Int->Int} (hp:iF m n) (hc:c<n) (hi:Inv2 n mt jn) (nv: ∀x,mt x=m.getD x.toNat 0) (uJ: ∀x,jn x/4=x/4) (nU: ∀x,x/4=(c:Int)->jn x=aI b x)
include nv nU
theorem R7: ∀(f:Nat) (x:Int) (u:Int->Bool) (y:Int),x/4=(c:Int)->(∀z,z/4=(c:Int)->u z=false->cH m b z/4=(c:Int))->qw m b f x u y=true->u y=true\/aX mt jn x y
 |0,_,_,_,_,_,h=> .inl h
 |f+1,x,u,y,hx,hu,h=>by
  cases e:u x with
  |true=>rw [VZ e] at h;exact .inl h
  |false=>
   rw [IQ e] at h;have s1:aX mt jn x (aI b x):=by have:=aX.join (aX.refl (mt:=mt) (jn:=jn) x);rwa [nU _ hx] at this
   rcases R7 f _ _ y (hu x hx e) (fun z hz h'=>hu z hz (by simp only [mv,Bool.or_eq_false_iff] at h';exact h'.1.1)) h with h1|h1
   ·simp only [mv,Bool.or_eq_true,beq_iff_eq] at h1;rcases h1 with (h1|rfl)|rfl
    ·exact .inl h1
    ·exact .inr (.refl _)
    ·exact .inr s1
   ·have s2:=s1.mate;rw [nv] at s2;exact .inr (s2.trans h1)
variable (oK:Inv2 (n-1) mt' jn') (qR: ∀x:Nat,x<4*(n-1)->mt' x=fh c (dn m b c 5 (m.getD (mA c x).toNat 0))) (uH: ∀y:Int,0<=y->y/4≠(c:Int)->jn' (fh c y)=fh c (jn y))
include hp hc hi uJ oK qR uH
theorem y46 {R R':List Int} (hR:j9 n mt jn R) (Aw:j9 (n-1) mt' jn' R'):(roots R:Int)=roots R'+n9 m b c n:=by
 obtain ⟨u0,Et⟩: ∃u,u=nf m b c (4*n):=⟨_,rfl⟩;have hS: ∀v:Int,v/4=(c:Int)->(u0 v=true↔ ∃z:Nat,z<4*n/\z/4≠c/\aX mt jn z v):=fun v hv=>by rw [Et];exact y8l hp hc hi nv uJ nU qR uH hv
 have bF:Cd b u0:=by rw [Et];exact yx1 _
 have dA: ∀z:Int,z/4=(c:Int)->u0 z=false->cH m b z/4=(c:Int):=fun z hz h=>Xo hp.dw hc hz (by rw [<-Et];exact h);obtain ⟨X,hX⟩: ∃X:Nat,X=if b then 4*c+1 else 4*c+3:=⟨_,rfl⟩;have hXi:(if b then 4*(c:Int)+1 else 4*(c:Int)+3)=(X:Int):=by rw [hX];split<;>simp
 obtain ⟨J,hJ,Y1⟩: ∃J:Nat,aI b (4*(c:Int))=J/\J=if b then 4*c+3 else 4*c+1:=by
  obtain ⟨a1,_,_,_,a5,_,_,_⟩:=IG c;refine ⟨_,?_,rfl⟩;rw [show 4*(c:Int)=((4*c:Nat):Int) by omega];cases b with
  |true=>rw [a1];rfl
  |false=>rw [a5];rfl
 have K4:aI b (X:Int)=((4*c+2:Nat):Int):=by
  obtain ⟨_,a2,_,_,_,_,_,a8⟩:=IG c;rw [hX];cases b with
  |true=>exact a2
  |false=>exact a8
 have hXJ:X≠J/\4*c<X/\X<4*c+4/\4*c<J/\J<4*c+4/\X≠4*c+2/\J≠4*c+2:=by rw [hX,Y1];split<;>omega
 have four: ∀x:Nat,x/4=c->x=4*c\/x=J\/x=X\/x=4*c+2:=fun x hx=>by rw [hX,Y1];split<;>omega
 have c4:(4*(c:Int))/4=(c:Int):=by omega
 have cX:(X:Int)/4=(c:Int):=by omega
 have k4:(4*(c:Int))=((4*c:Nat):Int):=by omega
 obtain ⟨u1,tp⟩: ∃u,u=if u0 (4*c) then u0 else qw m b 5 (4*c) u0:=⟨_,rfl⟩;have zp:u1 X=false->u0 X=false:=fun h=>by
  rw [tp] at h;cases e:u0 X with
  |false=>rfl
  |true=>
   split at h
   ·rw [e] at h;cases h
   ·rw [Fo 5 _ _ _ e] at h;cases h
 have xD:u0 (4*c)=false->u1 X=true->u0 X=true\/aX mt jn ((4*c:Nat):Int) X:=fun h0 h1=>by
  rw [tp,zzI (by rw [h0];simp)] at h1
  have:=R7 nv nU 5 _ u0 _ c4 dA h1
  rwa [<-k4]
 have PY:u0 (4*c)=false->aX mt jn ((4*c:Nat):Int) X->u1 X=true:=fun h0 h1=>by
  rw [tp,zzI (by rw [h0];simp),IQ h0];have hh:=dA _ c4 h0;obtain ⟨h,YI⟩: ∃h:Nat,cH m b (4*c)=h:=⟨(cH m b (4*c)).toNat,by omega⟩;rw [YI] at hh⊢;rw [hJ];have PV:m.getD J 0=h:=by rw [<-YI];unfold cH;rw [hJ,zzC]
  have Ye:Cd b (mv u0 (4*c) J):=by rw [<-hJ];exact U5 bF _
  have key:mv u0 (4*c) J h=false->(h=X\/h=4*c+2)->qw m b 4 h (mv u0 (4*c) J) X=true:=fun e1 e2=>by
   rw [IQ e1];refine Fo 3 _ _ _ ?_;rcases e2 with rfl|rfl
   ·simp [mv]
   ·rw [<-K4,u9];simp [mv]
  rcases four h (by omega) with e|e|e|e
  ·exfalso;have sD: ∀y,aX mt jn ((4*c:Nat):Int) y->y=((4*c:Nat):Int)\/y=J:=fun y hy=>by
    have h2:=hp.inv J (by omega);rw [PV,e,zzC] at h2
    induction hy with
    |refl=>exact .inl rfl
    |mate _ ih=>
     rcases ih with rfl|rfl
     ·right;rw [nv,zzC];exact h2
     ·left;rw [nv,zzC,PV,e]
    |join _ ih=>
     rcases ih with rfl|rfl
     ·right;rw [nU _ (by omega),<-k4];exact hJ
     ·left;rw [nU _ (by omega),<-hJ,u9];exact k4
   rcases sD _ h1 with e'|e'<;>omega
  ·exact absurd (by rw [PV,e]) (hp.ne J (by omega))
  ·cases e1:mv u0 (4*c) J h with
   |true=>exact Fo 4 _ _ _ (by rw [<-e];exact e1)
   |false=>exact key e1 (.inl e)
  ·cases e1:mv u0 (4*c) J h with
   |true=>refine Fo 4 _ _ _ ?_;rw [Ye,K4,<-e];exact e1
   |false=>exact key e1 (.inr e)
 have uF:n9 m b c n=(if u0 (4*c) then 0 else 1)+(if u1 X then 0 else 1):=by
  unfold n9;simp only;rw [hXi,tp,Et]
 have zt: ∀x y:Nat,x<4*n->y<4*n->(R.getD x 0=R.getD y 0↔aX mt jn x y):=hR.iff;have FP: ∀k,k<4*(n-1)->(((mA c k).toNat:Nat):Int)=mA c k/\(mA c k).toNat<4*n/\(mA c k).toNat/4≠c:=fun k hk=>by
  have h1:=Ff (n:=n) (c:=c) (x:=(k:Int)) (by unfold av;omega);have h2:=Fg c k;unfold av at h1;omega
 have ji: ∀k,k<4*(n-1)-> ∀v:Nat,v/4=c->v<4*n->u0 v=false->R.getD (mA c k).toNat 0≠R.getD v 0:=fun k hk v hv CJ h0 e=>by
  obtain ⟨g1,g2,g3⟩:=FP k hk
  have:=(hS v (by omega)).2 ⟨_,g2,g3,(zt _ _ g2 CJ).1 e⟩
  rw [h0] at this;cases this
 have fin:roots R=(((List.range (4*(n-1))).filter fun x=>R'.getD x 0==(x:Int)).map (fun k:Nat=>(mA c k).toNat)++((if u0 (4*c) then [] else [4*c])++(if u1 X then [] else [X]))).length:=by
  refine U3 hR.rep (fun x hx=>?_) ?_ (fun x hx=>?_)
  ·rcases List.mem_append.1 hx with h|h
   ·obtain ⟨k,h1,rfl⟩:=List.mem_map.1 h;exact (FP k (List.mem_range.1 (List.mem_filter.1 h1).1)).2.1
   ·rcases List.mem_append.1 h with h|h
    ·split at h
     ·cases h
     ·obtain rfl:=List.mem_singleton.1 h;omega
    ·split at h
     ·cases h
     ·obtain rfl:=List.mem_singleton.1 h;omega
  ·refine List.pairwise_append.2 ⟨?_,List.pairwise_append.2 ⟨?_,?_,fun x hx y hy e=>?_⟩,fun x hx y hy=>?_⟩
   ·rw [List.pairwise_map];refine (List.nodup_iff_pairwise_ne.1 (List.nodup_range.filter _)).imp_of_mem fun {a b} ha hb aA e=>aA ?_;obtain ⟨a1,a2⟩:=List.mem_filter.1 ha;obtain ⟨b1,b2⟩:=List.mem_filter.1 hb;have a1:=List.mem_range.1 a1;have b1:=List.mem_range.1 b1;obtain ⟨g1,g2,g3⟩:=FP a a1;obtain ⟨f1,f2,f3⟩:=FP b b1;have h1:=(zt _ _ g2 f2).1 e;rw [g1,f1] at h1
    have h2:=(WT hp hc hi nv uJ nU qR uH (by unfold av;omega) h1).1 (Fg c b);rw [LR] at h2;have h3:=(Aw.iff a b a1 b1).2 h2;have a2:=eq_of_beq a2;have b2:=eq_of_beq b2;omega
   ·split<;>simp
   ·split<;>simp
   ·split at hx
    ·cases hx
    ·split at hy
     ·cases hy
     ·rename_i h0 h1
      obtain rfl:=List.mem_singleton.1 hx;obtain rfl:=List.mem_singleton.1 hy;exact h1 (PY (Bool.eq_false_iff.2 h0) ((zt _ _ (by omega) (by omega)).1 e))
   ·obtain ⟨k,h1,rfl⟩:=List.mem_map.1 hx;have hk:=List.mem_range.1 (List.mem_filter.1 h1).1;rcases List.mem_append.1 hy with h|h
    ·split at h
     ·cases h
     ·rename_i h0
      obtain rfl:=List.mem_singleton.1 h;exact ji k hk _ (by omega) (by omega) (by rw [<-k4];exact Bool.eq_false_iff.2 h0)
    ·split at h
     ·cases h
     ·rename_i h0
      obtain rfl:=List.mem_singleton.1 h;exact ji k hk _ (by omega) (by omega) (zp (Bool.eq_false_iff.2 h0))
  ·have Gh: ∀z:Nat,z<4*n->z/4≠c-> ∃y∈((List.range (4*(n-1))).filter fun x=>R'.getD x 0==(x:Int)).map (fun k:Nat=>(mA c k).toNat),R.getD z 0=R.getD y 0:=fun z hz ho=>by
    have hk:=ML hc (y:=(z:Int)) (by unfold av;omega) (by omega);have h1:=EV (c:=c) (y:=(z:Int)) (by omega);unfold av at hk;obtain ⟨k,sy⟩: ∃k:Nat,fh c (z:Int)=k:=⟨(fh c (z:Int)).toNat,by omega⟩;rw [sy] at h1 hk;have zq:k<4*(n-1):=by omega
    have r1:=Aw.rep.iP k zq;have r2:=Aw.rep.idem k zq;obtain ⟨r,hr⟩: ∃r:Nat,R'.getD k 0=r:=⟨(R'.getD k 0).toNat,by omega⟩;rw [hr] at r1 r2;rw [zzC] at r2;have tu:r<4*(n-1):=by omega
    obtain ⟨f1,f2,f3⟩:=FP r tu;refine ⟨(mA c r).toNat,List.mem_map.2 ⟨r,List.mem_filter.2 ⟨List.mem_range.2 tu,beq_iff_eq.2 r2⟩,rfl⟩,?_⟩;refine (zt _ _ hz f2).2 ?_;rw [f1,<-h1];exact y8k hp hc nv uJ nU oK qR uH (by unfold av;omega) ((Aw.iff k r zq tu).1 (by rw [hr,r2]))
   by_cases ho:x/4=c
   ·cases e0:u0 x with
    |true=>
     obtain ⟨z,z1,z2,z3⟩:=(hS x (by omega)).1 e0;obtain ⟨y,y1,y2⟩:=Gh z z1 z2;exact ⟨y,List.mem_append_left _ y1,by rw [<-y2];exact ((zt _ _ z1 hx).2 z3).symm⟩
    |false=>
     have q1:u0 (4*c)=false->aX mt jn ((4*c:Nat):Int) x-> ∃y∈((List.range (4*(n-1))).filter fun x=>R'.getD x 0==(x:Int)).map (fun k:Nat=>(mA c k).toNat)++((if u0 (4*c) then [] else [4*c])++(if u1 X then [] else [X])),R.getD x 0=R.getD y 0:=fun h0 h1=>
      ⟨4*c,List.mem_append_right _ (List.mem_append_left _ (by rw [h0];simp)),((zt _ _ (by omega) hx).2 h1).symm⟩
     have q2:u1 X=false->aX mt jn X x-> ∃y∈((List.range (4*(n-1))).filter fun x=>R'.getD x 0==(x:Int)).map (fun k:Nat=>(mA c k).toNat)++((if u0 (4*c) then [] else [4*c])++(if u1 X then [] else [X])),R.getD x 0=R.getD y 0:=fun h0 h1=>
      ⟨X,List.mem_append_right _ (List.mem_append_right _ (by rw [h0];simp)),((zt _ _ (by omega) hx).2 h1).symm⟩
     have j1:aX mt jn ((4*c:Nat):Int) J:=by
      have:=aX.join (aX.refl (mt:=mt) (jn:=jn) ((4*c:Nat):Int))
      rwa [nU _ (by omega),<-k4,hJ,k4] at this
     have j2:aX mt jn X ((4*c+2:Nat):Int):=by
      have:=aX.join (aX.refl (mt:=mt) (jn:=jn) (X:Int))
      rwa [nU _ cX,K4] at this
     have p1:u0 J=u0 (4*c):=by rw [bF (4*c),hJ]
     have p2:u0 ((4*c+2:Nat):Int)=u0 X:=by rw [bF X,K4]
     have q3:u0 X=false->aX mt jn X x-> ∃y∈((List.range (4*(n-1))).filter fun x=>R'.getD x 0==(x:Int)).map (fun k:Nat=>(mA c k).toNat)++((if u0 (4*c) then [] else [4*c])++(if u1 X then [] else [X])),R.getD x 0=R.getD y 0:=fun h0 h1=>by
      by_cases e1:u1 X=true
      ·by_cases e2:u0 (4*c)=true
       ·rw [tp,zzJ e2,h0] at e1;cases e1
       ·rcases xD (Bool.eq_false_iff.2 e2) e1 with h2|h2
        ·rw [h0] at h2;cases h2
        ·exact q1 (Bool.eq_false_iff.2 e2) (h2.trans h1)
      ·exact q2 (Bool.eq_false_iff.2 e1) h1
     rcases four x ho with rfl|rfl|rfl|rfl
     ·exact q1 (by rw [k4];exact e0) (.refl _)
     ·exact q1 (by rw [<-p1];exact e0) j1
     ·exact q3 e0 (.refl _)
     ·exact q3 (by rw [<-p2];exact e0) j2
   ·obtain ⟨y,y1,y2⟩:=Gh x hx ho;exact ⟨y,List.mem_append_left _ y1,y2⟩
 have nS:roots R'=((List.range (4*(n-1))).filter fun x=>R'.getD x 0==(x:Int)).length:=by unfold roots;rw [Aw.rep.len,List.countP_eq_length_filter]
 rw [uF,fin,zzF,zzF,List.length_map,<-nS];cases u0 (4*c)<;>cases u1 X<;>simp<;>omega
end
theorem OE {m:List Int} {n c:Nat} (hp:iF m n) (hc:c<n) (ch:Nat->Bool) (l5:iF (cO (fv m (ch c) c (4*n)) c n) (n-1)):
  (qe m n ch:Int)=qe (cO (fv m (ch c) c (4*n)) c n) (n-1) (Ck ch c)+n9 m (ch c) c n:=by
 refine y46 (mt:=fun x=>m.getD x.toNat 0) (jn:=fun x=>aI (ch (x/4).toNat) x) (mt':=fun x=>(cO (fv m (ch c) c (4*n)) c n).getD x.toNat 0) (jn':=fun x=>aI (Ck ch c (x/4).toNat) x) hp hc (wK hp.ok hp.inv hp.ne ch) (fun _=>rfl) (fun x=>qG _ x) (fun x hx=>by show aI (ch (x/4).toNat) x=_;rw [hx];rfl) (wK l5.ok l5.inv l5.ne _) (fun x hx=>?_) (fun y h0 h=>OG ch h0 h) (EP hp.ok hp.inv hp.ne) (EP l5.ok l5.inv l5.ne)
 obtain ⟨wl,wg⟩:=Sp.mn (E:=fv m (ch c) c (4*n)) (c:=c) n;rw [zzJ hc] at wl wg;have iR:=hp.ok.1;have e:(mA c (x:Int)).toNat=if x/4<c then x else x+4:=by unfold mA;split<;>split<;>omega
 rw [e];show (cO (fv m (ch c) c (4*n)) c n).getD (Int.toNat (x:Int)) 0=_;rw [zzC,wg x hx];unfold dq;rw [Sp.qK (i:=if x/4<c then x else x+4) (by split<;>omega) (4*n) (by omega) (by split<;>omega)];rfl
set_option linter.unusedSectionVars false
namespace Sp
open Classical
section
variable {N:Nat} {si al si':Nat->Nat}
end
end Sp
section
variable {n:Nat} {f g:Nat->Nat} {m m':List Int}
end
section
variable {m m':List Int} {n L:Nat}
end
theorem jn4 (b:Bool) (c:Nat):aI b ((4*c:Nat):Int)=((if b then 4*c+3 else 4*c+1:Nat):Int)/\aI b ((4*c+1:Nat):Int)=((if b then 4*c+2 else 4*c:Nat):Int)/\aI b ((4*c+2:Nat):Int)=((if b then 4*c+1 else 4*c+3:Nat):Int)/\
  aI b ((4*c+3:Nat):Int)=((if b then 4*c else 4*c+2:Nat):Int):=by
 obtain ⟨a0,a1,a2,a3,b0,b1,b2,b3⟩:=IG c;cases b
 ·exact ⟨b0,b1,b2,b3⟩
 ·exact ⟨a0,a1,a2,a3⟩
theorem WR (s:List Int) (c:Nat):aj s ((4*c:Nat):Int)=false/\aj s ((4*c+1:Nat):Int)=(s.getD c 0==1)/\aj s ((4*c+2:Nat):Int)=true/\aj s ((4*c+3:Nat):Int)=(s.getD c 0== -1):=by
 have e0:((4*c:Nat):Int)% 4=0:=by omega
 have e1:((4*c+1:Nat):Int)% 4=1:=by omega
 have e2:((4*c+2:Nat):Int)% 4=2:=by omega
 have e3:((4*c+3:Nat):Int)% 4=3:=by omega
 have d1:(((4*c+1:Nat):Int)/4).toNat=c:=by omega
 have d3:(((4*c+3:Nat):Int)/4).toNat=c:=by omega
 unfold aj;rw [e0,e1,e2,e3,d1,d3];simp
section
variable {s m:List Int} {L:Int}
end
end Go.Proofs.YtjpbeacamoijhaaGreatDoor
