/- Smoothing and switching keep a diagram valid; the resolution ends; its polynomial. -/
import Derived.Test.YtbblgobamoabkaaGreatDoorSq
import Derived.Test.YtbblgobamoabkaaGreatDoorZc
import Derived.Test.YtbblgobamoabkaaGreatDoorZl
set_option linter.unusedSimpArgs false
set_option linter.unusedVariables false
namespace Go.Proofs.YtbblgobamoabkaaGreatDoor
namespace Sp
section
variable {s m:List Int} {L:Int} {n c:Nat} {b:Bool}
theorem ynd {s:List Int} {c:Nat}: ∀k,(woS s c k).length=(if c<k then k-1 else k)/\ ∀x,x<(if c<k then k-1 else k)->(woS s c k).getD x 0=s.getD (if x<c then x else x+1) 0
 |0=>by simp [woS]
 |k+1=>by
  obtain ⟨h1,h2⟩:=ynd (s:=s) (c:=c) k
  simp only [woS]
  by_cases e:k=c
  ·subst e
   rw [if_pos rfl,if_pos (by omega)]
   rw [if_neg (by omega)] at h1 h2
   refine ⟨by omega,fun x hx=>h2 x (by omega)⟩
  ·rw [if_neg e]
   by_cases hc:c<k
   ·rw [if_pos hc] at h1 h2
    rw [if_pos (by omega)]
    refine ⟨by rw [List.length_append,h1];simp;omega,fun x hx=>?_⟩
    by_cases hx':x<k-1
    ·rw [yfy _ _ _ (by omega)];exact h2 x hx'
    ·obtain rfl:x=k-1:=by omega
     rw [yfz _ _ _ (by omega),h1,Nat.sub_self,if_neg (by omega),show k-1+1=k by omega];rfl
   ·rw [if_neg hc] at h1 h2
    rw [if_neg (by omega)]
    refine ⟨by rw [List.length_append,h1];simp,fun x hx=>?_⟩
    by_cases hx':x<k
    ·rw [yfy _ _ _ (by omega)];exact h2 x hx'
    ·obtain rfl:x=k:=by omega
     rw [yfz _ _ _ (by omega),h1,Nat.sub_self,if_pos (by omega)];rfl
theorem y48 {i:Nat} (hi:i/4≠c): ∀k,k<=m.length->i<k->(smE m b c k).getD i 0=thrX m b c 5 (m.getD i 0):=fun k=>by
 induction k with
 |zero=>intro _ h;omega
 |succ k ih=>
  intro hk hlt
  have hl:=ym2 (m:=m) (b:=b) (c:=c) k
  simp only [smE]
  by_cases hkc:k/4=c
  ·rw [if_pos hkc]
   have:i≠k:=fun e=>hi (by rw [e];exact hkc)
   exact ih (by omega) (by omega)
  ·rw [if_neg hkc]
   by_cases e:k=i
   ·rw [←e,yau (by omega)]
   ·rw [yaq e];exact ih (by omega) (by omega)
theorem yx7 (hv:yap s m L=true):Dia m s.length/\sphR m s.length=true:=by
 have v:=yas hv
 refine ⟨⟨v.prd,fun x hx=>(v.mt x hx).2.2.1⟩,?_⟩
 rw [ygk] at hv
 unfold ygj at hv
 exact (Bool.and_eq_true _ _▸hv).2
theorem y49 {x:Int} (hs:s.getD c 0=1\/s.getD c 0= -1) (hx:x/4=c):outB s (jnB (s.getD c 0== -1) x)= !outB s x:=by
 have e:x=4*c\/x=4*c+1\/x=4*c+2\/x=4*c+3:=by omega
 have d0:(4*(c:Int))/4=c/\(4*(c:Int)+1)/4=c/\(4*(c:Int)+2)/4=c/\(4*(c:Int)+3)/4=c:=by omega
 have r0:(4*(c:Int))% 4=0/\(4*(c:Int)+1)% 4=1/\(4*(c:Int)+2)% 4=2/\(4*(c:Int)+3)% 4=3:=by omega
 obtain ⟨d1,d2,d3,d4⟩:=d0
 obtain ⟨r1,r2,r3,r4⟩:=r0
 rcases hs with hs|hs
 ·have hb:(s.getD c 0== -1)=false:=by rw [hs];decide
  rw [hb]
  obtain ⟨j1,j2,j3,j4⟩:=jnF c
  rcases e with rfl|rfl|rfl|rfl
  ·rw [j1];simp only [outB,d1,d2,r1,r2,Int.toNat_natCast,hs];decide
  ·rw [j2];simp only [outB,d1,d2,r1,r2,Int.toNat_natCast,hs];decide
  ·rw [j3];simp only [outB,d3,d4,r3,r4,Int.toNat_natCast,hs];decide
  ·rw [j4];simp only [outB,d3,d4,r3,r4,Int.toNat_natCast,hs];decide
 ·have hb:(s.getD c 0== -1)=true:=by rw [hs];decide
  rw [hb]
  obtain ⟨j1,j2,j3,j4⟩:=jnT c
  rcases e with rfl|rfl|rfl|rfl
  ·rw [j1];simp only [outB,d1,d4,r1,r4,Int.toNat_natCast,hs];decide
  ·rw [j2];simp only [outB,d2,d3,r2,r3,Int.toNat_natCast,hs];decide
  ·rw [j3];simp only [outB,d2,d3,r2,r3,Int.toNat_natCast,hs];decide
  ·rw [j4];simp only [outB,d1,d4,r1,r4,Int.toNat_natCast,hs];decide
theorem yoc (v:ybz s m L) (hc:c<s.length): ∀f x,InR s.length x->outB s (thrX m (s.getD c 0== -1) c f x)=outB s x
 |0,x,_=>rfl
 |f+1,x,hx=>by
  unfold thrX
  split
  ·rename_i e
   have hd:=ydt (s.getD c 0== -1) x
   have hr:InR s.length (jnB (s.getD c 0== -1) x):=by unfold InR;omega
   rw [yoc v hc f _ (v.prd.rng hr)]
   unfold InR at hr
   have h1:=(v.mt (jnB (s.getD c 0== -1) x).toNat (by omega)).2.2.2.2
   rw [show (((jnB (s.getD c 0== -1) x).toNat:Nat):Int)=jnB (s.getD c 0== -1) x by omega,y49 (v.sg c hc) e] at h1
   cases h2:outB s x<;>cases h3:outB s (m.getD (jnB (s.getD c 0== -1) x).toNat 0)<;>simp_all
  ·rfl
theorem yep:0<=smL m b c n/\smL m b c n<=2:=by
 unfold smL;simp only;split<;>split<;>omega
theorem ys2 (hc:c<s.length) {x y:Nat} (hx:x<4*(s.length-1)) (hy:y=if x/4<c then x else x+4):outB (woS s c s.length) x=outB s y:=by
 obtain ⟨_,h2⟩:=ynd (s:=s) (c:=c) s.length
 rw [if_pos hc] at h2
 have e1:((x:Int)/4).toNat=x/4:=by omega
 have e2:((y:Int)/4).toNat=if x/4<c then x/4 else x/4+1:=by rw [hy];split<;>omega
 have e3:(y:Int)% 4=(x:Int)% 4:=by rw [hy];split<;>omega
 unfold outB
 rw [e1,e2,e3,h2 (x/4) (by omega)]
theorem ygp (hv:yap s m L=true) (hc:c<s.length) (hL:smLp s m c L<=64):yap (smS s c) (smM s m c) (smLp s m c L)=true/\(smS s c).length=s.length-1:=by
 have v:=yas hv
 obtain ⟨hd,hsp⟩:=yx7 hv
 obtain ⟨hd',hsp'⟩:=yu7 (b:=(s.getD c 0== -1)) hd hc hsp
 obtain ⟨w1,w2⟩:=ynd (s:=s) (c:=c) s.length
 rw [if_pos hc] at w1 w2
 obtain ⟨wl,wg⟩:=ym9 (E:=smE m (s.getD c 0== -1) c (4*s.length)) (c:=c) s.length
 rw [if_pos hc] at wl wg
 have hsl:(smS s c).length=s.length-1:=w1
 refine ⟨?_,hsl⟩
 rw [ygk]
 unfold ygj
 rw [hsl,Bool.and_eq_true]
 refine ⟨?_,hsp'⟩
 unfold ycb
 rw [decide_eq_true_iff,hsl]
 have h64:=v.s64
 have hsm:=yep (m:=m) (b:=(s.getD c 0== -1)) (c:=c) (n:=s.length)
 have hl0:=v.l0
 refine ⟨by omega,wl,by unfold smLp;omega,hL,fun i hi=>?_,fun h hh=>?_⟩
 ·unfold smS
  rw [w2 i hi]
  exact v.sg _ (by split<;>omega)
 ·have p1:=hd'.prd.ok.2 h hh
  have p2:=hd'.prd.inv h hh
  have p3:=hd'.ne h hh
  refine ⟨p1.1,by rw [hsl];exact p1.2,p3,p2,?_⟩
  obtain ⟨y,hy⟩: ∃y,y=if h/4<c then h else h+4:=⟨_,rfl⟩
  have hyr:y<4*s.length/\y/4≠c:=by rw [hy];split<;>omega
  unfold smS
  rw [ys2 hc hh hy]
  have e1:(smM s m c).getD h 0=cutM (smE m (s.getD c 0== -1) c (4*s.length)) c y:=by unfold smM;rw [wg h hh,hy]
  have hml:=v.len
  have e2:(smE m (s.getD c 0== -1) c (4*s.length)).getD y 0=thrX m (s.getD c 0== -1) c 5 (m.getD y 0):=y48 hyr.2 _ (by omega) hyr.1
  have hout:=ykz (b:=(s.getD c 0== -1)) v.prd hc hyr.1 hyr.2
  have hr0:InR s.length (m.getD y 0):=by have:=v.prd.ok.2 y hyr.1;unfold InR;omega
  have hrng:=yk0 (b:=(s.getD c 0== -1)) v.prd hc 5 _ hr0
  have ho:=yoc v hc 5 _ hr0
  have hne:=(v.mt y hyr.1).2.2.2.2
  have p1':(0:Int)<=(smM s m c).getD h 0/\(smM s m c).getD h 0<4*((s.length-1:Nat):Int):=p1
  unfold cutM at e1
  rw [e2] at e1
  generalize thrX m (s.getD c 0== -1) c 5 (m.getD y 0)=z at*
  unfold InR at hrng
  obtain ⟨z,rfl⟩: ∃q:Nat,z=q:=⟨z.toNat,by omega⟩
  obtain ⟨q,hq⟩: ∃q:Nat,(smM s m c).getD h 0=q:=⟨((smM s m c).getD h 0).toNat,by omega⟩
  rw [hq,ys2 (y:=z) hc (by omega) (by rw [hq] at e1;split at e1<;>split<;>omega),ho]
  exact hne
end
end Sp
end Go.Proofs.YtbblgobamoabkaaGreatDoor
namespace Go.Proofs.YtbblgobamoabkaaGreatDoor
namespace Sp
section
variable {s m:List Int} {L:Int} {n c k:Nat}
def tw (k c x:Nat):Nat:=if x/4=c then x-x % 4+(x % 4+k)% 4 else x
theorem yl8 (k c x:Nat):tw k c x/4=x/4:=by unfold tw;split<;>omega
theorem yg7 {x:Nat} (hx:x<4*n):tw k c x<4*n:=by have:=yl8 k c x;omega
theorem ydp {x:Nat} (h:x/4≠c):tw k c x=x:=by unfold tw;rw [if_neg h]
theorem yhm {x:Nat} (hk:k=1\/k=3):tw (4-k) c (tw k c x)=x/\tw k c (tw (4-k) c x)=x:=by
 by_cases h:x/4=c
 ·unfold tw
  simp only [h,if_true]
  rw [if_pos (by omega),if_pos (by omega)]
  rcases hk with rfl|rfl<;>omega
 ·rw [ydp h,ydp h,ydp h];exact ⟨rfl,rfl⟩
theorem yl9 {x y:Nat} (hk:k=1\/k=3) (e:tw k c x=tw k c y):x=y:=by
 rw [←(yhm (c:=c) (x:=x) hk).1,e,(yhm hk).1]
theorem y8k (x:Nat) (hk:k=1\/k=3):tw k c (siD x)=siD (tw k c x):=by
 by_cases h:x/4=c
 ·have h1:=yhj x
  have h2:=yl8 k c x
  unfold tw siD
  rw [if_pos (by unfold siD at h1;omega),if_pos h]
  rcases hk with rfl|rfl<;>omega
 ·rw [ydp h,ydp (by rw [yhj];exact h)]
theorem y2v (hs:s.getD c 0=1\/s.getD c 0= -1) (x:Nat):ya1 x (exBy s (· ==(c:Int)) ((x:Int)/4))=(tw (if s.getD c 0=1 then 1 else 3) c x:Nat):=by
 by_cases h:x/4=c
 ·have e:((x:Int)/4==(c:Int))=true:=by simp;omega
  have e2:((x:Int)/4).toNat=c:=by omega
  unfold exBy tw
  rw [if_pos e,e2,if_pos h]
  split
  ·unfold ya1;rw [show Int.tmod (-3) 4= -3 by decide];omega
  ·unfold ya1;rw [show Int.tmod (-1) 4= -1 by decide];omega
 ·have e:((x:Int)/4==(c:Int))=false:=by simp;omega
  unfold exBy
  rw [if_neg (fun e'=>by have:=e.symm.trans e';cases this),ydp h]
  unfold ya1
  rw [show Int.tmod 0 4=0 by decide];omega
theorem ys3 {to:Int->Int} {t:Nat->Nat} (ht: ∀x:Nat,to x=t x) (hi: ∀x y,t x=t y->x=y) (hl: ∀x,x<m.length->t x<m.length): ∀k,k<=m.length-> ∀i,i<k->(mvM m to k).getD (t i) 0=to (m.getD i 0)
 |0,_,i,h=>by omega
 |k+1,hk,i,h=>by
  have hlen:=yjo m to k
  simp only [mvM]
  rw [ht k,Int.toNat_natCast]
  by_cases e:i=k
  ·subst e;rw [yau (by rw [hlen];exact hl i (by omega))]
  ·rw [yaq (fun e'=>e (hi _ _ e').symm)];exact ys3 ht hi hl k (by omega) i (by omega)
theorem yjw {i:Nat} (hi:i<s.length):(swS s c).getD i 0=if i=c then-s.getD i 0 else s.getD i 0:=by
 unfold swS exS sgM
 rw [List.getD_eq_getElem?_getD,List.getElem?_map,List.getElem?_range hi]
 simp only [Option.map_some,Option.getD_some,exSg]
 by_cases e:i=c
 ·subst e;simp
 ·have: ¬((i:Int)==(c:Int))=true:=by simp;omega
  rw [if_neg this,if_neg e];simp
theorem ycf:(swS s c).length=s.length:=by unfold swS exS;rw [yjp]
def kT (s:List Int) (c:Nat):Nat:=if s.getD c 0=1 then 1 else 3
theorem yf0:kT s c=1\/kT s c=3:=by unfold kT;split<;>simp
theorem ys4 (v:ybz s m L) (hc:c<s.length) {i:Nat} (hi:i<4*s.length):(swM s m c).getD (tw (kT s c) c i) 0=(tw (kT s c) c (alD m i):Nat):=by
 have hs:=v.sg c hc
 have hml:=v.len
 unfold swM exM
 rw [ys3 (t:=tw (kT s c) c) (fun x=>y2v hs x) (fun x y e=>yl9 yf0 e) (fun x hx=>by rw [hml] at hx⊢;exact yg7 hx) m.length (Nat.le_refl _) i (by omega)]
 have h0:=(v.mt i hi).1
 have e:m.getD i 0=((alD m i:Nat):Int):=by unfold alD;omega
 rw [e]
 exact y2v hs _
theorem ys5:(swM s m c).length=m.length:=yjo _ _ _
theorem yne (hs:s.getD c 0=1\/s.getD c 0= -1) (hc:c<s.length) {x:Nat} (hx:x<4*s.length):outB (swS s c) (tw (kT s c) c x)=outB s x:=by
 have hd:=yl8 (kT s c) c x
 have e1:(((tw (kT s c) c x:Nat):Int)/4).toNat=x/4:=by omega
 have e2:((x:Int)/4).toNat=x/4:=by omega
 unfold outB
 rw [e1,e2,yjw (by omega)]
 by_cases h:x/4=c
 ·rw [if_pos h,h]
  have r:x % 4=0\/x % 4=1\/x % 4=2\/x % 4=3:=by omega
  rcases hs with hs|hs
  ·have hk:kT s c=1:=by unfold kT;rw [if_pos hs]
   rw [hk,hs]
   rcases r with r|r|r|r
   ·rw [show (x:Int)% 4=0 by omega,show ((tw 1 c x:Nat):Int)% 4=1 by unfold tw;rw [if_pos h];omega];decide
   ·rw [show (x:Int)% 4=1 by omega,show ((tw 1 c x:Nat):Int)% 4=2 by unfold tw;rw [if_pos h];omega];decide
   ·rw [show (x:Int)% 4=2 by omega,show ((tw 1 c x:Nat):Int)% 4=3 by unfold tw;rw [if_pos h];omega];decide
   ·rw [show (x:Int)% 4=3 by omega,show ((tw 1 c x:Nat):Int)% 4=0 by unfold tw;rw [if_pos h];omega];decide
  ·have hk:kT s c=3:=by unfold kT;rw [if_neg (by omega)]
   rw [hk,hs]
   rcases r with r|r|r|r
   ·rw [show (x:Int)% 4=0 by omega,show ((tw 3 c x:Nat):Int)% 4=3 by unfold tw;rw [if_pos h];omega];decide
   ·rw [show (x:Int)% 4=1 by omega,show ((tw 3 c x:Nat):Int)% 4=0 by unfold tw;rw [if_pos h];omega];decide
   ·rw [show (x:Int)% 4=2 by omega,show ((tw 3 c x:Nat):Int)% 4=1 by unfold tw;rw [if_pos h];omega];decide
   ·rw [show (x:Int)% 4=3 by omega,show ((tw 3 c x:Nat):Int)% 4=2 by unfold tw;rw [if_pos h];omega];decide
 ·rw [if_neg h,ydp h]
theorem ygq (v:ybz s m L) (hc:c<s.length) {i:Nat} (hi:i<4*s.length):alD (swM s m c) i=tw (kT s c) c (alD m (tw (4-kT s c) c i))/\((alD (swM s m c) i:Nat):Int)=(swM s m c).getD i 0:=by
 have h:=ys4 v hc (i:=tw (4-kT s c) c i) (yg7 hi)
 rw [(yhm yf0).2] at h
 refine ⟨?_,?_⟩
 ·unfold alD;rw [h,Int.toNat_natCast];rfl
 ·unfold alD;rw [h,Int.toNat_natCast]
theorem yi5 (hv:yap s m L=true) (hc:c<s.length):yap (swS s c) (swM s m c) L=true:=by
 have v:=yas hv
 obtain ⟨hd,hsp⟩:=yx7 hv
 have hs:=v.sg c hc
 have hS:=hd.sph.1 hsp
 have hk:4-kT s c=1\/4-kT s c=3:=by have:=yf0 (s:=s) (c:=c);omega
 have hal: ∀x,x<4*s.length->alD m x<4*s.length:=fun x hx=>hd.mat.lt x hx
 have ha': ∀x,x<4*s.length->alD (swM s m c) x<4*s.length:=fun x hx=>by rw [(ygq v hc hx).1];exact yg7 (hal _ (yg7 hx))
 have hS':Sph (4*s.length) siD (alD (swM s m c)):=by
  refine hS.embed (io:=tw (4-kT s c) c) (fun x hx=>yg7 hx) (fun x y hx hy e=>yl9 hk e) (fun x hx=>(ych s.length).lt x hx) ha' (fun x hx=>y8k x hk) (fun x hx=>?_)
  rw [(ygq v hc hx).1,(yhm yf0).1]
 have hml:(swM s m c).length=4*s.length:=by rw [ys5];exact v.len
 have hD:Dia (swM s m c) s.length:=by
  refine ⟨⟨⟨hml,fun i hi=>?_⟩,fun x hx=>?_⟩,fun x hx e=>?_⟩
  ·have h1:=(ygq v hc hi).2;have h2:=ha' i hi;omega
  ·have h1:=ygq v hc hx
   have h2:=hS'.mat.inv x hx
   have h3:=ygq v hc (ha' x hx)
   rw [h2] at h3
   rw [←h1.2,Int.toNat_natCast,←h3.2]
  ·have h1:=ygq v hc hx
   exact hS'.mat.ne x hx (by omega)
 rw [ygk]
 unfold ygj
 rw [ycf,Bool.and_eq_true]
 refine ⟨?_,hD.sph.2 hS'⟩
 unfold ycb
 rw [decide_eq_true_iff,ycf]
 refine ⟨v.s64,hml,v.l0,v.l64,fun i hi=>?_,fun h hh=>?_⟩
 ·rw [yjw hi]
  have:=v.sg i hi
  split<;>omega
 ·have p1:=hD.prd.ok.2 h hh
  refine ⟨p1.1,by rw [ycf];exact p1.2,hD.ne h hh,hD.prd.inv h hh,?_⟩
  have q:=ygq v hc hh
  obtain ⟨y,hy⟩: ∃y,y=tw (4-kT s c) c h:=⟨_,rfl⟩
  have hyl:y<4*s.length:=by rw [hy];exact yg7 hh
  have e:h=tw (kT s c) c y:=by rw [hy,(yhm yf0).2]
  rw [←hy] at q
  have hne:=(v.mt y hyl).2.2.2.2
  rw [←q.2,q.1,e,yne hs hc hyl,yne hs hc (hal y hyl)]
  rw [hd.cast hyl];exact hne
end
end Sp
end Go.Proofs.YtbblgobamoabkaaGreatDoor
namespace Go.Proofs.YtbblgobamoabkaaGreatDoor
namespace Sp
section
variable {s m:List Int} {L:Int} {n c k:Nat}
def tI (k c:Nat) (x:Int):Int:=(tw k c x.toNat:Nat)
theorem yqg (x:Nat):tI k c x=(tw k c x:Nat):=by unfold tI;rw [Int.toNat_natCast]
def opN (y:Nat):Nat:=y-y % 4+(y % 4+2)% 4
theorem yx8 (y:Nat):ya1 y 2=(opN y:Nat):=by unfold ya1 opN;rw [show Int.tmod 2 4=2 by decide];omega
theorem y8l (y:Nat) (hk:k=1\/k=3):opN (tw k c y)=tw k c (opN y):=by
 by_cases h:y/4=c
 ·unfold tw opN
  rw [if_pos h,if_pos (by omega)]
  rcases hk with rfl|rfl<;>omega
 ·rw [ydp h,ydp (by unfold opN;omega)]
theorem yjx (v:ybz s m L) {g:Nat} (hg:g<4*s.length):yae m g=(opN (alD m g):Nat)/\opN (alD m g)<4*s.length:=by
 have h:=v.mt g hg
 have e:m.getD g 0=((alD m g:Nat):Int):=by unfold alD;omega
 refine ⟨?_,by unfold opN alD;omega⟩
 unfold yae
 rw [Int.toNat_natCast,e,yx8]
theorem yx9 (v:ybz s m L) (hc:c<s.length) {g:Nat} (hg:g<4*s.length):yae (swM s m c) (tw (kT s c) c g:Nat)=(tw (kT s c) c (opN (alD m g)):Nat):=by
 unfold yae
 rw [Int.toNat_natCast,ys4 v hc hg,yx8,y8l _ yf0]
theorem ys6 (v:ybz s m L) (hc:c<s.length) (x:Nat): ∀(f g:Nat),g<4*s.length->orbG (yae (swM s m c)) (tw (kT s c) c x:Nat) f (tw (kT s c) c g:Nat)=(orbG (yae m) x f g).map (tI (kT s c) c)
 |0,_,_=>rfl
 |f+1,g,hg=>by
  unfold orbG
  by_cases e:g=x
  ·subst e;rw [if_pos rfl,if_pos rfl];rfl
  ·have ne: ¬((tw (kT s c) c g:Nat):Int)=(tw (kT s c) c x:Nat):=fun e'=>e (yl9 (c:=c) (yf0 (s:=s) (c:=c)) (by omega))
   rw [if_neg ne,if_neg (by omega),yx9 v hc hg,(yjx v hg).1,ys6 v hc x f _ (yjx v hg).2,List.map_cons,yqg]
theorem y5a (v:ybz s m L) (hc:c<s.length) {x:Nat} (hx:x<4*s.length) (f:Nat):orbF (yae (swM s m c)) f (tw (kT s c) c x:Nat)=(orbF (yae m) f x).map (tI (kT s c) c):=by
 unfold orbF
 rw [yx9 v hc hx,ys6 v hc x f _ (yjx v hx).2,(yjx v hx).1,List.map_cons,yqg]
structure RelC (N k c:Nat) (st st':List (List Int)×List Bool):Prop where
 fst:st'.1=st.1.map (List.map (tI k c))
 len:st.2.length=N
 len':st'.2.length=N
 get: ∀y,y<N->st'.2.getD (tw k c y) false=st.2.getD y false
theorem RelC.step {want want':Int->Bool} {orb orb':Int->List Int} {st st':List (List Int)×List Bool} (h:RelC (4*n) k c st st') (hk:k=1\/k=3) {x:Nat} (hx:x<4*n) (hw:want' (tw k c x:Nat)=want x)
  (ho:orb' (tw k c x:Nat)=(orb x).map (tI k c)) (hr: ∀g∈orb x,0<=g/\g<4*n):RelC (4*n) k c (cys1 want orb x st) (cys1 want' orb' (tw k c x) st'):=by
 unfold cys1
 rw [h.get x hx,hw]
 split
 ·exact h
 ·refine ⟨?_,?_,?_,fun y hy=>?_⟩
  ·simp only [h.fst,ho,List.map_append,List.map_cons,List.map_nil]
  ·simp only;rw [yfm];exact h.len
  ·simp only;rw [yfm];exact h.len'
  ·simp only
   rw [ho,yem _ _ _ (fun g hg=>?_),yem _ _ _ (fun g hg=>by have:=hr g hg;rw [h.len];omega),h.get y hy]
   ·congr 1
    have:((tw k c y:Nat):Int)∈(orb x).map (tI k c)↔(y:Int)∈orb x:=by
     rw [List.mem_map]
     constructor
     ·rintro ⟨g,hg,e⟩
      have:=hr g hg
      unfold tI at e
      have e2:=yl9 (c:=c) (x:=g.toNat) (y:=y) hk (Int.ofNat.inj e)
      rw [←e2,show ((g.toNat:Nat):Int)=g by omega];exact hg
     ·intro hg;exact ⟨_,hg,yqg y⟩
    exact decide_eq_decide.2 this
   ·obtain ⟨z,hz,rfl⟩:=List.mem_map.1 hg
    have:=hr z hz
    have h2:=yg7 (k:=k) (c:=c) (x:=z.toNat) (n:=n) (by omega)
    rw [h.len'];unfold tI;omega
theorem yeq {want:Int->Bool} {orb:Int->List Int} {st:List (List Int)×List Bool} {x:Nat} (h:want x=false):cys1 want orb x st=st:=by
 unfold cys1;rw [h];simp
theorem yya (v:ybz s m L) (hc:c<s.length): ∀q,q<=s.length->RelC (4*s.length) (kT s c) c (cysN (4*s.length) (outB s) (orbF (yae m) (4*s.length)) (4*q)) (cysN (4*s.length) (outB (swS s c)) (orbF (yae (swM s m c)) (4*s.length)) (4*q))
 |0,_=>⟨by simp [cysN],by simp [cysN],by simp [cysN],fun y hy=>by
  have:=yg7 (k:=kT s c) (c:=c) hy
  simp only [cysN,Nat.mul_zero]
  rw [List.getD_eq_getElem?_getD,List.getD_eq_getElem?_getD,List.getElem?_replicate,List.getElem?_replicate,if_pos hy,if_pos this]⟩
 |q+1,hq=>by
  have ih:=yya v hc q (by omega)
  have hs:=v.sg c hc
  have stp: ∀{st st':List (List Int)×List Bool} (x:Nat),x<4*s.length->RelC (4*s.length) (kT s c) c st st'->RelC (4*s.length) (kT s c) c (cys1 (outB s) (orbF (yae m) (4*s.length)) x st) (cys1 (outB (swS s c)) (orbF (yae (swM s m c)) (4*s.length)) (tw (kT s c) c x) st'):=fun {st st'} x hx h=>
   h.step yf0 hx (yne hs hc hx) (y5a v hc hx _) (fun g hg=>by
    have hR:InR s.length (x:Int):=by unfold InR;omega
    have:=(yc3 (ydl v.prd) hR).2.1 g hg
    unfold InR at this;omega)
  simp only [show 4*(q+1)=4*q+1+1+1+1 by omega,cysN]
  generalize cysN (4*s.length) (outB s) (orbF (yae m) (4*s.length)) (4*q)=st at*
  generalize cysN (4*s.length) (outB (swS s c)) (orbF (yae (swM s m c)) (4*s.length)) (4*q)=st' at*
  by_cases e:q=c
  ·subst e
   have d:(4*(q:Int))/4=q/\(4*(q:Int)+1)/4=q/\(4*(q:Int)+2)/4=q/\(4*(q:Int)+3)/4=q:=by omega
   have r:(4*(q:Int))% 4=0/\(4*(q:Int)+1)% 4=1/\(4*(q:Int)+2)% 4=2/\(4*(q:Int)+3)% 4=3:=by omega
   have o0: ∀t:List Int,outB t ((4*q:Nat):Int)=false:=fun t=>by
    unfold outB;rw [show (((4*q:Nat):Int))% 4=0 by omega];simp
   rcases hs with hs|hs
   ·have hk:kT s q=1:=by unfold kT;rw [if_pos hs]
    have o3:outB s ((4*q+1+1+1:Nat):Int)=false:=by
     unfold outB;rw [show (((4*q+1+1+1:Nat):Int))% 4=3 by omega,show ((((4*q+1+1+1:Nat):Int))/4).toNat=q by omega,hs];decide
    have o1:outB (swS s q) ((4*q+1:Nat):Int)=false:=by
     unfold outB;rw [show (((4*q+1:Nat):Int))% 4=1 by omega,show ((((4*q+1:Nat):Int))/4).toNat=q by omega,yjw hc,if_pos (show q=q from rfl),hs];decide
    rw [yeq o3,yeq (o0 s),yeq o1,yeq (o0 _)]
    have h1:=stp (4*q+1) (by omega) ih
    rw [show tw (kT s q) q (4*q+1)=4*q+1+1 by rw [hk];unfold tw;rw [if_pos (by omega)];omega] at h1
    have h2:=stp (4*q+1+1) (by omega) h1
    rw [show tw (kT s q) q (4*q+1+1)=4*q+1+1+1 by rw [hk];unfold tw;rw [if_pos (by omega)];omega] at h2
    exact h2
   ·have hk:kT s q=3:=by unfold kT;rw [if_neg (by omega)]
    have o1:outB s ((4*q+1:Nat):Int)=false:=by
     unfold outB;rw [show (((4*q+1:Nat):Int))% 4=1 by omega,show ((((4*q+1:Nat):Int))/4).toNat=q by omega,hs];decide
    have o3:outB (swS s q) ((4*q+1+1+1:Nat):Int)=false:=by
     unfold outB;rw [show (((4*q+1+1+1:Nat):Int))% 4=3 by omega,show ((((4*q+1+1+1:Nat):Int))/4).toNat=q by omega,yjw hc,if_pos (show q=q from rfl),hs];decide
    rw [yeq o3,yeq (o0 s),yeq o1,yeq (o0 _)]
    have h1:=stp (4*q+1+1) (by omega) ih
    rw [show tw (kT s q) q (4*q+1+1)=4*q+1 by rw [hk];unfold tw;rw [if_pos (by omega)];omega] at h1
    have h2:=stp (4*q+1+1+1) (by omega) h1
    rw [show tw (kT s q) q (4*q+1+1+1)=4*q+1+1 by rw [hk];unfold tw;rw [if_pos (by omega)];omega] at h2
    exact h2
  ·have t0: ∀x:Nat,x/4=q->tw (kT s c) c x=x:=fun x hx=>ydp (by omega)
   have h1:=stp (4*q) (by omega) ih
   rw [t0 _ (by omega)] at h1
   have h2:=stp (4*q+1) (by omega) h1
   rw [t0 _ (by omega)] at h2
   have h3:=stp (4*q+1+1) (by omega) h2
   rw [t0 _ (by omega)] at h3
   have h4:=stp (4*q+1+1+1) (by omega) h3
   rw [t0 _ (by omega)] at h4
   exact h4
theorem yu9 (hv:yap s m L=true) (hc:c<s.length):yaj (swS s c) (swM s m c)=(yaj s m).map (List.map (tI (kT s c) c)):=by
 have v:=yas hv
 unfold yaj
 rw [ys5,v.len]
 exact (yya v hc s.length (Nat.le_refl _)).fst
end
end Sp
end Go.Proofs.YtbblgobamoabkaaGreatDoor
namespace Go.Proofs.YtbblgobamoabkaaGreatDoor
namespace Sp
def zadd:List Int->List Int->List Int
 |[],q=>q
 |p,[]=>p
 |a::p,b::q=>(a+b)::zadd p q
theorem ys7: ∀(q:List Int) (i:Int),shP 1 (tmsF i q)=tmsF (i+1) q
 |[],_=>rfl
 |a::q,i=>by
  unfold tmsF
  have:=ys7 q (i+1)
  split
  ·exact this
  ·unfold shP at*;rw [List.map_cons,this]
theorem yqh: ∀(q:List Int) (i:Int) (a:Int×Int) (r:List (Int×Int)),tmsF i q=a::r-> ∀t∈r,a.1<t.1
 |[],i,a,r,h=>by simp [tmsF] at h
 |x::q,i,a,r,h=>by
  unfold tmsF at h
  split at h
  ·exact yqh q _ a r h
  ·obtain ⟨rfl,rfl⟩:=List.cons.inj h
   intro t ht
   have:=tmsF_mem q (i+1) t ht
   simp only;omega
theorem y8m {f:Int->Int->Int} {e a:Int} {P Q:List (Int×Int)} (h: ∀t∈Q,e<t.1):mrg f ((e,a)::P) Q=(e,f a 0)::mrg f P Q:=by
 cases Q with
 |nil=>rw [mrg]
 |cons t Q=>obtain ⟨e',b⟩:=t;rw [mrg,if_pos (h _ List.mem_cons_self)]
theorem y8n {f:Int->Int->Int} {e a:Int} {P Q:List (Int×Int)} (h: ∀t∈P,e<t.1):mrg f P ((e,a)::Q)=(e,f 0 a)::mrg f P Q:=by
 cases P with
 |nil=>rw [mrg]
 |cons t P=>obtain ⟨e',b⟩:=t;have:=h _ List.mem_cons_self;simp only at this;rw [mrg,if_neg (by omega),if_pos this]
theorem you {f:Int->Int->Int}: ∀Q:List (Int×Int),mrg f [] Q=Q.map fun t=>(t.1,f 0 t.2)
 |[]=>by rw [mrg];rfl
 |(e,b)::Q=>by rw [mrg,you Q];rfl
theorem yyb {f:Int->Int->Int}: ∀Q:List (Int×Int),mrg f Q []=Q.map fun t=>(t.1,f t.2 0)
 |[]=>by rw [mrg];rfl
 |(e,b)::Q=>by rw [mrg,yyb Q];rfl
theorem yyc: ∀(q:List Int) (i:Int),nz (tmsF i q)=tmsF i q:=fun q i=>by
 unfold nz
 rw [List.filter_eq_self]
 intro t ht
 have:=(tmsF_mem q i t ht).2.2.2
 simpa using this
theorem ys8 (e a:Int) (r:List (Int×Int)):nz ((e,a)::r)=if a=0 then nz r else (e,a)::nz r:=by
 unfold nz
 rw [List.filter_cons]
 by_cases h:a=0
 ·simp [h]
 ·simp [h]
theorem ys9: ∀(p q:List Int) (i:Int),nz (mrg addF (tmsF i p) (tmsF i q))=tmsF i (zadd p q)/\ ∀t∈mrg addF (tmsF i p) (tmsF i q),t.2∈zadd p q
 |[],q,i=>by
  have e:mrg addF (tmsF i []) (tmsF i q)=tmsF i q:=by
   rw [show tmsF i []=[] from rfl,you]
   rw [List.map_congr_left (g:=id) (fun t _=>by simp [addF]),List.map_id]
  rw [e,yyc]
  exact ⟨rfl,fun t ht=>(tmsF_mem q i t ht).2.2.1⟩
 |a::p,[],i=>by
  have e:mrg addF (tmsF i (a::p)) (tmsF i [])=tmsF i (a::p):=by
   rw [show tmsF i []=[] from rfl,yyb]
   rw [List.map_congr_left (g:=id) (fun t _=>by simp [addF]),List.map_id]
  rw [e,yyc]
  exact ⟨rfl,fun t ht=>(tmsF_mem _ i t ht).2.2.1⟩
 |a::p,b::q,i=>by
  obtain ⟨h1,h2⟩:=ys9 p q (i+1)
  have g1: ∀t∈tmsF (i+1) p,i<t.1:=fun t ht=>by have:=tmsF_mem _ _ t ht;omega
  have g2: ∀t∈tmsF (i+1) q,i<t.1:=fun t ht=>by have:=tmsF_mem _ _ t ht;omega
  have hz:zadd (a::p) (b::q)=(a+b)::zadd p q:=rfl
  rw [hz]
  have tl: ∀x,x∈zadd p q->x∈(a+b)::zadd p q:=fun x hx=>List.mem_cons_of_mem _ hx
  have key: ∀X:List (Int×Int),(X=(i,a+b)::mrg addF (tmsF (i+1) p) (tmsF (i+1) q)\/(a+b=0/\X=mrg addF (tmsF (i+1) p) (tmsF (i+1) q)))->nz X=tmsF i ((a+b)::zadd p q)/\ ∀t∈X,t.2∈(a+b)::zadd p q:=fun X hX=>by
   rcases hX with rfl|⟨h0,rfl⟩
   ·refine ⟨?_,fun t ht=>?_⟩
    ·rw [ys8,h1];conv=>rhs;unfold tmsF
    ·rcases List.mem_cons.1 ht with rfl|ht
     ·exact List.mem_cons_self
     ·exact tl _ (h2 t ht)
   ·refine ⟨?_,fun t ht=>tl _ (h2 t ht)⟩
    rw [h1];conv=>rhs;unfold tmsF
    rw [if_pos h0]
  apply key
  by_cases ha:a=0
  ·by_cases hb:b=0
   ·right
    refine ⟨by omega,?_⟩
    conv=>lhs;unfold tmsF
    rw [if_pos ha,if_pos hb]
   ·left
    conv=>lhs;unfold tmsF
    rw [if_pos ha,if_neg hb,y8n g1];simp [addF,ha]
  ·by_cases hb:b=0
   ·left
    conv=>lhs;unfold tmsF
    rw [if_neg ha,if_pos hb,y8m g2];simp [addF,hb]
   ·left
    conv=>lhs;unfold tmsF
    rw [if_neg ha,if_neg hb,mrg,if_neg (by omega),if_neg (by omega)];rfl
theorem ynf: ∀(q:List Int) (i:Int),nz (mrg negF [] (tmsF i q))=tmsF i (q.map fun x=> -x)/\ ∀t∈mrg negF [] (tmsF i q),-t.2∈q
 |[],i=>by rw [show tmsF i []=[] from rfl,you];exact ⟨rfl,fun t ht=>by simp at ht⟩
 |a::q,i=>by
  obtain ⟨h1,h2⟩:=ynf q (i+1)
  rw [you] at h1 h2⊢
  by_cases ha:a=0
  ·subst ha
   rw [show tmsF i (0::q)=tmsF (i+1) q by rw [tmsF];rfl]
   refine ⟨?_,fun t ht=>List.mem_cons_of_mem _ (h2 t ht)⟩
   rw [h1,List.map_cons];conv=>rhs;unfold tmsF
   rw [if_pos (by omega)]
  ·rw [show tmsF i (a::q)=(i,a)::tmsF (i+1) q by rw [tmsF,if_neg ha],List.map_cons]
   refine ⟨?_,fun t ht=>?_⟩
   ·rw [ys8,if_neg (by simp only [negF];omega),h1,List.map_cons];conv=>rhs;unfold tmsF
    rw [if_neg (by omega)];rfl
   ·rcases List.mem_cons.1 ht with rfl|ht
    ·simp [negF]
    ·exact List.mem_cons_of_mem _ (h2 t ht)
theorem yjy (q:List Int) (i:Int) (hi:0<=i) (hl:i+q.length<=1000) (hb: ∀x∈q,-1125899906842624<=x/\x<=1125899906842624):pgB (tmsF i q)=true:=by
 unfold pgB
 rw [Bool.and_eq_true,Bool.and_eq_true,List.all_eq_true,decide_eq_true_iff]
 refine ⟨⟨fun t ht=>?_,by have:=yqf q i;omega⟩,?_⟩
 ·have h1:=tmsF_mem q i t ht
  have h2:=hb _ h1.2.2.1
  simp only [fitB,Bool.and_eq_true,decide_eq_true_eq];omega
 ·split
  ·rename_i a b r e
   have:=yqh q i _ _ e b List.mem_cons_self
   simpa using by omega
  ·rfl
end Sp
end Go.Proofs.YtbblgobamoabkaaGreatDoor
namespace Go.Proofs.YtbblgobamoabkaaGreatDoor
namespace Sp
section
variable {s m:List Int} {L:Int} {n c k:Nat}
theorem yqi: ∀(l r:List Int) (v:List Bool),badS v (l++r)=match badS v l with
  |(some c,v')=>(some c,v')
  |(none,v')=>badS v' r
 |[],r,v=>rfl
 |h::l,r,v=>by
  simp only [List.cons_append,badS]
  by_cases e:v.getD (h/4).toNat false=false/\h % 2=0
  ·rw [if_pos e,if_pos e]
  ·rw [if_neg e,if_neg e];exact yqi l r _
theorem yma: ∀(ls:List (List Int)) (v:List Bool),yed v ls=(badS v ls.flatten).1
 |[],v=>rfl
 |l::ls,v=>by
  simp only [yed,List.flatten_cons]
  rw [yqi]
  split
  ·rename_i e;rw [e]
  ·rename_i v' e;rw [e];exact yma ls v'
def bcN (v:List Bool):List Int->Nat
 |[]=>0
 |h::t=>(if v.getD (h/4).toNat false=false/\h % 2=0 then 1 else 0)+bcN (v.set (h/4).toNat true) t
theorem yqj {v:List Bool} {i j:Nat} (h:v.getD i false=true):(v.set j true).getD i false=true:=by
 by_cases e:j=i
 ·subst e
  have:j<v.length:=Classical.byContradiction fun h'=>by rw [List.getD_eq_getElem?_getD,List.getElem?_eq_none (by omega)] at h;cases h
  exact yau this
 ·rw [yaq e];exact h
theorem yyd (x:Int) (h:0<=x):tI k c x/4=x/4:=by
 unfold tI;have:=yl8 k c x.toNat;omega
theorem yye (x:Int) (h:0<=x) (hx:x/4≠c):tI k c x=x:=by
 unfold tI;rw [ydp (by omega)];omega
theorem y63 (x:Int) (h:0<=x) (hx:x/4=c) (hk:k=1\/k=3):tI k c x % 2≠x % 2:=by
 unfold tI tw;rw [if_pos (by omega)];rcases hk with rfl|rfl<;>omega
theorem yqk: ∀(l:List Int) (v:List Bool),v.getD c false=true->(∀x∈l,0<=x)->bcN v (l.map (tI k c))=bcN v l
 |[],_,_,_=>rfl
 |h::l,v,hv,hl=>by
  have h0:=hl h List.mem_cons_self
  simp only [List.map_cons,bcN]
  rw [yyd h h0,yqk l _ (yqj hv) (fun x hx=>hl x (List.mem_cons_of_mem _ hx))]
  by_cases e:h/4=c
  ·rw [e,Int.toNat_natCast,hv,if_neg (fun h=>by cases h.1),if_neg (fun h=>by cases h.1)]
  ·rw [yye h h0 e]
theorem yod: ∀(l:List Int) (v:List Bool),v.getD c false=true->(∀x∈l,0<=x)->(badS v l).1≠some (c:Int)
 |[],_,_,_=>by simp [badS]
 |h::l,v,hv,hl=>by
  have h0:=hl h List.mem_cons_self
  simp only [badS]
  split
  ·rename_i e
   intro e'
   have e2:h/4=(c:Int):=Option.some.inj e'
   rw [e2,Int.toNat_natCast,hv] at e
   cases e.1
  ·exact yod l _ (yqj hv) (fun x hx=>hl x (List.mem_cons_of_mem _ hx))
theorem yyf (hk:k=1\/k=3): ∀(l:List Int) (v:List Bool),(∀x∈l,0<=x/\x<4*v.length)->(badS v l).1=some (c:Int)->bcN v (l.map (tI k c))+1=bcN v l
 |[],v,_,h=>by simp [badS] at h
 |h::l,v,hl,hb=>by
  have h0:=hl h List.mem_cons_self
  have hl': ∀x∈l,0<=x/\x<4*(v.set (h/4).toNat true).length:=fun x hx=>by rw [List.length_set];exact hl x (List.mem_cons_of_mem _ hx)
  simp only [badS] at hb
  simp only [List.map_cons,bcN]
  rw [yyd h h0.1]
  have hset:(v.set (h/4).toNat true).getD (h/4).toNat false=true:=yau (by omega)
  split at hb
  ·rename_i e
   have e2:h/4=(c:Int):=Option.some.inj hb
   have hp:=y63 (c:=c) h h0.1 e2 hk
   rw [if_pos e,if_neg (fun e'=>by omega)]
   have h3:(h/4).toNat=c:=by omega
   rw [h3] at hset⊢
   rw [yqk l _ hset (fun x hx=>(hl' x hx).1)]
   omega
  ·rename_i e
   by_cases e2:h/4=(c:Int)
   ·have h3:(h/4).toNat=c:=by omega
    rw [h3] at hset hb
    exact absurd hb (yod l _ hset (fun x hx=>(hl' x hx).1))
   ·rw [yye h h0.1 e2]
    have:=yyf hk l _ hl' hb
    omega
theorem y1x {v:List Bool} {i:Nat} (h:i<v.length) (hv:v.getD i false=true):v.set i true=v:=by
 apply List.ext_getElem (by simp)
 intro j h1 h2
 rw [List.getElem_set]
 split
 ·rename_i e;subst e
  have:v.getD i false=v[i]:=by rw [List.getD_eq_getElem?_getD,List.getElem?_eq_getElem h];rfl
  rw [←this,hv]
 ·rfl
theorem yyg: ∀(l:List Int) (v:List Bool),(∀x∈l,0<=x/\x<4*v.length)->bcN v l<=unm v
 |[],v,_=>by simp [bcN]
 |h::l,v,hl=>by
  have h0:=hl h List.mem_cons_self
  have ih:=yyg l (v.set (h/4).toNat true) (fun x hx=>by rw [List.length_set];exact hl x (List.mem_cons_of_mem _ hx))
  simp only [bcN]
  cases e:v.getD (h/4).toNat false with
  |false=>have:=ysc (i:=(h/4).toNat) (by omega) e;split<;>omega
  |true=>rw [y1x (by omega) e] at ih⊢;simp;exact ih
def bc (s m:List Int):Nat:=bcN (List.replicate s.length false) (yaj s m).flatten
theorem yql (v:ybz s m L): ∀x∈(yaj s m).flatten,0<=x/\x<4*((List.replicate s.length false).length:Nat):=fun x hx=>by
 obtain ⟨l,h1,h2⟩:=List.mem_flatten.1 hx
 have:=(ygl v.prd h1).2 x h2
 rw [List.length_replicate];exact this
theorem bc_le (v:ybz s m L):bc s m<=s.length:=by
 have:=yyg _ _ (yql v)
 unfold bc
 refine Nat.le_trans this ?_
 unfold unm
 refine Nat.le_trans List.countP_le_length ?_
 simp
theorem yva (hv:yap s m L=true) (hc:c<s.length) (hb:badO s m=some (c:Int)):bc (swS s c) (swM s m c)+1=bc s m:=by
 unfold bc
 rw [ycf,yu9 hv hc,←List.map_flatten]
 refine yyf yf0 _ _ (yql (yas hv)) ?_
 rw [←yma];exact hb
theorem yqm {N:Nat} {want:Int->Bool} {orb:Int->List Int}: ∀h,(cysN N want orb h).1=[]->(cysN N want orb h).2=List.replicate N false/\ ∀x,x<h->x<N->want x=false
 |0,_=>⟨rfl,fun x hx=>by omega⟩
 |h+1,e=>by
  simp only [cysN,cys1] at e⊢
  by_cases hq:((cysN N want orb h).2.getD h false|| !want h)=true
  ·rw [if_pos hq] at e⊢
   obtain ⟨h1,h2⟩:=yqm h e
   refine ⟨h1,fun x hx hN=>?_⟩
   by_cases hxh:x<h
   ·exact h2 x hxh hN
   ·obtain rfl:x=h:=by omega
    rw [h1,List.getD_eq_getElem?_getD,List.getElem?_replicate,if_pos hN] at hq
    simpa using hq
  ·rw [if_neg hq] at e;simp at e
theorem strands_pos (v:ybz s m L) (h:0<s.length):0<(yaj s m).length:=by
 apply Nat.pos_of_ne_zero
 intro e
 have hn:yaj s m=[]:=List.eq_nil_of_length_eq_zero e
 have h2:=(yqm _ hn).2 2 (by rw [v.len];omega) (by rw [v.len];omega)
 simp [outB] at h2
theorem yta {b:Bool}: ∀k,k<=4-> ∀x,smU m b 0 k x=false
 |0,_,_=>rfl
 |k+1,hk,x=>by simp only [smU];rw [if_pos (by omega)];exact yta k (by omega) x
theorem ytb {b:Bool}:1<=smL m b 0 1:=by
 unfold smL
 simp only [Nat.mul_one]
 rw [yta 4 (Nat.le_refl _)]
 simp only [Bool.false_eq_true,if_false]
 split<;>omega
end
end Sp
end Go.Proofs.YtbblgobamoabkaaGreatDoor
namespace Go.Proofs.YtbblgobamoabkaaGreatDoor
namespace Sp
section
variable {s m:List Int} {L:Int} {n c k:Nat}
def adR (p:List Int) (k:Int) (q:List Int):List Int:=zadd p (0::q.map fun x=>k*x)
def bdB (l:List Int):Bool:=l.all fun x=>decide (-1125899906842624<=x/\x<=1125899906842624)
def rfM:Nat->List Int->List Int->Int->Option (List Int)
 |0,_,_,_=>none
 |f+1,s,m,L=>match badO s m with
  |none=>some (if ((yaj s m).length:Int)+L=1 then [1] else [0])
  |some c=>match rfM f (swS s c.toNat) (swM s m c.toNat) L,rfM f (smS s c.toNat) (smM s m c.toNat) (smLp s m c.toNat L) with
   |some p,some q=>if bdB p&&bdB q&&decide (p.length<=100)&&decide (q.length<=100) then some (adR p (s.getD c.toNat 0) q) else none
   |_,_=>none
def kC:Nat->Nat
 |0=>1
 |n+1=>1+(n+1)*kC n
def cB (n b:Nat):Nat:=1+b*kC (n-1)
theorem y5b: ∀n,kC n<=kC (n+1):=fun n=>by
 conv=>rhs;unfold kC
 rw [Nat.add_mul,Nat.one_mul];omega
theorem y2w: ∀n,n<=14->kC n<=1000000000000:=fun n hn=>by
 have h: ∀d,kC n<=kC (n+d):=fun d=>by
  induction d with
  |zero=>exact Nat.le_refl _
  |succ d ih=>exact Nat.le_trans ih (y5b _)
 have:=h (14-n)
 rw [show n+(14-n)=14 by omega] at this
 exact Nat.le_trans this (by decide)
theorem yvb {n b:Nat} (hb:b<=n):cB n b<=kC n:=by
 unfold cB
 cases n with
 |zero=>obtain rfl:b=0:=by omega
        simp [kC]
 |succ n=>
  rw [Nat.add_sub_cancel,show kC (n+1)=1+(n+1)*kC n from rfl]
  have:=Nat.mul_le_mul_right (kC n) hb
  omega
theorem y5c {n b b':Nat} (hb:b'<=n-1):cB n b+cB (n-1) b'<=cB n (b+1):=by
 have h1:=yvb hb
 have h2:cB n (b+1)=cB n b+kC (n-1):=by unfold cB;rw [Nat.add_mul,Nat.one_mul];omega
 omega
theorem yqn: ∀p q:List Int,(zadd p q).length=max p.length q.length
 |[],q=>by simp [zadd]
 |a::p,[]=>by simp [zadd]
 |a::p,b::q=>by simp only [zadd,List.length_cons,yqn p q];omega
theorem yla {A B:Int} (hA:0<=A) (hB:0<=B): ∀p q:List Int,(∀x∈p,-A<=x/\x<=A)->(∀x∈q,-B<=x/\x<=B)-> ∀x∈zadd p q,-(A+B)<=x/\x<=A+B
 |[],q,_,hq=>fun x hx=>by have:=hq x hx;omega
 |a::p,[],hp,_=>fun x hx=>by have:=hp x hx;omega
 |a::p,b::q,hp,hq=>fun x hx=>by
  rcases List.mem_cons.1 hx with rfl|hx
  ·have h1:=hp a List.mem_cons_self
   have h2:=hq b List.mem_cons_self
   omega
  ·exact yla hA hB p q (fun y hy=>hp y (List.mem_cons_of_mem _ hy)) (fun y hy=>hq y (List.mem_cons_of_mem _ hy)) x hx
theorem yyh {k B:Int} (hk:k=1\/k= -1) {q:List Int} (hB:0<=B) (hq: ∀x∈q,-B<=x/\x<=B): ∀x∈(0:Int)::q.map fun x=>k*x,-B<=x/\x<=B:=fun x hx=>by
 rcases List.mem_cons.1 hx with rfl|hx
 ·omega
 ·obtain ⟨y,hy,rfl⟩:=List.mem_map.1 hx
  have:=hq y hy
  rcases hk with rfl|rfl<;>omega
theorem ytc {A B k:Int} (hA:0<=A) (hB:0<=B) (hk:k=1\/k= -1) {p q:List Int} (hp: ∀x∈p,-A<=x/\x<=A) (hq: ∀x∈q,-B<=x/\x<=B): ∀x∈adR p k q,-(A+B)<=x/\x<=A+B:=
 yla hA hB p _ hp (yyh hk hB hq)
theorem yqo: ∀(q:List Int) (i:Int),(∀x∈q,x=0)->tmsF i q=[]
 |[],_,_=>rfl
 |a::q,i,h=>by unfold tmsF;rw [if_pos (h a List.mem_cons_self)];exact yqo q _ (fun x hx=>h x (List.mem_cons_of_mem _ hx))
theorem y5d {p q:List Int} {k:Int} (hk:k=1\/k= -1) (hpl:p.length<=100) (hql:q.length<=100) (hp: ∀x∈p,-1000000000000<=x/\x<=1000000000000) (hq: ∀x∈q,-1000000000000<=x/\x<=1000000000000):
  (pgB (tmsF 0 q)&&pgB (shP 1 (tmsF 0 q))&&ycd (mrgN negF (shP 1 (tmsF 0 q)).length [] (shP 1 (tmsF 0 q)))&&pgB (yff (decide (k<0)) (shP 1 (tmsF 0 q)))&&pgB (tmsF 0 p)&&ycd (yl2 (tmsF 0 p) (yff (decide (k<0)) (shP 1 (tmsF 0 q)))))=true/\nz (yl2 (tmsF 0 p) (yff (decide (k<0)) (shP 1 (tmsF 0 q))))=tmsF 0 (adR p k q):=by
 have wd: ∀{l:List Int},(∀x∈l,-1000000000000<=x/\x<=1000000000000)-> ∀x∈l,-1125899906842624<=x/\x<=1125899906842624:=fun h x hx=>by have:=h x hx;omega
 rw [ys7]
 have hN:mrgN negF (tmsF (0+1) q).length [] (tmsF (0+1) q)=mrg negF [] (tmsF (0+1) q):=yc0 _ _ _ _ (by simp)
 have e1:yff (decide (k<0)) (tmsF (0+1) q)=tmsF 0 (0::q.map fun x=>k*x):=by
  rw [show tmsF 0 (0::q.map fun x=>k*x)=tmsF (0+1) (q.map fun x=>k*x) by rw [tmsF];rfl]
  unfold yff
  rcases hk with rfl|rfl
  ·rw [if_neg (by decide),List.map_congr_left (g:=id) (fun x _=>by simp),List.map_id]
  ·rw [if_pos (by decide),hN,(ynf q (0+1)).1,List.map_congr_left (g:=fun x=> -1*x) (fun x _=>by omega)]
 have b2:=yyh hk (by omega) hq
 rw [hN,e1]
 have hS:yl2 (tmsF 0 p) (tmsF 0 (0::q.map fun x=>k*x))=mrg addF (tmsF 0 p) (tmsF 0 (0::q.map fun x=>k*x)):=yc0 _ _ _ _ (Nat.le_refl _)
 obtain ⟨m1,m2⟩:=ys9 p (0::q.map fun x=>k*x) 0
 rw [hS]
 refine ⟨?_,m1⟩
 simp only [Bool.and_eq_true]
 refine ⟨⟨⟨⟨⟨yjy q 0 (by omega) (by omega) (wd hq),yjy q (0+1) (by omega) (by omega) (wd hq)⟩,?_⟩,yjy _ 0 (by omega) (by simp;omega) (wd b2)⟩,yjy p 0 (by omega) (by omega) (wd hp)⟩,?_⟩
 ·unfold ycd
  rw [List.all_eq_true]
  intro t ht
  have:=hq _ ((ynf q (0+1)).2 t ht)
  simp only [fitB,Bool.and_eq_true,decide_eq_true_eq];omega
 ·unfold ycd
  rw [List.all_eq_true]
  intro t ht
  have:=yla (A:=1000000000000) (B:=1000000000000) (by omega) (by omega) _ _ hp b2 _ (m2 t ht)
  simp only [fitB,Bool.and_eq_true,decide_eq_true_eq];omega
theorem conw: ∀(f:Nat) (s m:List Int) (L:Int),yap s m L=true->L+2*s.length<=62->s.length<=14->s.length*s.length+bc s m+1<=f->
  ∃q,rfM f s m L=some q/\q.length<=s.length+1/\(∀x∈q,-(cB s.length (bc s m):Int)<=x/\x<=(cB s.length (bc s m):Int))/\(0<L->(0<s.length\/2<=L)-> ∀x∈q,x=0)/\rsM f s m L=some (tmsF 0 q):=by
 intro f
 induction f with
 |zero=>intro s m L _ _ _ h;omega
 |succ f ih=>
  intro s m L hv hL hn hf
  have v:=yas hv
  have hbl:=bc_le v
  have h0:=v.l0
  have hcp:(1:Int)<=cB s.length (bc s m):=by unfold cB;omega
  cases hb:badO s m with
  |none=>
   by_cases he:((yaj s m).length:Int)+L=1
   ·refine ⟨[1],?_,by simp,fun x hx=>?_,fun hL0 hor=>?_,?_⟩
    ·unfold rfM;rw [hb];simp only [if_pos he]
    ·rw [List.mem_singleton.1 hx];omega
    ·exfalso
     rcases hor with hor|hor
     ·have:=strands_pos v hor;omega
     ·omega
    ·unfold rsM
     rw [if_neg (fun h=>by have:=strands_pos v h.2;omega),if_pos (by omega),if_pos hv,hb]
     simp only [if_pos he];rfl
   ·refine ⟨[0],?_,by simp,fun x hx=>?_,fun _ _ x hx=>List.mem_singleton.1 hx,?_⟩
    ·unfold rfM;rw [hb];simp only [if_neg he]
    ·rw [List.mem_singleton.1 hx];omega
    ·unfold rsM
     by_cases hc:0<L/\0<s.length
     ·rw [if_pos hc];rfl
     ·rw [if_neg hc,if_pos (by omega),if_pos hv,hb]
      simp only [if_neg he];rfl
  |some c=>
   have hcr:=yh7 v.prd hb
   obtain ⟨c,rfl⟩: ∃d:Nat,c=d:=⟨c.toNat,by omega⟩
   have hc:c<s.length:=by omega
   have hs:=v.sg c hc
   have hsm:=yep (m:=m) (b:=(s.getD c 0== -1)) (c:=c) (n:=s.length)
   have hlp:smLp s m c L=L+smL m (s.getD c 0== -1) c s.length:=rfl
   obtain ⟨v2,l2⟩:=ygp hv hc (by omega)
   have v1:=yi5 hv hc
   have hbs:=yva hv hc hb
   have hb2:=bc_le (yas v2)
   obtain ⟨p,p1,p2,p3,p4,p5⟩:=ih (swS s c) (swM s m c) L v1 (by rw [ycf];omega) (by rw [ycf];omega) (by rw [ycf];omega)
   rw [ycf] at p2 p3 p4
   obtain ⟨d,hd⟩: ∃d,s.length=d+1:=⟨s.length-1,by omega⟩
   have hsq:s.length*s.length=d*d+2*d+1:=by rw [hd,Nat.add_mul,Nat.mul_add];omega
   obtain ⟨q,q1,q2,q3,q4,q5⟩:=ih (smS s c) (smM s m c) (smLp s m c L) v2 (by rw [l2];omega) (by rw [l2];omega) (by rw [l2,hd,Nat.add_sub_cancel];rw [l2] at hb2;omega)
   rw [l2] at q2 q3 q4 hb2
   have k1:=Nat.le_trans (yvb (n:=s.length) (b:=bc (swS s c) (swM s m c)) (by omega)) (y2w s.length hn)
   have k2:=Nat.le_trans (yvb hb2) (y2w (s.length-1) (by omega))
   have kst:=y5c (n:=s.length) (b:=bc (swS s c) (swM s m c)) hb2
   rw [hbs] at kst
   have wp: ∀x∈p,-1000000000000<=x/\x<=1000000000000:=fun x hx=>by have:=p3 x hx;omega
   have wq: ∀x∈q,-1000000000000<=x/\x<=1000000000000:=fun x hx=>by have:=q3 x hx;omega
   obtain ⟨g1,g2⟩:=y5d hs (by omega) (by omega) wp wq
   have hz:0<L-> ∀x∈adR p (s.getD c 0) q,x=0:=fun hL0=>by
    have z1:=p4 hL0 (.inl (by omega))
    have z2:=q4 (by omega) (by
     by_cases h1:0<s.length-1
     ·exact .inl h1
     ·have hl1:s.length=1:=by omega
      obtain rfl:c=0:=by omega
      have:=ytb (m:=m) (b:=(s.getD 0 0== -1))
      rw [hl1] at hlp
      right;omega)
    have:=ytc (A:=0) (B:=0) (by omega) (by omega) hs (fun x hx=>by have:=z1 x hx;omega) (fun x hx=>by have:=z2 x hx;omega)
    intro x hx
    have:=this x hx
    omega
   refine ⟨adR p (s.getD c 0) q,?_,?_,?_,fun hL0 _=>hz hL0,?_⟩
   ·unfold rfM
    rw [hb]
    simp only [Int.toNat_natCast,p1,q1]
    rw [if_pos]
    simp only [bdB,Bool.and_eq_true,List.all_eq_true,decide_eq_true_eq]
    exact ⟨⟨⟨fun x hx=>by have:=wp x hx;omega,fun x hx=>by have:=wq x hx;omega⟩,by omega⟩,by omega⟩
   ·unfold adR;rw [yqn];simp only [List.length_cons,List.length_map];omega
   ·intro x hx
    have:=ytc (A:=(cB s.length (bc (swS s c) (swM s m c)):Nat)) (B:=(cB (s.length-1) (bc (smS s c) (smM s m c)):Nat)) (by omega) (by omega) hs p3 q3 x hx
    omega
   ·unfold rsM
    by_cases hcL:0<L/\0<s.length
    ·rw [if_pos hcL,yqo _ _ (hz hcL.1)]
    ·rw [if_neg hcL,if_pos (by omega),if_pos hv,hb]
     simp only [Int.toNat_natCast,q5,p5]
     rw [if_pos g1,g2]
end
end Sp
end Go.Proofs.YtbblgobamoabkaaGreatDoor
