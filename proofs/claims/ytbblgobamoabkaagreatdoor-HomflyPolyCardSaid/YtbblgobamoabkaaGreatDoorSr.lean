/- Smoothing and switching keep a diagram valid; the resolution ends; its polynomial. -/
import Derived.Test.YtbblgobamoabkaaGreatDoorSq
import Derived.Test.YtbblgobamoabkaaGreatDoorZc
import Derived.Test.YtbblgobamoabkaaGreatDoorZi
set_option linter.unusedSimpArgs false
set_option linter.unusedVariables false
namespace Go.Proofs.YtbblgobamoabkaaGreatDoor
namespace Sp
section
variable {s m:List Int} {L:Int} {n c:Nat} {b:Bool}
theorem yng {s:List Int} {c:Nat}: ∀k,(woS s c k).length=(if c<k then k-1 else k)/\ ∀x,x<(if c<k then k-1 else k)->(woS s c k).getD x 0=s.getD (if x<c then x else x+1) 0
 |0=>by simp [woS]
 |k+1=>by
  obtain ⟨h1,h2⟩:=yng (s:=s) (c:=c) k
  simp only [woS]
  by_cases e:k=c
  ·subst e
   rw [if_pos rfl,if_pos (by omega)]
   rw [if_neg (by omega)] at h1 h2
   refine ⟨by omega,fun x hx=>h2 x (by omega)⟩
  ·rw [if_neg e]
   by_cases hc:c<k
   ·rw [if_pos hc] at h1 h2
    rw [if_pos (by omega)]
    refine ⟨by rw [List.length_append,h1];simp;omega,fun x hx=>?_⟩
    by_cases hx':x<k-1
    ·rw [yf0 _ _ _ (by omega)];exact h2 x hx'
    ·obtain rfl:x=k-1:=by omega
     rw [yf1 _ _ _ (by omega),h1,Nat.sub_self,if_neg (by omega),show k-1+1=k by omega];rfl
   ·rw [if_neg hc] at h1 h2
    rw [if_neg (by omega)]
    refine ⟨by rw [List.length_append,h1];simp,fun x hx=>?_⟩
    by_cases hx':x<k
    ·rw [yf0 _ _ _ (by omega)];exact h2 x hx'
    ·obtain rfl:x=k:=by omega
     rw [yf1 _ _ _ (by omega),h1,Nat.sub_self,if_pos (by omega)];rfl
theorem ykb {i:Nat} (hi:i/4≠c): ∀k,k<=m.length->i<k->(smE m b c k).getD i 0=thrX m b c 5 (m.getD i 0):=fun k=>by
 induction k with
 |zero=>intro _ h;omega
 |succ k ih=>
  intro hk hlt
  have hl:=yj7 (m:=m) (b:=b) (c:=c) k
  simp only [smE]
  by_cases hkc:k/4=c
  ·rw [if_pos hkc]
   have:i≠k:=fun e=>hi (by rw [e];exact hkc)
   exact ih (by omega) (by omega)
  ·rw [if_neg hkc]
   by_cases e:k=i
   ·rw [←e,yat (by omega)]
   ·rw [yao e];exact ih (by omega) (by omega)
theorem yxs (hv:yap s m L=true):Dia m s.length/\sphR m s.length=true:=by
 have v:=ya1 hv
 refine ⟨⟨v.prd,fun x hx=>(v.mt x hx).2.2.1⟩,?_⟩
 rw [ygr] at hv
 unfold ygq at hv
 exact (Bool.and_eq_true _ _▸hv).2
theorem y32 {x:Int} (hs:s.getD c 0=1\/s.getD c 0= -1) (hx:x/4=c):outB s (jnB (s.getD c 0== -1) x)= !outB s x:=by
 have e:x=4*c\/x=4*c+1\/x=4*c+2\/x=4*c+3:=by omega
 have d0:(4*(c:Int))/4=c/\(4*(c:Int)+1)/4=c/\(4*(c:Int)+2)/4=c/\(4*(c:Int)+3)/4=c:=by omega
 have r0:(4*(c:Int))% 4=0/\(4*(c:Int)+1)% 4=1/\(4*(c:Int)+2)% 4=2/\(4*(c:Int)+3)% 4=3:=by omega
 obtain ⟨d1,d2,d3,d4⟩:=d0
 obtain ⟨r1,r2,r3,r4⟩:=r0
 rcases hs with hs|hs
 ·have hb:(s.getD c 0== -1)=false:=by rw [hs];decide
  rw [hb]
  obtain ⟨j1,j2,j3,j4⟩:=jnF c
  rcases e with rfl|rfl|rfl|rfl
  ·rw [j1];simp only [outB,d1,d2,r1,r2,Int.toNat_natCast,hs];decide
  ·rw [j2];simp only [outB,d1,d2,r1,r2,Int.toNat_natCast,hs];decide
  ·rw [j3];simp only [outB,d3,d4,r3,r4,Int.toNat_natCast,hs];decide
  ·rw [j4];simp only [outB,d3,d4,r3,r4,Int.toNat_natCast,hs];decide
 ·have hb:(s.getD c 0== -1)=true:=by rw [hs];decide
  rw [hb]
  obtain ⟨j1,j2,j3,j4⟩:=jnT c
  rcases e with rfl|rfl|rfl|rfl
  ·rw [j1];simp only [outB,d1,d4,r1,r4,Int.toNat_natCast,hs];decide
  ·rw [j2];simp only [outB,d2,d3,r2,r3,Int.toNat_natCast,hs];decide
  ·rw [j3];simp only [outB,d2,d3,r2,r3,Int.toNat_natCast,hs];decide
  ·rw [j4];simp only [outB,d1,d4,r1,r4,Int.toNat_natCast,hs];decide
theorem yod (v:ybx s m L) (hc:c<s.length): ∀f x,InR s.length x->outB s (thrX m (s.getD c 0== -1) c f x)=outB s x
 |0,x,_=>rfl
 |f+1,x,hx=>by
  unfold thrX
  split
  ·rename_i e
   have hd:=ycm (s.getD c 0== -1) x
   have hr:InR s.length (jnB (s.getD c 0== -1) x):=by unfold InR;omega
   rw [yod v hc f _ (v.prd.rng hr)]
   unfold InR at hr
   have h1:=(v.mt (jnB (s.getD c 0== -1) x).toNat (by omega)).2.2.2.2
   rw [show (((jnB (s.getD c 0== -1) x).toNat:Nat):Int)=jnB (s.getD c 0== -1) x by omega,y32 (v.sg c hc) e] at h1
   cases h2:outB s x<;>cases h3:outB s (m.getD (jnB (s.getD c 0== -1) x).toNat 0)<;>simp_all
  ·rfl
theorem yf9:0<=smL m b c n/\smL m b c n<=2:=by
 unfold smL;simp only;split<;>split<;>omega
theorem ys1 (hc:c<s.length) {x y:Nat} (hx:x<4*(s.length-1)) (hy:y=if x/4<c then x else x+4):outB (woS s c s.length) x=outB s y:=by
 obtain ⟨_,h2⟩:=yng (s:=s) (c:=c) s.length
 rw [if_pos hc] at h2
 have e1:((x:Int)/4).toNat=x/4:=by omega
 have e2:((y:Int)/4).toNat=if x/4<c then x/4 else x/4+1:=by rw [hy];split<;>omega
 have e3:(y:Int)% 4=(x:Int)% 4:=by rw [hy];split<;>omega
 unfold outB
 rw [e1,e2,e3,h2 (x/4) (by omega)]
theorem yjm (hv:yap s m L=true) (hc:c<s.length) (hL:smLp s m c L<=64):yap (smS s c) (smM s m c) (smLp s m c L)=true/\(smS s c).length=s.length-1:=by
 have v:=ya1 hv
 obtain ⟨hd,hsp⟩:=yxs hv
 obtain ⟨hd',hsp'⟩:=yuw (b:=(s.getD c 0== -1)) hd hc hsp
 obtain ⟨w1,w2⟩:=yng (s:=s) (c:=c) s.length
 rw [if_pos hc] at w1 w2
 obtain ⟨wl,wg⟩:=ym8 (E:=smE m (s.getD c 0== -1) c (4*s.length)) (c:=c) s.length
 rw [if_pos hc] at wl wg
 have hsl:(smS s c).length=s.length-1:=w1
 refine ⟨?_,hsl⟩
 rw [ygr]
 unfold ygq
 rw [hsl,Bool.and_eq_true]
 refine ⟨?_,hsp'⟩
 unfold ycc
 rw [decide_eq_true_iff,hsl]
 have h64:=v.s64
 have hsm:=yf9 (m:=m) (b:=(s.getD c 0== -1)) (c:=c) (n:=s.length)
 have hl0:=v.l0
 refine ⟨by omega,wl,by unfold smLp;omega,hL,fun i hi=>?_,fun h hh=>?_⟩
 ·unfold smS
  rw [w2 i hi]
  exact v.sg _ (by split<;>omega)
 ·have p1:=hd'.prd.ok.2 h hh
  have p2:=hd'.prd.inv h hh
  have p3:=hd'.ne h hh
  refine ⟨p1.1,by rw [hsl];exact p1.2,p3,p2,?_⟩
  obtain ⟨y,hy⟩: ∃y,y=if h/4<c then h else h+4:=⟨_,rfl⟩
  have hyr:y<4*s.length/\y/4≠c:=by rw [hy];split<;>omega
  unfold smS
  rw [ys1 hc hh hy]
  have e1:(smM s m c).getD h 0=cutM (smE m (s.getD c 0== -1) c (4*s.length)) c y:=by unfold smM;rw [wg h hh,hy]
  have hml:=v.len
  have e2:(smE m (s.getD c 0== -1) c (4*s.length)).getD y 0=thrX m (s.getD c 0== -1) c 5 (m.getD y 0):=ykb hyr.2 _ (by omega) hyr.1
  have hout:=yij (b:=(s.getD c 0== -1)) v.prd hc hyr.1 hyr.2
  have hr0:InR s.length (m.getD y 0):=by have:=v.prd.ok.2 y hyr.1;unfold InR;omega
  have hrng:=yik (b:=(s.getD c 0== -1)) v.prd hc 5 _ hr0
  have ho:=yod v hc 5 _ hr0
  have hne:=(v.mt y hyr.1).2.2.2.2
  have p1':(0:Int)<=(smM s m c).getD h 0/\(smM s m c).getD h 0<4*((s.length-1:Nat):Int):=p1
  unfold cutM at e1
  rw [e2] at e1
  generalize thrX m (s.getD c 0== -1) c 5 (m.getD y 0)=z at*
  unfold InR at hrng
  obtain ⟨z,rfl⟩: ∃q:Nat,z=q:=⟨z.toNat,by omega⟩
  obtain ⟨q,hq⟩: ∃q:Nat,(smM s m c).getD h 0=q:=⟨((smM s m c).getD h 0).toNat,by omega⟩
  rw [hq,ys1 (y:=z) hc (by omega) (by rw [hq] at e1;split at e1<;>split<;>omega),ho]
  exact hne
end
end Sp
end Go.Proofs.YtbblgobamoabkaaGreatDoor
namespace Go.Proofs.YtbblgobamoabkaaGreatDoor
namespace Sp
section
variable {s m:List Int} {L:Int} {n c k:Nat}
def tw (k c x:Nat):Nat:=if x/4=c then x-x % 4+(x % 4+k)% 4 else x
theorem yml (k c x:Nat):tw k c x/4=x/4:=by unfold tw;split<;>omega
theorem yhc {x:Nat} (hx:x<4*n):tw k c x<4*n:=by have:=yml k c x;omega
theorem ydp {x:Nat} (h:x/4≠c):tw k c x=x:=by unfold tw;rw [if_neg h]
theorem yht {x:Nat} (hk:k=1\/k=3):tw (4-k) c (tw k c x)=x/\tw k c (tw (4-k) c x)=x:=by
 by_cases h:x/4=c
 ·unfold tw
  simp only [h,if_true]
  rw [if_pos (by omega),if_pos (by omega)]
  rcases hk with rfl|rfl<;>omega
 ·rw [ydp h,ydp h,ydp h];exact ⟨rfl,rfl⟩
theorem ymm {x y:Nat} (hk:k=1\/k=3) (e:tw k c x=tw k c y):x=y:=by
 rw [←(yht (c:=c) (x:=x) hk).1,e,(yht hk).1]
theorem y6m (x:Nat) (hk:k=1\/k=3):tw k c (siD x)=siD (tw k c x):=by
 by_cases h:x/4=c
 ·have h1:=yhp x
  have h2:=yml k c x
  unfold tw siD
  rw [if_pos (by unfold siD at h1;omega),if_pos h]
  rcases hk with rfl|rfl<;>omega
 ·rw [ydp h,ydp (by rw [yhp];exact h)]
theorem y1x (hs:s.getD c 0=1\/s.getD c 0= -1) (x:Nat):yar x (exBy s (· ==(c:Int)) ((x:Int)/4))=(tw (if s.getD c 0=1 then 1 else 3) c x:Nat):=by
 by_cases h:x/4=c
 ·have e:((x:Int)/4==(c:Int))=true:=by simp;omega
  have e2:((x:Int)/4).toNat=c:=by omega
  unfold exBy tw
  rw [if_pos e,e2,if_pos h]
  split
  ·unfold yar;rw [show Int.tmod (-3) 4= -3 by decide];omega
  ·unfold yar;rw [show Int.tmod (-1) 4= -1 by decide];omega
 ·have e:((x:Int)/4==(c:Int))=false:=by simp;omega
  unfold exBy
  rw [if_neg (fun e'=>by have:=e.symm.trans e';cases this),ydp h]
  unfold yar
  rw [show Int.tmod 0 4=0 by decide];omega
theorem ys2 {to:Int->Int} {t:Nat->Nat} (ht: ∀x:Nat,to x=t x) (hi: ∀x y,t x=t y->x=y) (hl: ∀x,x<m.length->t x<m.length): ∀k,k<=m.length-> ∀i,i<k->(mvM m to k).getD (t i) 0=to (m.getD i 0)
 |0,_,i,h=>by omega
 |k+1,hk,i,h=>by
  have hlen:=yef m to k
  simp only [mvM]
  rw [ht k,Int.toNat_natCast]
  by_cases e:i=k
  ·subst e;rw [yat (by rw [hlen];exact hl i (by omega))]
  ·rw [yao (fun e'=>e (hi _ _ e').symm)];exact ys2 ht hi hl k (by omega) i (by omega)
theorem ykc {i:Nat} (hi:i<s.length):(swS s c).getD i 0=if i=c then-s.getD i 0 else s.getD i 0:=by
 unfold swS exS sgM
 rw [List.getD_eq_getElem?_getD,List.getElem?_map,List.getElem?_range hi]
 simp only [Option.map_some,Option.getD_some,exSg]
 by_cases e:i=c
 ·subst e;simp
 ·have: ¬((i:Int)==(c:Int))=true:=by simp;omega
  rw [if_neg this,if_neg e];simp
theorem ydg:(swS s c).length=s.length:=by unfold swS exS;rw [yho]
def kT (s:List Int) (c:Nat):Nat:=if s.getD c 0=1 then 1 else 3
theorem yf4:kT s c=1\/kT s c=3:=by unfold kT;split<;>simp
theorem ys3 (v:ybx s m L) (hc:c<s.length) {i:Nat} (hi:i<4*s.length):(swM s m c).getD (tw (kT s c) c i) 0=(tw (kT s c) c (alD m i):Nat):=by
 have hs:=v.sg c hc
 have hml:=v.len
 unfold swM exM
 rw [ys2 (t:=tw (kT s c) c) (fun x=>y1x hs x) (fun x y e=>ymm yf4 e) (fun x hx=>by rw [hml] at hx⊢;exact yhc hx) m.length (Nat.le_refl _) i (by omega)]
 have h0:=(v.mt i hi).1
 have e:m.getD i 0=((alD m i:Nat):Int):=by unfold alD;omega
 rw [e]
 exact y1x hs _
theorem ys4:(swM s m c).length=m.length:=yef _ _ _
theorem ynh (hs:s.getD c 0=1\/s.getD c 0= -1) (hc:c<s.length) {x:Nat} (hx:x<4*s.length):outB (swS s c) (tw (kT s c) c x)=outB s x:=by
 have hd:=yml (kT s c) c x
 have e1:(((tw (kT s c) c x:Nat):Int)/4).toNat=x/4:=by omega
 have e2:((x:Int)/4).toNat=x/4:=by omega
 unfold outB
 rw [e1,e2,ykc (by omega)]
 by_cases h:x/4=c
 ·rw [if_pos h,h]
  have r:x % 4=0\/x % 4=1\/x % 4=2\/x % 4=3:=by omega
  rcases hs with hs|hs
  ·have hk:kT s c=1:=by unfold kT;rw [if_pos hs]
   rw [hk,hs]
   rcases r with r|r|r|r
   ·rw [show (x:Int)% 4=0 by omega,show ((tw 1 c x:Nat):Int)% 4=1 by unfold tw;rw [if_pos h];omega];decide
   ·rw [show (x:Int)% 4=1 by omega,show ((tw 1 c x:Nat):Int)% 4=2 by unfold tw;rw [if_pos h];omega];decide
   ·rw [show (x:Int)% 4=2 by omega,show ((tw 1 c x:Nat):Int)% 4=3 by unfold tw;rw [if_pos h];omega];decide
   ·rw [show (x:Int)% 4=3 by omega,show ((tw 1 c x:Nat):Int)% 4=0 by unfold tw;rw [if_pos h];omega];decide
  ·have hk:kT s c=3:=by unfold kT;rw [if_neg (by omega)]
   rw [hk,hs]
   rcases r with r|r|r|r
   ·rw [show (x:Int)% 4=0 by omega,show ((tw 3 c x:Nat):Int)% 4=3 by unfold tw;rw [if_pos h];omega];decide
   ·rw [show (x:Int)% 4=1 by omega,show ((tw 3 c x:Nat):Int)% 4=0 by unfold tw;rw [if_pos h];omega];decide
   ·rw [show (x:Int)% 4=2 by omega,show ((tw 3 c x:Nat):Int)% 4=1 by unfold tw;rw [if_pos h];omega];decide
   ·rw [show (x:Int)% 4=3 by omega,show ((tw 3 c x:Nat):Int)% 4=2 by unfold tw;rw [if_pos h];omega];decide
 ·rw [if_neg h,ydp h]
theorem ygu (v:ybx s m L) (hc:c<s.length) {i:Nat} (hi:i<4*s.length):alD (swM s m c) i=tw (kT s c) c (alD m (tw (4-kT s c) c i))/\((alD (swM s m c) i:Nat):Int)=(swM s m c).getD i 0:=by
 have h:=ys3 v hc (i:=tw (4-kT s c) c i) (yhc hi)
 rw [(yht yf4).2] at h
 refine ⟨?_,?_⟩
 ·unfold alD;rw [h,Int.toNat_natCast];rfl
 ·unfold alD;rw [h,Int.toNat_natCast]
theorem yqf (hv:yap s m L=true) (hc:c<s.length):yap (swS s c) (swM s m c) L=true:=by
 have v:=ya1 hv
 obtain ⟨hd,hsp⟩:=yxs hv
 have hs:=v.sg c hc
 have hS:=hd.sph.1 hsp
 have hk:4-kT s c=1\/4-kT s c=3:=by have:=yf4 (s:=s) (c:=c);omega
 have hal: ∀x,x<4*s.length->alD m x<4*s.length:=fun x hx=>hd.mat.lt x hx
 have ha': ∀x,x<4*s.length->alD (swM s m c) x<4*s.length:=fun x hx=>by rw [(ygu v hc hx).1];exact yhc (hal _ (yhc hx))
 have hS':Sph (4*s.length) siD (alD (swM s m c)):=by
  refine hS.embed (io:=tw (4-kT s c) c) (fun x hx=>yhc hx) (fun x y hx hy e=>ymm hk e) (fun x hx=>(ycg s.length).lt x hx) ha' (fun x hx=>y6m x hk) (fun x hx=>?_)
  rw [(ygu v hc hx).1,(yht yf4).1]
 have hml:(swM s m c).length=4*s.length:=by rw [ys4];exact v.len
 have hD:Dia (swM s m c) s.length:=by
  refine ⟨⟨⟨hml,fun i hi=>?_⟩,fun x hx=>?_⟩,fun x hx e=>?_⟩
  ·have h1:=(ygu v hc hi).2;have h2:=ha' i hi;omega
  ·have h1:=ygu v hc hx
   have h2:=hS'.mat.inv x hx
   have h3:=ygu v hc (ha' x hx)
   rw [h2] at h3
   rw [←h1.2,Int.toNat_natCast,←h3.2]
  ·have h1:=ygu v hc hx
   exact hS'.mat.ne x hx (by omega)
 rw [ygr]
 unfold ygq
 rw [ydg,Bool.and_eq_true]
 refine ⟨?_,hD.sph.2 hS'⟩
 unfold ycc
 rw [decide_eq_true_iff,ydg]
 refine ⟨v.s64,hml,v.l0,v.l64,fun i hi=>?_,fun h hh=>?_⟩
 ·rw [ykc hi]
  have:=v.sg i hi
  split<;>omega
 ·have p1:=hD.prd.ok.2 h hh
  refine ⟨p1.1,by rw [ydg];exact p1.2,hD.ne h hh,hD.prd.inv h hh,?_⟩
  have q:=ygu v hc hh
  obtain ⟨y,hy⟩: ∃y,y=tw (4-kT s c) c h:=⟨_,rfl⟩
  have hyl:y<4*s.length:=by rw [hy];exact yhc hh
  have e:h=tw (kT s c) c y:=by rw [hy,(yht yf4).2]
  rw [←hy] at q
  have hne:=(v.mt y hyl).2.2.2.2
  rw [←q.2,q.1,e,ynh hs hc hyl,ynh hs hc (hal y hyl)]
  rw [hd.cast hyl];exact hne
end
end Sp
end Go.Proofs.YtbblgobamoabkaaGreatDoor
namespace Go.Proofs.YtbblgobamoabkaaGreatDoor
namespace Sp
section
variable {s m:List Int} {L:Int} {n c k:Nat}
def tI (k c:Nat) (x:Int):Int:=(tw k c x.toNat:Nat)
theorem yqg (x:Nat):tI k c x=(tw k c x:Nat):=by unfold tI;rw [Int.toNat_natCast]
def opN (y:Nat):Nat:=y-y % 4+(y % 4+2)% 4
theorem yxt (y:Nat):yar y 2=(opN y:Nat):=by unfold yar opN;rw [show Int.tmod 2 4=2 by decide];omega
theorem y6n (y:Nat) (hk:k=1\/k=3):opN (tw k c y)=tw k c (opN y):=by
 by_cases h:y/4=c
 ·unfold tw opN
  rw [if_pos h,if_pos (by omega)]
  rcases hk with rfl|rfl<;>omega
 ·rw [ydp h,ydp (by unfold opN;omega)]
theorem ykd (v:ybx s m L) {g:Nat} (hg:g<4*s.length):yah m g=(opN (alD m g):Nat)/\opN (alD m g)<4*s.length:=by
 have h:=v.mt g hg
 have e:m.getD g 0=((alD m g:Nat):Int):=by unfold alD;omega
 refine ⟨?_,by unfold opN alD;omega⟩
 unfold yah
 rw [Int.toNat_natCast,e,yxt]
theorem yxu (v:ybx s m L) (hc:c<s.length) {g:Nat} (hg:g<4*s.length):yah (swM s m c) (tw (kT s c) c g:Nat)=(tw (kT s c) c (opN (alD m g)):Nat):=by
 unfold yah
 rw [Int.toNat_natCast,ys3 v hc hg,yxt,y6n _ yf4]
theorem ys5 (v:ybx s m L) (hc:c<s.length) (x:Nat): ∀(f g:Nat),g<4*s.length->orbG (yah (swM s m c)) (tw (kT s c) c x:Nat) f (tw (kT s c) c g:Nat)=(orbG (yah m) x f g).map (tI (kT s c) c)
 |0,_,_=>rfl
 |f+1,g,hg=>by
  unfold orbG
  by_cases e:g=x
  ·subst e;rw [if_pos rfl,if_pos rfl];rfl
  ·have ne: ¬((tw (kT s c) c g:Nat):Int)=(tw (kT s c) c x:Nat):=fun e'=>e (ymm (c:=c) (yf4 (s:=s) (c:=c)) (by omega))
   rw [if_neg ne,if_neg (by omega),yxu v hc hg,(ykd v hg).1,ys5 v hc x f _ (ykd v hg).2,List.map_cons,yqg]
theorem y33 (v:ybx s m L) (hc:c<s.length) {x:Nat} (hx:x<4*s.length) (f:Nat):orbF (yah (swM s m c)) f (tw (kT s c) c x:Nat)=(orbF (yah m) f x).map (tI (kT s c) c):=by
 unfold orbF
 rw [yxu v hc hx,ys5 v hc x f _ (ykd v hx).2,(ykd v hx).1,List.map_cons,yqg]
structure RelC (N k c:Nat) (st st':List (List Int)×List Bool):Prop where
 fst:st'.1=st.1.map (List.map (tI k c))
 len:st.2.length=N
 len':st'.2.length=N
 get: ∀y,y<N->st'.2.getD (tw k c y) false=st.2.getD y false
theorem RelC.step {want want':Int->Bool} {orb orb':Int->List Int} {st st':List (List Int)×List Bool} (h:RelC (4*n) k c st st') (hk:k=1\/k=3) {x:Nat} (hx:x<4*n) (hw:want' (tw k c x:Nat)=want x)
  (ho:orb' (tw k c x:Nat)=(orb x).map (tI k c)) (hr: ∀g∈orb x,0<=g/\g<4*n):RelC (4*n) k c (cys1 want orb x st) (cys1 want' orb' (tw k c x) st'):=by
 unfold cys1
 rw [h.get x hx,hw]
 split
 ·exact h
 ·refine ⟨?_,?_,?_,fun y hy=>?_⟩
  ·simp only [h.fst,ho,List.map_append,List.map_cons,List.map_nil]
  ·simp only;rw [yfk];exact h.len
  ·simp only;rw [yfk];exact h.len'
  ·simp only
   rw [ho,yee _ _ _ (fun g hg=>?_),yee _ _ _ (fun g hg=>by have:=hr g hg;rw [h.len];omega),h.get y hy]
   ·congr 1
    have:((tw k c y:Nat):Int)∈(orb x).map (tI k c)↔(y:Int)∈orb x:=by
     rw [List.mem_map]
     constructor
     ·rintro ⟨g,hg,e⟩
      have:=hr g hg
      unfold tI at e
      have e2:=ymm (c:=c) (x:=g.toNat) (y:=y) hk (Int.ofNat.inj e)
      rw [←e2,show ((g.toNat:Nat):Int)=g by omega];exact hg
     ·intro hg;exact ⟨_,hg,yqg y⟩
    exact decide_eq_decide.2 this
   ·obtain ⟨z,hz,rfl⟩:=List.mem_map.1 hg
    have:=hr z hz
    have h2:=yhc (k:=k) (c:=c) (x:=z.toNat) (n:=n) (by omega)
    rw [h.len'];unfold tI;omega
theorem yeh {want:Int->Bool} {orb:Int->List Int} {st:List (List Int)×List Bool} {x:Nat} (h:want x=false):cys1 want orb x st=st:=by
 unfold cys1;rw [h];simp
theorem yxv (v:ybx s m L) (hc:c<s.length): ∀q,q<=s.length->RelC (4*s.length) (kT s c) c (cysN (4*s.length) (outB s) (orbF (yah m) (4*s.length)) (4*q)) (cysN (4*s.length) (outB (swS s c)) (orbF (yah (swM s m c)) (4*s.length)) (4*q))
 |0,_=>⟨by simp [cysN],by simp [cysN],by simp [cysN],fun y hy=>by
  have:=yhc (k:=kT s c) (c:=c) hy
  simp only [cysN,Nat.mul_zero]
  rw [List.getD_eq_getElem?_getD,List.getD_eq_getElem?_getD,List.getElem?_replicate,List.getElem?_replicate,if_pos hy,if_pos this]⟩
 |q+1,hq=>by
  have ih:=yxv v hc q (by omega)
  have hs:=v.sg c hc
  have stp: ∀{st st':List (List Int)×List Bool} (x:Nat),x<4*s.length->RelC (4*s.length) (kT s c) c st st'->RelC (4*s.length) (kT s c) c (cys1 (outB s) (orbF (yah m) (4*s.length)) x st) (cys1 (outB (swS s c)) (orbF (yah (swM s m c)) (4*s.length)) (tw (kT s c) c x) st'):=fun {st st'} x hx h=>
   h.step yf4 hx (ynh hs hc hx) (y33 v hc hx _) (fun g hg=>by
    have hR:InR s.length (x:Int):=by unfold InR;omega
    have:=(ydm (ye0 v.prd) hR).2.1 g hg
    unfold InR at this;omega)
  simp only [show 4*(q+1)=4*q+1+1+1+1 by omega,cysN]
  generalize cysN (4*s.length) (outB s) (orbF (yah m) (4*s.length)) (4*q)=st at*
  generalize cysN (4*s.length) (outB (swS s c)) (orbF (yah (swM s m c)) (4*s.length)) (4*q)=st' at*
  by_cases e:q=c
  ·subst e
   have d:(4*(q:Int))/4=q/\(4*(q:Int)+1)/4=q/\(4*(q:Int)+2)/4=q/\(4*(q:Int)+3)/4=q:=by omega
   have r:(4*(q:Int))% 4=0/\(4*(q:Int)+1)% 4=1/\(4*(q:Int)+2)% 4=2/\(4*(q:Int)+3)% 4=3:=by omega
   have o0: ∀t:List Int,outB t ((4*q:Nat):Int)=false:=fun t=>by
    unfold outB;rw [show (((4*q:Nat):Int))% 4=0 by omega];simp
   rcases hs with hs|hs
   ·have hk:kT s q=1:=by unfold kT;rw [if_pos hs]
    have o3:outB s ((4*q+1+1+1:Nat):Int)=false:=by
     unfold outB;rw [show (((4*q+1+1+1:Nat):Int))% 4=3 by omega,show ((((4*q+1+1+1:Nat):Int))/4).toNat=q by omega,hs];decide
    have o1:outB (swS s q) ((4*q+1:Nat):Int)=false:=by
     unfold outB;rw [show (((4*q+1:Nat):Int))% 4=1 by omega,show ((((4*q+1:Nat):Int))/4).toNat=q by omega,ykc hc,if_pos (show q=q from rfl),hs];decide
    rw [yeh o3,yeh (o0 s),yeh o1,yeh (o0 _)]
    have h1:=stp (4*q+1) (by omega) ih
    rw [show tw (kT s q) q (4*q+1)=4*q+1+1 by rw [hk];unfold tw;rw [if_pos (by omega)];omega] at h1
    have h2:=stp (4*q+1+1) (by omega) h1
    rw [show tw (kT s q) q (4*q+1+1)=4*q+1+1+1 by rw [hk];unfold tw;rw [if_pos (by omega)];omega] at h2
    exact h2
   ·have hk:kT s q=3:=by unfold kT;rw [if_neg (by omega)]
    have o1:outB s ((4*q+1:Nat):Int)=false:=by
     unfold outB;rw [show (((4*q+1:Nat):Int))% 4=1 by omega,show ((((4*q+1:Nat):Int))/4).toNat=q by omega,hs];decide
    have o3:outB (swS s q) ((4*q+1+1+1:Nat):Int)=false:=by
     unfold outB;rw [show (((4*q+1+1+1:Nat):Int))% 4=3 by omega,show ((((4*q+1+1+1:Nat):Int))/4).toNat=q by omega,ykc hc,if_pos (show q=q from rfl),hs];decide
    rw [yeh o3,yeh (o0 s),yeh o1,yeh (o0 _)]
    have h1:=stp (4*q+1+1) (by omega) ih
    rw [show tw (kT s q) q (4*q+1+1)=4*q+1 by rw [hk];unfold tw;rw [if_pos (by omega)];omega] at h1
    have h2:=stp (4*q+1+1+1) (by omega) h1
    rw [show tw (kT s q) q (4*q+1+1+1)=4*q+1+1 by rw [hk];unfold tw;rw [if_pos (by omega)];omega] at h2
    exact h2
  ·have t0: ∀x:Nat,x/4=q->tw (kT s c) c x=x:=fun x hx=>ydp (by omega)
   have h1:=stp (4*q) (by omega) ih
   rw [t0 _ (by omega)] at h1
   have h2:=stp (4*q+1) (by omega) h1
   rw [t0 _ (by omega)] at h2
   have h3:=stp (4*q+1+1) (by omega) h2
   rw [t0 _ (by omega)] at h3
   have h4:=stp (4*q+1+1+1) (by omega) h3
   rw [t0 _ (by omega)] at h4
   exact h4
theorem yu2 (hv:yap s m L=true) (hc:c<s.length):yam (swS s c) (swM s m c)=(yam s m).map (List.map (tI (kT s c) c)):=by
 have v:=ya1 hv
 unfold yam
 rw [ys4,v.len]
 exact (yxv v hc s.length (Nat.le_refl _)).fst
end
end Sp
end Go.Proofs.YtbblgobamoabkaaGreatDoor
namespace Go.Proofs.YtbblgobamoabkaaGreatDoor
namespace Sp
end Sp
end Go.Proofs.YtbblgobamoabkaaGreatDoor
namespace Go.Proofs.YtbblgobamoabkaaGreatDoor
namespace Sp
section
variable {s m:List Int} {L:Int} {n c k:Nat}
theorem yqh: ∀(l r:List Int) (v:List Bool),badS v (l++r)=match badS v l with
  |(some c,v')=>(some c,v')
  |(none,v')=>badS v' r
 |[],r,v=>rfl
 |h::l,r,v=>by
  simp only [List.cons_append,badS]
  by_cases e:v.getD (h/4).toNat false=false/\h % 2=0
  ·rw [if_pos e,if_pos e]
  ·rw [if_neg e,if_neg e];exact yqh l r _
theorem ymn: ∀(ls:List (List Int)) (v:List Bool),yct v ls=(badS v ls.flatten).1
 |[],v=>rfl
 |l::ls,v=>by
  simp only [yct,List.flatten_cons]
  rw [yqh]
  split
  ·rename_i e;rw [e]
  ·rename_i v' e;rw [e];exact ymn ls v'
def bcN (v:List Bool):List Int->Nat
 |[]=>0
 |h::t=>(if v.getD (h/4).toNat false=false/\h % 2=0 then 1 else 0)+bcN (v.set (h/4).toNat true) t
theorem yqi {v:List Bool} {i j:Nat} (h:v.getD i false=true):(v.set j true).getD i false=true:=by
 by_cases e:j=i
 ·subst e
  have:j<v.length:=Classical.byContradiction fun h'=>by rw [List.getD_eq_getElem?_getD,List.getElem?_eq_none (by omega)] at h;cases h
  exact yat this
 ·rw [yao e];exact h
theorem yxw (x:Int) (h:0<=x):tI k c x/4=x/4:=by
 unfold tI;have:=yml k c x.toNat;omega
theorem yxx (x:Int) (h:0<=x) (hx:x/4≠c):tI k c x=x:=by
 unfold tI;rw [ydp (by omega)];omega
theorem y5j (x:Int) (h:0<=x) (hx:x/4=c) (hk:k=1\/k=3):tI k c x % 2≠x % 2:=by
 unfold tI tw;rw [if_pos (by omega)];rcases hk with rfl|rfl<;>omega
theorem yqj: ∀(l:List Int) (v:List Bool),v.getD c false=true->(∀x∈l,0<=x)->bcN v (l.map (tI k c))=bcN v l
 |[],_,_,_=>rfl
 |h::l,v,hv,hl=>by
  have h0:=hl h List.mem_cons_self
  simp only [List.map_cons,bcN]
  rw [yxw h h0,yqj l _ (yqi hv) (fun x hx=>hl x (List.mem_cons_of_mem _ hx))]
  by_cases e:h/4=c
  ·rw [e,Int.toNat_natCast,hv,if_neg (fun h=>by cases h.1),if_neg (fun h=>by cases h.1)]
  ·rw [yxx h h0 e]
theorem yoe: ∀(l:List Int) (v:List Bool),v.getD c false=true->(∀x∈l,0<=x)->(badS v l).1≠some (c:Int)
 |[],_,_,_=>by simp [badS]
 |h::l,v,hv,hl=>by
  have h0:=hl h List.mem_cons_self
  simp only [badS]
  split
  ·rename_i e
   intro e'
   have e2:h/4=(c:Int):=Option.some.inj e'
   rw [e2,Int.toNat_natCast,hv] at e
   cases e.1
  ·exact yoe l _ (yqi hv) (fun x hx=>hl x (List.mem_cons_of_mem _ hx))
theorem yxy (hk:k=1\/k=3): ∀(l:List Int) (v:List Bool),(∀x∈l,0<=x/\x<4*v.length)->(badS v l).1=some (c:Int)->bcN v (l.map (tI k c))+1=bcN v l
 |[],v,_,h=>by simp [badS] at h
 |h::l,v,hl,hb=>by
  have h0:=hl h List.mem_cons_self
  have hl': ∀x∈l,0<=x/\x<4*(v.set (h/4).toNat true).length:=fun x hx=>by rw [List.length_set];exact hl x (List.mem_cons_of_mem _ hx)
  simp only [badS] at hb
  simp only [List.map_cons,bcN]
  rw [yxw h h0.1]
  have hset:(v.set (h/4).toNat true).getD (h/4).toNat false=true:=yat (by omega)
  split at hb
  ·rename_i e
   have e2:h/4=(c:Int):=Option.some.inj hb
   have hp:=y5j (c:=c) h h0.1 e2 hk
   rw [if_pos e,if_neg (fun e'=>by omega)]
   have h3:(h/4).toNat=c:=by omega
   rw [h3] at hset⊢
   rw [yqj l _ hset (fun x hx=>(hl' x hx).1)]
   omega
  ·rename_i e
   by_cases e2:h/4=(c:Int)
   ·have h3:(h/4).toNat=c:=by omega
    rw [h3] at hset hb
    exact absurd hb (yoe l _ hset (fun x hx=>(hl' x hx).1))
   ·rw [yxx h h0.1 e2]
    have:=yxy hk l _ hl' hb
    omega
theorem y08 {v:List Bool} {i:Nat} (h:i<v.length) (hv:v.getD i false=true):v.set i true=v:=by
 apply List.ext_getElem (by simp)
 intro j h1 h2
 rw [List.getElem_set]
 split
 ·rename_i e;subst e
  have:v.getD i false=v[i]:=by rw [List.getD_eq_getElem?_getD,List.getElem?_eq_getElem h];rfl
  rw [←this,hv]
 ·rfl
theorem yxz: ∀(l:List Int) (v:List Bool),(∀x∈l,0<=x/\x<4*v.length)->bcN v l<=unm v
 |[],v,_=>by simp [bcN]
 |h::l,v,hl=>by
  have h0:=hl h List.mem_cons_self
  have ih:=yxz l (v.set (h/4).toNat true) (fun x hx=>by rw [List.length_set];exact hl x (List.mem_cons_of_mem _ hx))
  simp only [bcN]
  cases e:v.getD (h/4).toNat false with
  |false=>have:=ysh (i:=(h/4).toNat) (by omega) e;split<;>omega
  |true=>rw [y08 (by omega) e] at ih⊢;simp;exact ih
def bc (s m:List Int):Nat:=bcN (List.replicate s.length false) (yam s m).flatten
theorem yqk (v:ybx s m L): ∀x∈(yam s m).flatten,0<=x/\x<4*((List.replicate s.length false).length:Nat):=fun x hx=>by
 obtain ⟨l,h1,h2⟩:=List.mem_flatten.1 hx
 have:=(yeo v.prd h1).2 x h2
 rw [List.length_replicate];exact this
theorem yiq (v:ybx s m L):bc s m<=s.length:=by
 have:=yxz _ _ (yqk v)
 unfold bc
 refine Nat.le_trans this ?_
 unfold unm
 refine Nat.le_trans List.countP_le_length ?_
 simp
theorem y1y (hv:yap s m L=true) (hc:c<s.length) (hb:badO s m=some (c:Int)):bc (swS s c) (swM s m c)+1=bc s m:=by
 unfold bc
 rw [ydg,yu2 hv hc,←List.map_flatten]
 refine yxy yf4 _ _ (yqk (ya1 hv)) ?_
 rw [←ymn];exact hb
theorem yql {N:Nat} {want:Int->Bool} {orb:Int->List Int}: ∀h,(cysN N want orb h).1=[]->(cysN N want orb h).2=List.replicate N false/\ ∀x,x<h->x<N->want x=false
 |0,_=>⟨rfl,fun x hx=>by omega⟩
 |h+1,e=>by
  simp only [cysN,cys1] at e⊢
  by_cases hq:((cysN N want orb h).2.getD h false|| !want h)=true
  ·rw [if_pos hq] at e⊢
   obtain ⟨h1,h2⟩:=yql h e
   refine ⟨h1,fun x hx hN=>?_⟩
   by_cases hxh:x<h
   ·exact h2 x hxh hN
   ·obtain rfl:x=h:=by omega
    rw [h1,List.getD_eq_getElem?_getD,List.getElem?_replicate,if_pos hN] at hq
    simpa using hq
  ·rw [if_neg hq] at e;simp at e
theorem strands_pos (v:ybx s m L) (h:0<s.length):0<(yam s m).length:=by
 apply Nat.pos_of_ne_zero
 intro e
 have hn:yam s m=[]:=List.eq_nil_of_length_eq_zero e
 have h2:=(yql _ hn).2 2 (by rw [v.len];omega) (by rw [v.len];omega)
 simp [outB] at h2
theorem ys6 {b:Bool}: ∀k,k<=4-> ∀x,smU m b 0 k x=false
 |0,_,_=>rfl
 |k+1,hk,x=>by simp only [smU];rw [if_pos (by omega)];exact ys6 k (by omega) x
theorem y34 {b:Bool}:1<=smL m b 0 1:=by
 unfold smL
 simp only [Nat.mul_one]
 rw [ys6 4 (Nat.le_refl _)]
 simp only [Bool.false_eq_true,if_false]
 split<;>omega
end
end Sp
end Go.Proofs.YtbblgobamoabkaaGreatDoor
namespace Go.Proofs.YtbblgobamoabkaaGreatDoor
namespace Sp
section
variable {s m:List Int} {L:Int} {n c k:Nat}
end
end Sp
end Go.Proofs.YtbblgobamoabkaaGreatDoor
