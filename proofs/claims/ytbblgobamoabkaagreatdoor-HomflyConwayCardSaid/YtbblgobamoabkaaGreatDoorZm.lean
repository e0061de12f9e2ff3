/- The split union of two diagrams; its polynomial is 0. -/
import Derived.Test.YtbblgobamoabkaaGreatDoorSr
import Derived.Test.YtbblgobamoabkaaGreatDoorZl
import Derived.Test.YtbblgobamoabkaaGreatDoorSq
import Derived.Test.YtbblgobamoabkaaGreatDoorZd
set_option linter.unusedSimpArgs false
set_option linter.unusedVariables false
namespace Go.Proofs.YtbblgobamoabkaaGreatDoor
namespace Sp
section
variable {s s1 s2 m m1 m2:List Int} {L L1 L2:Int} {n c k:Nat}
variable {col:Nat->Bool} {LA LB:Int}
end
end Sp
end Go.Proofs.YtbblgobamoabkaaGreatDoor
namespace Go.Proofs.YtbblgobamoabkaaGreatDoor
set_option linter.unusedSimpArgs false
set_option linter.unusedVariables false
section
variable {m1 m2:List Int} {n1 n2:Nat}
end
section
variable {m1 m2:List Int} {n1 n2 L1 L2:Nat}
end
end Go.Proofs.YtbblgobamoabkaaGreatDoor
namespace Go.Proofs.YtbblgobamoabkaaGreatDoor
set_option linter.unusedSimpArgs false
set_option linter.unusedVariables false
section
variable {m:List Int} {n c:Nat} {b:Bool}
end
def cutK (c:Nat) (y:Int):Int:=if (c:Int)<y/4 then y-4 else y
def upK (c:Nat) (x:Int):Int:=if x/4<(c:Int) then x else x+4
section
variable {m m':List Int} {n c:Nat} {b:Bool} {mt jn mt' jn':Int->Int} (hp:PmOk m n) (hc:c<n) (hi:Inv2 n mt jn) (hmt: ∀x,mt x=m.getD x.toNat 0) (hjd: ∀x,jn x/4=x/4) (hjc: ∀x,x/4=(c:Int)->jn x=jnB b x)
include hjc hmt
variable (hi':Inv2 (n-1) mt' jn') (hmt': ∀x:Nat,x<4*(n-1)->mt' x=cutK c (thrX m b c 5 (m.getD (upK c x).toNat 0))) (hjq: ∀y:Int,0<=y->y/4≠(c:Int)->jn' (cutK c y)=cutK c (jn y))
include hp hc hi hjd hi' hmt' hjq
end
section
variable {m m':List Int} {n c:Nat} {b:Bool} {mt jn mt' jn':Int->Int} (hp:PmOk m n) (hc:c<n) (hi:Inv2 n mt jn) (hmt: ∀x,mt x=m.getD x.toNat 0) (hjd: ∀x,jn x/4=x/4) (hjc: ∀x,x/4=(c:Int)->jn x=jnB b x)
include hmt hjc
variable (hi':Inv2 (n-1) mt' jn') (hmt': ∀x:Nat,x<4*(n-1)->mt' x=cutK c (thrX m b c 5 (m.getD (upK c x).toNat 0))) (hjq: ∀y:Int,0<=y->y/4≠(c:Int)->jn' (cutK c y)=cutK c (jn y))
include hp hc hi hjd hi' hmt' hjq
end
end Go.Proofs.YtbblgobamoabkaaGreatDoor
namespace Go.Proofs.YtbblgobamoabkaaGreatDoor
set_option linter.unusedSimpArgs false
set_option linter.unusedVariables false
set_option linter.unusedSectionVars false
namespace Sp
open Classical
section
variable {N:Nat} {si al si':Nat->Nat}
end
end Sp
section
variable {n:Nat} {f g:Nat->Nat} {m m':List Int}
end
end Go.Proofs.YtbblgobamoabkaaGreatDoor
namespace Go.Proofs.YtbblgobamoabkaaGreatDoor
set_option linter.unusedSimpArgs false
set_option linter.unusedVariables false
section
variable {m m':List Int} {n L:Nat}
end
section
variable {s m:List Int} {L:Int}
end
end Go.Proofs.YtbblgobamoabkaaGreatDoor
namespace Go.Proofs.YtbblgobamoabkaaGreatDoor
set_option linter.unusedSimpArgs false
set_option linter.unusedVariables false
section
variable {m:List Int} {n:Nat} (hp:PmOk m n)
include hp
end
section
variable {s m:List Int} {L:Int} (hv:ybz s m L)
include hv
theorem y5e {x:Nat} (hx:x<4*s.length):outB s (m.getD x 0)= !outB s x/\outB s (yae m x)=outB s x:=by
 have hm:=hv.mt x hx
 have h5:=hm.2.2.2.2
 have e1:outB s (m.getD x 0)= !outB s x:=by cases h1:outB s x<;>cases h2:outB s (m.getD x 0)<;>simp_all
 refine ⟨e1,?_⟩
 have key: ∀y:Int,0<=y->y<4*s.length->outB s (ya1 y 2)= !outB s y:=fun y h0 h1=>by
  have hs:=hv.sg (y/4).toNat (by omega)
  have e:ya1 y 2=y-y % 4+(y % 4+2)% 4:=by unfold ya1;rw [show (2:Int).tmod 4=2 by decide];omega
  have e4:(y-y % 4+(y % 4+2)% 4)/4=y/4:=by omega
  rw [e]
  unfold outB
  rw [e4]
  rcases (show y % 4=0\/y % 4=1\/y % 4=2\/y % 4=3 by omega) with h|h|h|h
  ·rw [if_neg (by omega),if_pos (by omega),if_neg (by omega),if_neg (by omega),if_neg (by omega)];rfl
  ·rw [if_neg (by omega),if_neg (by omega),if_pos (by omega),if_pos h]
   rcases hs with hs|hs<;>rw [hs]<;>rfl
  ·rw [if_neg (by omega),if_neg (by omega),if_neg (by omega),if_neg (by omega),if_pos h];rfl
  ·rw [if_pos (by omega),if_neg (by omega),if_neg (by omega),if_pos h]
   rcases hs with hs|hs<;>rw [hs]<;>rfl
 unfold yae
 rw [Int.toNat_natCast,key _ hm.1 (by omega),e1,Bool.not_not]
theorem ytd {x:Nat} (hx:x<4*s.length): ∀j,outB s (it (yae m) j x)=outB s x
 |0=>rfl
 |j+1=>by
  have hR:InR s.length (x:Int):=by unfold InR;omega
  have hS:=(ydl hv.prd).it hR j
  unfold InR at hS
  have e:it (yae m) j (x:Int)=((it (yae m) j (x:Int)).toNat:Int):=by omega
  have h1:=(y5e hv (x:=(it (yae m) j (x:Int)).toNat) (by omega)).2
  rw [←e] at h1
  show outB s (yae m (it (yae m) j x))=_
  rw [h1,ytd hx j]
end
end Go.Proofs.YtbblgobamoabkaaGreatDoor
namespace Go.Proofs.YtbblgobamoabkaaGreatDoor
set_option linter.unusedSimpArgs false
set_option linter.unusedVariables false
namespace Sp
open Classical
section
variable {N n:Nat} {si al:Nat->Nat} {w g:Nat->Int}
def nbt (b:Bool):Nat:=if b then 1 else 0
end
end Sp
end Go.Proofs.YtbblgobamoabkaaGreatDoor
namespace Go.Proofs.YtbblgobamoabkaaGreatDoor
set_option linter.unusedSimpArgs false
set_option linter.unusedVariables false
section
variable {s m:List Int} {L:Int} (v:ybz s m L)
abbrev strK (s m:List Int) (k:Nat):List Int:=(yaj s m).getD k []
include v
theorem ymb {x:Nat} (hx:x<4*s.length):(∀y,y∈orbF (yae m) m.length x↔ ∃j,it (yae m) j x=y)/\(∀y∈orbF (yae m) m.length x,InR s.length y)/\(∀y∈orbF (yae m) m.length x,(x:Int)∈orbF (yae m) m.length y)/\
  (∀y∈orbF (yae m) m.length x,∀z∈orbF (yae m) m.length y,z∈orbF (yae m) m.length x)/\(x:Int)∈orbF (yae m) m.length x/\(orbF (yae m) m.length x).Nodup/\ ∃k,Per (yae m) x k/\orbF (yae m) m.length x=its (yae m) x k:=by
 have:=yc3 (ydl v.prd) (x:=(x:Int)) (by unfold InR;omega)
 rw [←v.len] at this
 obtain ⟨a,b,c,d,e,_,f,k,_,g,h⟩:=this
 exact ⟨a,b,c,d,e,f,k,g,h⟩
theorem y1y:yaj s m=((List.range m.length).filter fun i:Nat=>outB s i&&ybc i (orbF (yae m) m.length i)).map (fun i:Nat=>orbF (yae m) m.length i):=by
 have hl:=v.len
 exact (ymz (N:=m.length) (want:=outB s) (orb:=orbF (yae m) m.length) (fun x hx _ y hy=>by
  have:=(ymb v (x:=x) (by omega)).2.1 y hy
  unfold InR at this;omega) (fun x hx _=>(ymb v (x:=x) (by omega)).2.2.2.2.1) (fun x y hx hy hw hm=>by
  have h:=ymb v (x:=x) (by omega)
  refine ⟨?_,h.2.2.1 y hm⟩
  obtain ⟨j,hj⟩:=(h.1 y).1 hm
  rw [←hj,ytd v (by omega) j];exact hw) (fun x y z hx hy hz _ h1 h2=>(ymb v (x:=x) (by omega)).2.2.2.1 y h1 z h2) m.length (Nat.le_refl _)).1
theorem y64 {k:Nat} (hk:k<(yaj s m).length): ∃x:Nat,x<4*s.length/\outB s x=true/\(∀y∈orbF (yae m) m.length x,(x:Int)<=y)/\strK s m k=orbF (yae m) m.length x:=by
 have hl:=v.len
 have e:=y1y v
 have hm:strK s m k∈yaj s m:=by simp [strK,hk]
 rw [e] at hm
 obtain ⟨x,h1,h2⟩:=List.mem_map.1 hm
 obtain ⟨h3,h4⟩:=List.mem_filter.1 h1
 rw [Bool.and_eq_true] at h4
 exact ⟨x,by have:=List.mem_range.1 h3;omega,h4.1,yds.1 h4.2,h2.symm⟩
end
end Go.Proofs.YtbblgobamoabkaaGreatDoor
namespace Go.Proofs.YtbblgobamoabkaaGreatDoor
set_option linter.unusedSimpArgs false
set_option linter.unusedVariables false
open Classical
section
variable {s m:List Int} {L:Int} (v:ybz s m L)
include v
end
section
variable {s m:List Int} {L:Int} (hv:yap s m L=true)
include hv
end
end Go.Proofs.YtbblgobamoabkaaGreatDoor
namespace Go.Proofs.YtbblgobamoabkaaGreatDoor
set_option linter.unusedSimpArgs false
set_option linter.unusedVariables false
section
variable {s m:List Int} {L:Int} {un ov:Nat->Bool}
end
section
variable {s m:List Int} {L:Int} {u o:Nat->Nat}
end
end Go.Proofs.YtbblgobamoabkaaGreatDoor
namespace Go.Proofs.YtbblgobamoabkaaGreatDoor
set_option linter.unusedSimpArgs false
set_option linter.unusedVariables false
open Classical
section
variable {m:List Int} {n:Nat} {σ:Nat->Bool} {s s':Nat->Nat} {c:Nat}
end
section
variable {s m:List Int} {L:Int}
end
end Go.Proofs.YtbblgobamoabkaaGreatDoor
namespace Go.Proofs.YtbblgobamoabkaaGreatDoor
set_option linter.unusedSimpArgs false
set_option linter.unusedVariables false
section
variable {s m:List Int} {L:Int} (hv:yap s m L=true)
include hv
end
end Go.Proofs.YtbblgobamoabkaaGreatDoor
namespace Go.Proofs.YtbblgobamoabkaaGreatDoor
set_option linter.unusedSimpArgs false
set_option linter.unusedVariables false
open Classical
section
variable {s m:List Int} {L:Int} (hv:yap s m L=true)
include hv
end
section
variable {s m:List Int} {L:Int} (hv:yap s m L=true)
include hv
end
theorem y2x: ∀(p q:List Int) (i:Nat),(Sp.zadd p q).getD i 0=p.getD i 0+q.getD i 0
 |[],q,i=>by simp [Sp.zadd]
 |a::p,[],i=>by simp [Sp.zadd]
 |a::p,b::q,0=>by simp [Sp.zadd]
 |a::p,b::q,i+1=>by
  have:=y2x p q i
  simpa [Sp.zadd] using this
theorem adRG (p q:List Int) (k:Int) (i:Nat):(Sp.adR p k q).getD i 0=p.getD i 0+(if 0<i then k*q.getD (i-1) 0 else 0):=by
 unfold Sp.adR
 rw [y2x]
 cases i with
 |zero=>simp
 |succ i=>
  rw [if_pos (by omega)]
  congr 1
  simp only [List.getD_cons_succ,Nat.add_sub_cancel]
  by_cases h:i<q.length
  ·simp [List.getD_eq_getElem?_getD,h]
  ·simp [List.getD_eq_getElem?_getD,Nat.le_of_not_lt h]
end Go.Proofs.YtbblgobamoabkaaGreatDoor
namespace Go.Proofs.YtbblgobamoabkaaGreatDoor
set_option linter.unusedSimpArgs false
set_option linter.unusedVariables false
section
variable {n:Nat} {mt jn mt':Int->Int} {x y:Int}
end
section
variable {m:List Int} {n:Nat}
end
end Go.Proofs.YtbblgobamoabkaaGreatDoor
namespace Go.Proofs.YtbblgobamoabkaaGreatDoor
set_option linter.unusedSimpArgs false
set_option linter.unusedVariables false
namespace Sp
open Classical
section
variable {N:Nat} {si al al':Nat->Nat}
end
end Sp
section
variable {s1 s2 m1 m2:List Int} {L1 L2:Int} {n1 n2:Nat}
end
end Go.Proofs.YtbblgobamoabkaaGreatDoor
namespace Go.Proofs.YtbblgobamoabkaaGreatDoor
set_option linter.unusedSimpArgs false
set_option linter.unusedVariables false
section
variable {s m:List Int} {L:Int} {o nu:Nat->Nat}
end
end Go.Proofs.YtbblgobamoabkaaGreatDoor
namespace Go.Proofs.YtbblgobamoabkaaGreatDoor
set_option linter.unusedSimpArgs false
set_option linter.unusedVariables false
namespace Hs
def dN:Nat->Int->Int
 |0,e=>if e=0 then 1 else 0
 |n+1,e=>dN n (e+1)-dN n (e-1)
theorem dN_sup: ∀(n:Nat) (e:Int),dN n e≠0-> -(n:Int)<=e/\e<=n/\(e-n)% 2=0
 |0,e,h=>by
  unfold dN at h
  by_cases h0:e=0
  ·subst h0;decide
  ·rw [if_neg h0] at h;exact absurd rfl h
 |n+1,e,h=>by
  unfold dN at h
  by_cases h1:dN n (e+1)=0
  ·have:=dN_sup n (e-1) (by intro h2;rw [h1,h2] at h;exact h rfl)
   omega
  ·have:=dN_sup n (e+1) h1
   omega
theorem dN_bnd: ∀(n:Nat) (e:Int),-(2^n:Int)<=dN n e/\dN n e<=2^n
 |0,e=>by unfold dN;split<;>decide
 |n+1,e=>by
  unfold dN
  have h1:=dN_bnd n (e+1)
  have h2:=dN_bnd n (e-1)
  rw [Int.pow_succ]
  omega
def Xh (a b:Int) (i j:Int) (k:Nat):Int:=if b=j-(k-1) then dN (k-1) (a-i) else 0
section
variable {s m:List Int} {L:Int}
end
end Hs
end Go.Proofs.YtbblgobamoabkaaGreatDoor
namespace Go.Proofs.YtbblgobamoabkaaGreatDoor
set_option linter.unusedSimpArgs false
set_option linter.unusedVariables false
namespace Hs
open Sp (Sph siD yay itn SC alD)
end Hs
end Go.Proofs.YtbblgobamoabkaaGreatDoor
namespace Go.Proofs.YtbblgobamoabkaaGreatDoor
set_option linter.unusedSimpArgs false
set_option linter.unusedVariables false
namespace Hs
def Dl (g:Int->Int->Int) (a b:Int):Int:=g (a+1) (b+1)-g (a-1) (b+1)
theorem Xh_k (a b i j:Int) {k:Nat} (hk:1<=k):Xh a b i j (k+1)=Xh (a+1) (b+1) i j k-Xh (a-1) (b+1) i j k:=by
 obtain ⟨n,rfl⟩: ∃n,k=n+1:=⟨k-1,by omega⟩
 unfold Xh
 have e1:((n+1:Nat):Int)-1=n:=by omega
 have e2:((n+1+1:Nat):Int)-1=n+1:=by omega
 rw [e1,e2,show n+1-1=n by omega,show n+1+1-1=n+1 by omega]
 by_cases h:b=j-(n+1)
 ·rw [if_pos h,if_pos (by omega),if_pos (by omega)]
  have e3:dN (n+1) (a-i)=dN n (a-i+1)-dN n (a-i-1):=rfl
  rw [e3,show a+1-i=a-i+1 by omega,show a-1-i=a-i-1 by omega]
 ·rw [if_neg h,if_neg (by omega),if_neg (by omega)];rfl
section
variable {s m:List Int} {l:Nat}
end
def cf2:List ((Int×Int)×Int)->Int->Int->Int
 |[],_,_=>0
 |t::P,x,y=>(if t.1=(x,y) then t.2 else 0)+cf2 P x y
def cv2:List ((Int×Int)×Int)->(Int->Int->Int)->Int->Int->Int
 |[],_,_,_=>0
 |t::P,g,a,b=>t.2*g (a-t.1.1) (b-t.1.2)+cv2 P g a b
theorem yi6 (g:Int->Int->Int) (a b:Int) (u:Int×Int): ∀P,cv2 P g a b=cf2 P u.1 u.2*g (a-u.1) (b-u.2)+cv2 (P.filter fun t=>t.1≠u) g a b
 |[]=>by show (0:Int)=0*_+0;omega
 |t::P=>by
  have ih:=yi6 g a b u P
  by_cases h:t.1=u
  ·rw [List.filter_cons_of_neg (by simp [h])]
   show t.2*g (a-t.1.1) (b-t.1.2)+cv2 P g a b=((if t.1=(u.1,u.2) then t.2 else 0)+cf2 P u.1 u.2)*_+_
   rw [ih,if_pos h,h,Int.add_mul];omega
  ·rw [List.filter_cons_of_pos (by simp [h])]
   show t.2*g (a-t.1.1) (b-t.1.2)+cv2 P g a b=((if t.1=(u.1,u.2) then t.2 else 0)+cf2 P u.1 u.2)*_+(t.2*g (a-t.1.1) (b-t.1.2)+cv2 (P.filter fun t=>t.1≠u) g a b)
   rw [ih,if_neg h,Int.zero_add];omega
theorem yic (u:Int×Int) (x y:Int): ∀P,cf2 (P.filter fun t=>t.1≠u) x y=if (x,y)=u then 0 else cf2 P x y
 |[]=>by show (0:Int)=if _ then 0 else 0;split<;>rfl
 |t::P=>by
  have ih:=yic u x y P
  by_cases h:t.1=u
  ·rw [List.filter_cons_of_neg (by simp [h]),ih]
   by_cases h1:(x,y)=u
   ·rw [if_pos h1,if_pos h1]
   ·rw [if_neg h1,if_neg h1]
    show _=(if t.1=(x,y) then t.2 else 0)+cf2 P x y
    rw [if_neg (show¬t.1=(x,y) from fun e=>h1 (e.symm.trans h)),Int.zero_add]
  ·rw [List.filter_cons_of_pos (by simp [h])]
   show (if t.1=(x,y) then t.2 else 0)+cf2 (P.filter fun t=>t.1≠u) x y=_
   rw [ih]
   by_cases h1:(x,y)=u
   ·rw [if_pos h1,if_pos h1,if_neg (fun e=>h (e.trans h1))];rfl
   ·rw [if_neg h1,if_neg h1];rfl
theorem cv2_ext (g:Int->Int->Int) (a b:Int): ∀(n:Nat) (P Q:List ((Int×Int)×Int)),P.length+Q.length<=n->(∀x y,cf2 P x y=cf2 Q x y)->cv2 P g a b=cv2 Q g a b
 |0,P,Q,hn,h=>by
  obtain rfl:P=[]:=List.eq_nil_of_length_eq_zero (by omega)
  obtain rfl:Q=[]:=List.eq_nil_of_length_eq_zero (by omega)
  rfl
 |n+1,P,Q,hn,h=>by
  have step: ∀u:Int×Int,(∃t∈P,t.1=u)\/(∃t∈Q,t.1=u)->cv2 P g a b=cv2 Q g a b:=fun u hu=>by
   rw [yi6 g a b u P,yi6 g a b u Q,h u.1 u.2]
   congr 1
   refine cv2_ext g a b n _ _ ?_ fun x y=>by rw [yic,yic,h]
   have l1:=List.length_filter_le (fun t:(Int×Int)×Int=>t.1≠u) P
   have l2:=List.length_filter_le (fun t:(Int×Int)×Int=>t.1≠u) Q
   rcases hu with ⟨t,ht,e⟩|⟨t,ht,e⟩
   ·have:(P.filter fun t=>t.1≠u).length<P.length:=by
     refine Nat.lt_of_le_of_ne l1 fun he=>?_
     have:=List.length_filter_eq_length_iff.1 he t ht
     simp [e] at this
    omega
   ·have:(Q.filter fun t=>t.1≠u).length<Q.length:=by
     refine Nat.lt_of_le_of_ne l2 fun he=>?_
     have:=List.length_filter_eq_length_iff.1 he t ht
     simp [e] at this
    omega
  cases P with
  |cons t P=>exact step t.1 (.inl ⟨t, .head _,rfl⟩)
  |nil=>
   cases Q with
   |nil=>rfl
   |cons t Q=>exact step t.1 (.inr ⟨t, .head _,rfl⟩)
section
variable {s m:List Int} {l:Nat}
end
end Hs
end Go.Proofs.YtbblgobamoabkaaGreatDoor
namespace Go.Proofs.YtbblgobamoabkaaGreatDoor
set_option linter.unusedSimpArgs false
set_option linter.unusedVariables false
namespace Hs
section
variable {s m:List Int} {l:Nat}
def one2 (_ y:Int):Int:=if y=0 then 1 else 0
end
end Hs
end Go.Proofs.YtbblgobamoabkaaGreatDoor
namespace Go.Proofs.YtbblgobamoabkaaGreatDoor
set_option linter.unusedSimpArgs false
set_option linter.unusedVariables false
namespace Hs
section
variable {s m:List Int} {L:Int}
theorem Xh_1 (a b:Int):Xh a b 0 0 1=if a=0/\b=0 then 1 else 0:=by
 unfold Xh
 show (if b=0-(((1:Nat):Int)-1) then (if a-0=0 then 1 else 0) else 0)=_
 by_cases h:a=0/\b=0
 ·rw [if_pos (by omega),if_pos (by omega),if_pos h]
 ·rw [if_neg h]
  by_cases h1:b=0-(((1:Nat):Int)-1)
  ·rw [if_pos h1,if_neg (by omega)]
  ·rw [if_neg h1]
theorem y8o (n:Nat) (a b:Int):Xh a b 0 0 (n+1+1)=Dl (fun a b=>Xh a b 0 0 (n+1)) a b:=Xh_k a b 0 0 (by omega)
def to2 (P:List (Int×Int)):List ((Int×Int)×Int):=P.map fun t=>((bvA t.1,bvZ t.1),t.2)
theorem to2_cf: ∀(P:List (Int×Int)) (x y:Int),-8388608<=y/\y<8388608->cf2 (to2 P) x y=cfL P (bvE x y)
 |[],_,_,_=>rfl
 |t::P,x,y,h=>by
  show (if (bvA t.1,bvZ t.1)=(x,y) then t.2 else 0)+cf2 (to2 P) x y=(if t.1=bvE x y then t.2 else 0)+cfL P (bvE x y)
  rw [to2_cf P x y h]
  congr 1
  by_cases e:t.1=bvE x y
  ·rw [if_pos e,if_pos (by rw [e,yee h,ycx h])]
  ·rw [if_neg e,if_neg fun e'=>e ?_]
   have e1:bvA t.1=x:=congrArg Prod.fst e'
   have e2:bvZ t.1=y:=congrArg Prod.snd e'
   rw [←e1,←e2,ycj]
theorem to2_off {P:List (Int×Int)} {x y:Int} (h: ¬(-8388608<=y/\y<8388608)):cf2 (to2 P) x y=0:=by
 induction P with
 |nil=>rfl
 |cons t P ih=>
  show (if (bvA t.1,bvZ t.1)=(x,y) then t.2 else 0)+cf2 (to2 P) x y=0
  rw [ih,if_neg fun e=>h ?_]
  ·rfl
  ·have e2:bvZ t.1=y:=congrArg Prod.snd e
   rw [←e2];exact yjs _
end
end Hs
end Go.Proofs.YtbblgobamoabkaaGreatDoor
