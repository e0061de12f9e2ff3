/- Plain: one component of a diagram is reversed: validity, bracket, writhe; linking numbers. -/
import Derived.Test.YtphjphpmfflfpaaGreatDoorJr2
namespace Go.Proofs.YtphjphpmfflfpaaGreatDoor
set_option linter.unusedSimpArgs false
set_option linter.unusedVariables false
def qB (s:List Int) (un ov:Nat->Bool):List Int:=iF s (fun c=>if un c.toNat=ov c.toNat then 1 else-1) s.length
def wh (m:List Int) (un:Nat->Bool):List Int:=j7 m (fun h=>dB h (if un (h/4).toNat then 2 else 0)) m.length
def rK (un:Nat->Bool) (c:Nat):Nat:=if un c then 2 else 0
def mI (un ov:Nat->Bool) (x:Nat):Bool:=if x % 2=0 then un (x/4) else ov (x/4)
section
variable {s m:List Int} {L:Int} {un ov:Nat->Bool}
theorem xR (un:Nat->Bool) (c:Nat):rK un c=0\/rK un c=2:=by unfold rK;split<;>simp
theorem UA (un:Nat->Bool) (x:Nat):da (rK un) (da (rK un) x)=x:=by
 have hd:da (rK un) x/4=x/4:=by unfold da;omega
 have:=xR un (x/4)
 unfold da at hd⊢;rw [hd];omega
theorem Uz (hp:aE m s.length):Rel s.length (da (rK un)) (da (rK un)) m (wh m un):=by
 refine Gq (fun x=>?_) (fun x=>by unfold da;omega) (fun x=>by unfold da;omega) (UA un) (UA un) hp;have hd:(((x:Int)/4).toNat)=x/4:=by omega
 unfold dB da rK;rw [hd];by_cases h:un (x/4)=true
 ·rw [if_pos h,if_pos h,show Int.tmod 2 4=2 by decide];omega
 ·rw [if_neg h,if_neg h,show Int.tmod 0 4=0 by decide];omega
theorem VS:(qB s un ov).length=s.length:=sv _ _ _
theorem J6 {c:Nat} (hc:c<s.length):(qB s un ov).getD c 0=if un c=ov c then s.getD c 0 else-s.getD c 0:=by
 unfold qB;rw [zi hc,Int.toNat_natCast]
 split<;>omega
theorem Ok (hv:bF s m L=true) (Au: ∀x,x<4*s.length->mI un ov (m.getD x 0).toNat=mI un ov x):bF (qB s un ov) (wh m un) L=true:=by
 have v:=cK hv;have hp:=bP hv;refine TT hv VS (Uz hp) (fun i hi=>by have:=v.sg i hi;rw [J6 hi];split<;>omega) (mI un ov) Au (fun x hx=>?_) (.inl fun x hx=>?_)
 ·obtain ⟨c,hc⟩: ∃c,x/4=c:=⟨_,rfl⟩;have jH:=four x;rw [hc] at jH;have bO:c<s.length:=by omega
  obtain ⟨a0,a1,a2,a3⟩:=mK s c;obtain ⟨b0,b1,b2,b3⟩:=mK (qB s un ov) c;rw [J6 bO] at b1 b3;have d0:4*c/4=c:=by omega
  have d1:(4*c+1)/4=c:=by omega
  have d2:(4*c+2)/4=c:=by omega
  have d3:(4*c+3)/4=c:=by omega
  have R: ∀t,t<4->da (rK un) (4*c+t)=if un c=true then 4*c+(t+2)% 4 else 4*c+t:=fun t ht=>by
   unfold da;rw [show (4*c+t)/4=c by omega];unfold rK
   split<;>omega
  have r0:=R 0 (by omega);have r1:=R 1 (by omega);have r2:=R 2 (by omega);have r3:=R 3 (by omega);rw [Nat.add_zero] at r0;rcases jH with rfl|rfl|rfl|rfl
  ·have e:mI un ov (4*c)=un c:=by unfold mI;rw [if_pos (by omega),d0]
   rw [r0,e,a0];cases un c
   ·rw [if_neg (by simp),b0];rfl
   ·rw [if_pos rfl,b2];rfl
  ·have e:mI un ov (4*c+1)=ov c:=by unfold mI;rw [if_neg (by omega),d1]
   rw [r1,e,a1];cases h1:un c with
   |false=>
    rw [if_neg (by simp),b1,h1];rcases v.sg c bO with h|h<;>rw [h]<;>cases ov c<;>rfl
   |true=>
    rw [if_pos rfl,show 4*c+(1+2)% 4=4*c+3 by omega,b3,h1];rcases v.sg c bO with h|h<;>rw [h]<;>cases ov c<;>rfl
  ·have e:mI un ov (4*c+2)=un c:=by unfold mI;rw [if_pos (by omega),d2]
   rw [r2,e,a2];cases un c
   ·rw [if_neg (by simp),b2];rfl
   ·rw [if_pos rfl,show 4*c+(2+2)% 4=4*c by omega,b0];rfl
  ·have e:mI un ov (4*c+3)=ov c:=by unfold mI;rw [if_neg (by omega),d3]
   rw [r3,e,a3];cases h1:un c with
   |false=>
    rw [if_neg (by simp),b3,h1];rcases v.sg c bO with h|h<;>rw [h]<;>cases ov c<;>rfl
   |true=>
    rw [if_pos rfl,show 4*c+(3+2)% 4=4*c+1 by omega,b1,h1];rcases v.sg c bO with h|h<;>rw [h]<;>cases ov c<;>rfl
 ·have hd:Sp.bT x/4=x/4:=Sp.fe x
  have:=xR un (x/4)
  unfold da;rw [hd];unfold Sp.bT;omega
theorem DY (hv:bF s m L=true) (Ln j:Nat) (e:Int):aU (wh m un) s.length Ln j e=aU m s.length Ln j e:=by
 have hp:=bP hv;refine JR id (fun k hk=>hk) (fun k l _ _ e=>e) (fun k hk=>CY (Uz hp) hp fun x hx=>?_) (fun k _=>rfl) j e;have hd:da (rK un) x/4=x/4:=by unfold da;omega
 rw [hd];have hj:=xl (cA k (x/4)) x;have hn:=MH (cA k (x/4)) (h:=(x:Int)) (by omega);have e1: ∀y:Nat,y/4=x/4->da (rK un) y=if un (x/4)=true then da (fun _=>2) y else y:=fun y hy=>by
  unfold da;rw [hy];unfold rK
  split<;>(try dsimp only)<;>omega
 rw [e1 x rfl,e1 _ (by omega)];by_cases h:un (x/4)=true
 ·rw [if_pos h,if_pos h];exact V3 _ x
 ·rw [if_neg h,if_neg h];simp only [id];omega
theorem DX:sm (fun c=>(qB s un ov).getD c 0) s.length=sm (fun c=>s.getD c 0) s.length-2*sm (fun c=>if un c=ov c then 0 else s.getD c 0) s.length:=by
 have e:sm (fun c=>(qB s un ov).getD c 0) s.length=sm (fun c=>s.getD c 0+(-2)*(if un c=ov c then 0 else s.getD c 0)) s.length:=dO fun c hc=>by
  rw [J6 hc];split<;>omega
 rw [e,nH,sz];omega
end
structure CH (s m:List Int) (K:Nat) (u o:Nat->Nat):Prop where
 ul: ∀c,c<s.length->u c<K
 ol: ∀c,c<s.length->o c<K
 um: ∀c,c<s.length->((4*c+2:Nat):Int)∈aI s m (u c)
 om: ∀c,c<s.length->((k9 s c:Nat):Int)∈aI s m (o c)
def pK (s:List Int) (u o:Nat->Nat) (i j:Nat) (n:Nat):Int:=sm (fun c=>if u c=i/\o c=j\/u c=j/\o c=i then s.getD c 0 else 0) n
section
variable {s m:List Int} {L:Int} {u o:Nat->Nat}
theorem FY (hv:bF s m L=true) (ha:CH s m (a8 s m).length u o) {c:Nat} (hc:c<s.length) (k:Nat) (hk:k<(a8 s m).length):(((4*c+2:Nat):Int)∈aI s m k↔u c=k)/\(((k9 s c:Nat):Int)∈aI s m k↔o c=k):=by
 have v:=cK hv;refine ⟨⟨fun h=>CW v (ha.ul c hc) hk (ha.um c hc) h,fun h=>?_⟩,fun h=>CW v (ha.ol c hc) hk (ha.om c hc) h,fun h=>?_⟩
 ·rw [←h];exact ha.um c hc
 ·rw [←h];exact ha.om c hc
theorem RA (hv:bF s m L=true) (ha:CH s m (a8 s m).length u o) {i j:Nat} (eK:i≠j):pK s u o i j s.length % 2=0:=by
 have v:=cK hv;by_cases hi:i<(a8 s m).length
 ·by_cases hj:j<(a8 s m).length
  ·rw [←ZT hv hi hj eK];unfold pK;refine I7 fun c hc=>?_;obtain ⟨a1,a2⟩:=FY hv ha hc i hi;obtain ⟨b1,b2⟩:=FY hv ha hc j hj;have hs:=v.sg c hc;simp only [a1,a2,b1,b2];by_cases A:u c=i
   ·have C: ¬u c=j:=by omega
    by_cases B:o c=j
    ·rw [if_pos (.inl ⟨A,B⟩),if_neg fun h=>C h.1,if_pos ⟨A,B⟩];omega
    ·rw [if_neg fun h=>h.elim (fun x=>B x.2) fun x=>C x.1,if_neg fun h=>C h.1,if_neg fun h=>B h.2];rfl
   ·by_cases C:u c=j
    ·by_cases D:o c=i
     ·rw [if_pos (.inr ⟨C,D⟩),if_pos ⟨C,D⟩,if_neg fun h=>A h.1];omega
     ·rw [if_neg fun h=>h.elim (fun x=>A x.1) fun x=>D x.2,if_neg fun h=>D h.2,if_neg fun h=>A h.1];rfl
    ·rw [if_neg fun h=>h.elim (fun x=>A x.1) fun x=>C x.1,if_neg fun h=>C h.1,if_neg fun h=>A h.1];rfl
  ·have:pK s u o i j s.length=sm (fun _=>0) s.length:=dO fun c hc=>by
    have:=ha.ul c hc
    have:=ha.ol c hc
    exact if_neg (by omega)
   rw [this,k8];simp
 ·have:pK s u o i j s.length=sm (fun _=>0) s.length:=dO fun c hc=>by
   have:=ha.ul c hc
   have:=ha.ol c hc
   exact if_neg (by omega)
  rw [this,k8];simp
def nP (s:List Int) (u o:Nat->Nat) (i:Nat) (k:Nat):Int:=sm (fun j=>if j=i then 0 else pK s u o i j s.length/2) k
theorem Nt (hv:bF s m L=true) (ha:CH s m (a8 s m).length u o) (i:Nat) {N:Nat} (hN:(a8 s m).length<=N):
  2*nP s u o i N=sm (fun c=>if decide (u c=i)=decide (o c=i) then 0 else s.getD c 0) s.length:=by
 have e1:2*nP s u o i N=sm (fun j=>sm (fun c=>if j=i then 0 else if u c=i/\o c=j\/u c=j/\o c=i then s.getD c 0 else 0) s.length) N:=by
  unfold nP;rw [←sz];refine dO fun j hj=>?_;by_cases h:j=i
  ·rw [if_pos h]
   have:sm (fun c=>if j=i then 0 else if u c=i/\o c=j\/u c=j/\o c=i then s.getD c 0 else 0) s.length=sm (fun _=>0) s.length:=dO fun c _=>if_pos h
   rw [this,k8];omega
  ·rw [if_neg h]
   have:sm (fun c=>if j=i then 0 else if u c=i/\o c=j\/u c=j/\o c=i then s.getD c 0 else 0) s.length=pK s u o i j s.length:=dO fun c _=>if_neg h
   rw [this]
   have:=RA hv ha (fun e=>h e.symm:i≠j)
   omega
 rw [e1,GI];refine dO fun c hc=>?_;have h1:=ha.ul c hc;have h2:=ha.ol c hc;by_cases A:u c=i
 ·by_cases B:o c=i
  ·have:sm (fun j=>if j=i then 0 else if u c=i/\o c=j\/u c=j/\o c=i then s.getD c 0 else 0) N=sm (fun _=>0) N:=dO fun j _=>by
    by_cases h:j=i
    ·rw [if_pos h]
    ·rw [if_neg h,if_neg (by omega)]
   rw [this,k8,if_pos (by simp [A,B])];omega
  ·rw [vJ (a:=o c) (by omega) fun j _ hj=>by
    by_cases h:j=i
    ·rw [if_pos h]
    ·rw [if_neg h,if_neg (by omega)]]
   rw [if_neg B,if_pos (.inl ⟨A,rfl⟩),if_neg (by simp [A,B])]
 ·by_cases B:o c=i
  ·rw [vJ (a:=u c) (by omega) fun j _ hj=>by
    by_cases h:j=i
    ·rw [if_pos h]
    ·rw [if_neg h,if_neg (by omega)]]
   rw [if_neg A,if_pos (.inr ⟨rfl,B⟩),if_neg (by simp [A,B])]
  ·have:sm (fun j=>if j=i then 0 else if u c=i/\o c=j\/u c=j/\o c=i then s.getD c 0 else 0) N=sm (fun _=>0) N:=dO fun j _=>by
    by_cases h:j=i
    ·rw [if_pos h]
    ·rw [if_neg h,if_neg (by omega)]
   rw [this,k8,if_pos (by simp [A,B])];omega
theorem FR (hv:bF s m L=true) (ha:CH s m (a8 s m).length u o) (i:Nat) (x:Nat) (hx:x<4*s.length):mI (fun c=>decide (u c=i)) (fun c=>decide (o c=i)) (m.getD x 0).toNat=mI (fun c=>decide (u c=i)) (fun c=>decide (o c=i)) x:=by
 have v:=cK hv;obtain ⟨y,h1,h2,h3⟩:=Ga v hx;rw [h1,Int.toNat_natCast];by_cases hi:i<(a8 s m).length
 ·have key: ∀z:Nat,z<4*s.length->(mI (fun c=>decide (u c=i)) (fun c=>decide (o c=i)) z=true↔iH s m i z):=fun z hz=>by
   obtain ⟨c,hc⟩: ∃c,z/4=c:=⟨_,rfl⟩;have jH:=four z;rw [hc] at jH;have bO:c<s.length:=by omega
   obtain ⟨b1,b2⟩:=FY hv ha bO i hi;obtain ⟨a0,a1,a2,a3⟩:=mK s c;have p0:iu (4*c)=4*c+2:=by unfold iu;omega
   have p1:iu (4*c+1)=4*c+3:=by unfold iu;omega
   have k0:=AY v hi (x:=4*c) (by omega);have k1:=AY v hi (x:=4*c+1) (by omega);rw [p0] at k0;rw [p1] at k1;have u2:iH s m i (4*c+2)↔u c=i:=by unfold iH;rw [if_pos a2];exact b1
   have o2:iH s m i (k9 s c)↔o c=i:=by
    unfold iH;rw [if_pos]
    ·exact b2
    ·unfold k9;rcases v.sg c bO with h|h
     ·rw [if_pos h,a1,h];rfl
     ·rw [if_neg (by omega),a3,h];rfl
   have o1:iH s m i (4*c+1)↔o c=i:=by
    rw [←o2];unfold k9;rcases v.sg c bO with h|h
    ·rw [if_pos h]
    ·rw [if_neg (by omega)];exact k1.symm
   unfold mI;rcases jH with rfl|rfl|rfl|rfl
   ·rw [if_pos (by omega),show 4*c/4=c by omega,decide_eq_true_iff,←u2,k0]
   ·rw [if_neg (by omega),show (4*c+1)/4=c by omega,decide_eq_true_iff,←o1]
   ·rw [if_pos (by omega),show (4*c+2)/4=c by omega,decide_eq_true_iff,←u2]
   ·rw [if_neg (by omega),show (4*c+3)/4=c by omega,decide_eq_true_iff,←o1,k1]
  have hk:=UB v i hx h1;rw [←key y h2,←key x hx] at hk;exact Bool.eq_iff_iff.2 hk
 ·have key: ∀z:Nat,z<4*s.length->mI (fun c=>decide (u c=i)) (fun c=>decide (o c=i)) z=false:=fun z hz=>by
   have:=ha.ul (z/4) (by omega)
   have:=ha.ol (z/4) (by omega)
   unfold mI
   split<;>exact decide_eq_false (by omega)
  rw [key y h2,key x hx]
end
end Go.Proofs.YtphjphpmfflfpaaGreatDoor
