/- Plain: renumbered crossings. -/
import Derived.Test.YtphjphpmfflfpaaGreatDoorZn
namespace Go.Proofs.YtphjphpmfflfpaaGreatDoor
set_option linter.unusedSimpArgs false
set_option linter.unusedVariables false
def nob (f:Nat->Bool):Nat->Nat
 |0=>0
 |n+1=>nob f n+if f n then 2^n else 0
theorem Ja (f:Nat->Bool): ∀n,nob f n<2^n
 |0=>by simp [nob]
 |n+1=>by have:=Ja f n;simp only [nob,Nat.pow_succ];split<;>omega
theorem Wx (f:Nat->Bool): ∀(n c:Nat),c<n->cA (nob f n) c=f c
 |n+1,c,h=>by
  have hl:=Ja f n;simp only [nob];by_cases hc:c<n
  ·rw [←Wx f n c hc];by_cases hf:f n=true
   ·rw [if_pos hf]
    have:=Ko (k1:=nob f n) (k2:=1) (i:=n) hc
    rw [Nat.mul_one,Nat.add_comm] at this;exact this
   ·rw [if_neg hf,Nat.add_zero]
  ·obtain rfl:c=n:=by omega
   by_cases hf:f c=true
   ·rw [if_pos hf,hf,Nat.add_comm];exact Kq hl
   ·rw [if_neg hf,Nat.add_zero,Jo hl];simpa using hf
theorem JL (ch:Nat->Bool): ∀n,(difS false ch n:Int)=sm (fun c=>if ch c then 1 else 0) n
 |0=>rfl
 |n+1=>by
  simp only [difS,sm,Int.natCast_add,JL ch n];cases ch n<;>simp
structure Ord (n:Nat) (o nu:Nat->Nat):Prop where
 ol: ∀i,i<n->o i<n
 nl: ∀c,c<n->nu c<n
 no: ∀i,i<n->nu (o i)=i
 on: ∀c,c<n->o (nu c)=c
def lC (nu:Nat->Nat) (x:Nat):Nat:=4*nu (x/4)+x % 4
def sE (s:List Int) (o:Nat->Nat) (n:Nat):List Int:=(List.range n).map fun i=>s.getD (o i) 0
def xP (m:List Int) (o nu:Nat->Nat) (n:Nat):List Int:=(List.range (4*n)).map fun y=>(lC nu (m.getD (lC o y) 0).toNat:Int)
section
variable {s m:List Int} {L:Int} {o nu:Nat->Nat}
theorem Kz {n:Nat} {o nu:Nat->Nat} (h: ∀i,i<n->nu (o i)=i) {x:Nat} (hx:x<4*n):lC nu (lC o x)=x:=by
 have:=h (x/4) (by omega)
 unfold lC;rw [show (4*o (x/4)+x % 4)/4=o (x/4) by omega,this];omega
theorem UP (hp:aE m s.length) (h:Ord s.length o nu):Rel s.length (lC nu) (lC o) m (xP m o nu s.length):=by
 have fl: ∀x,x<4*s.length->lC nu x<4*s.length:=fun x hx=>by have:=h.nl (x/4) (by omega);unfold lC;omega
 refine ⟨fl,fun x hx=>by have:=h.ol (x/4) (by omega);unfold lC;omega,fun x hx=>Kz h.on hx,fun x hx=>Kz h.no hx,by simp [xP],fun x hx=>?_⟩;unfold xP
 have:=fl x hx
 simp only [List.getD_eq_getElem?_getD,List.getElem?_map,List.getElem?_range this,Option.map_some,Option.getD_some];rw [Kz h.on hx]
theorem xQ (nu:Nat->Nat) (c:Nat):lC nu (4*c)=4*nu c/\lC nu (4*c+1)=4*nu c+1/\lC nu (4*c+2)=4*nu c+2/\lC nu (4*c+3)=4*nu c+3:=by
 unfold lC;rw [show 4*c/4=c by omega,show (4*c+1)/4=c by omega,show (4*c+2)/4=c by omega,show (4*c+3)/4=c by omega];omega
theorem Ox (hv:bF s m L=true) (h:Ord s.length o nu):bF (sE s o s.length) (xP m o nu s.length) L=true:=by
 have v:=cK hv;have hp:=bP hv;have sg: ∀i,i<s.length->(sE s o s.length).getD i 0=s.getD (o i) 0:=fun i hi=>by
  unfold sE;simp only [List.getD_eq_getElem?_getD,List.getElem?_map,List.getElem?_range hi,Option.map_some,Option.getD_some]
 refine Hy hv (by simp [sE]) (UP hp h) (fun i hi=>by rw [sg i hi];exact v.sg _ (h.ol i hi)) false (fun x hx=>?_) (.inl fun x hx=>?_)
 ·rw [Bool.false_xor];obtain ⟨c,hc⟩: ∃c,x/4=c:=⟨_,rfl⟩;have jH:=four x;rw [hc] at jH;have bO:c<s.length:=by omega
  obtain ⟨a0,a1,a2,a3⟩:=mK s c;obtain ⟨b0,b1,b2,b3⟩:=mK (sE s o s.length) (nu c);rw [sg _ (h.nl c bO),h.on c bO] at b1 b3;obtain ⟨r0,r1,r2,r3⟩:=xQ nu c;rcases jH with rfl|rfl|rfl|rfl
  ·rw [r0,b0,a0]
  ·rw [r1,b1,a1]
  ·rw [r2,b2,a2]
  ·rw [r3,b3,a3]
 ·have hd:Sp.bT x/4=x/4:=Sp.fe x;unfold lC;rw [hd];unfold Sp.bT;omega
theorem DW (hv:bF s m L=true) (h:Ord s.length o nu) (Ln j:Nat) (e:Int):aU (xP m o nu s.length) s.length Ln j e=aU m s.length Ln j e:=by
 have hp:=bP hv;have bit: ∀k i,i<s.length->cA (nob (fun i=>cA k (o i)) s.length) i=cA k (o i):=fun k i hi=>Wx _ _ i hi;refine JR (fun k=>nob (fun i=>cA k (o i)) s.length) (fun k hk=>Ja _ _) (fun k l hk hl e=>Nb hk hl fun c hc=>?_) (fun k hk=>CY (UP hp h) hp fun x hx=>?_) (fun k hk=>?_) j e
 ·have h1:=bit k (nu c) (h.nl c hc);have h2:=bit l (nu c) (h.nl c hc);rw [h.on c hc] at h1 h2;rw [←h1,←h2];rw [e]
 ·obtain ⟨c,hc⟩: ∃c,x/4=c:=⟨_,rfl⟩;have jH:=four x;rw [hc] at jH;have bO:c<s.length:=by omega
  have hd:lC nu x/4=nu c:=by unfold lC;rw [hc];omega
  rw [hd,hc,bit k (nu c) (h.nl c bO),h.on c bO];generalize cA k c=b;obtain ⟨r0,r1,r2,r3⟩:=xQ nu c;obtain ⟨j0,j1,j2,j3⟩:=zG b c;obtain ⟨i0,i1,i2,i3⟩:=zG b (nu c);rcases jH with rfl|rfl|rfl|rfl
  ·rw [r0,i0,j0,Int.toNat_natCast];cases b<;>simp [r1,r3]
  ·rw [r1,i1,j1,Int.toNat_natCast];cases b<;>simp [r0,r2]
  ·rw [r2,i2,j2,Int.toNat_natCast];cases b<;>simp [r1,r3]
  ·rw [r3,i3,j3,Int.toNat_natCast];cases b<;>simp [r0,r2]
 ·have e1:(jm (nob (fun i=>cA k (o i)) s.length) s.length:Int)=jm k s.length:=by
   rw [tb,tb,B5 fun i hi=>bit k i hi,JL,JL];exact xr (fun c=>if cA k c then 1 else 0) o h.ol fun x y hx hy e=>by rw [←h.no x hx,e,h.no y hy]
  unfold wB;rw [e1]
end
end Go.Proofs.YtphjphpmfflfpaaGreatDoor
