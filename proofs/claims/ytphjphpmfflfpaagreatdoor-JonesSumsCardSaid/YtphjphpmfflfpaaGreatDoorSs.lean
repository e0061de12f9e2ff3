/- The split union of two diagrams; its polynomial is 0. -/
import Derived.Test.YtphjphpmfflfpaaGreatDoorZn
set_option linter.unusedSimpArgs false
set_option linter.unusedVariables false
namespace Go.Proofs.YtphjphpmfflfpaaGreatDoor
namespace Sp
section
variable {s s1 s2 m m1 m2:List Int} {L L1 L2:Int} {n c k:Nat}
def bR (m1 m2:List Int):List Int:=m1++m2.map fun x=>x+(m1.length:Int)
theorem oa {i:Nat} (h:i<m1.length):(bR m1 m2).getD i 0=m1.getD i 0:=dS _ _ _ h
theorem ti {i:Nat} (h:i<m2.length):(bR m1 m2).getD (m1.length+i) 0=m2.getD i 0+m1.length:=by
 unfold bR;rw [dR _ _ _ (by omega),show m1.length+i-m1.length=i by omega];simp only [List.getD_eq_getElem?_getD,List.getElem?_map,List.getElem?_eq_getElem h,Option.map_some,Option.getD_some]
theorem pP {x:Int} (h0:0<=x) (h:x<4*s1.length):aw (s1++s2) x=aw s1 x:=by
 unfold aw;rw [dS _ _ _ (by omega)]
theorem pO {x:Int} (h0:0<=x):aw (s1++s2) (x+4*s1.length)=aw s2 x:=by
 unfold aw;rw [show (x+4*s1.length)% 4=x % 4 by omega,show ((x+4*s1.length)/4).toNat=s1.length+(x/4).toNat by omega,dR _ _ _ (by omega),show s1.length+(x/4).toNat-s1.length=(x/4).toNat by omega]
theorem fR (h1:bF s1 m1 L1=true) (h2:bF s2 m2 L2=true) (hn:s1.length+s2.length<=64) (hL:L1+L2<=64):bF (s1++s2) (bR m1 m2) (L1+L2)=true:=by
 have v1:=cK h1;have v2:=cK h2;obtain ⟨d1,p1⟩:=jk h1;obtain ⟨d2,p2⟩:=jk h2;have S1:=d1.vZ.1 p1;have S2:=d2.vZ.1 p2;have l1:=v1.len;have l2:=v2.len;have cL:(s1++s2).length=s1.length+s2.length:=by simp
 have iw:(bR m1 m2).length=4*(s1.length+s2.length):=by unfold bR;simp;omega
 have gl: ∀i,i<4*s1.length->(bR m1 m2).getD i 0=m1.getD i 0:=fun i hi=>oa (by omega);have gr: ∀i,i<4*s2.length->(bR m1 m2).getD (i+4*s1.length) 0=m2.getD i 0+(4*s1.length:Nat):=fun i hi=>by
  rw [Nat.add_comm,←l1,ti (by omega)]
 have al: ∀i,i<4*s1.length->bW (bR m1 m2) i=bW m1 i:=fun i hi=>by unfold bW;rw [gl i hi]
 have ar: ∀i,i<4*s2.length->bW (bR m1 m2) (i+4*s1.length)=bW m2 i+4*s1.length:=fun i hi=>by
  have:=(v2.mt i hi).1
  unfold bW;rw [gr i hi];omega
 have cs: ∀x,x<4*(s1.length+s2.length)->x<4*s1.length\/ ∃i,i<4*s2.length/\x=i+4*s1.length:=fun x hx=>by
  by_cases h:x<4*s1.length
  ·exact .inl h
  ·exact .inr ⟨x-4*s1.length,by omega,by omega⟩
 have hM:jA (4*(s1.length+s2.length)) (bW (bR m1 m2)):=by
  refine ⟨fun x hx=>?_,fun x hx=>?_,fun x hx=>?_⟩
  ·rcases cs x hx with h|⟨i,hi,rfl⟩
   ·rw [al x h];have:=S1.ej.lt x h;omega
   ·rw [ar i hi];have:=S2.ej.lt i hi;omega
  ·rcases cs x hx with h|⟨i,hi,rfl⟩
   ·rw [al x h,al _ (S1.ej.lt x h)];exact S1.ej.inv x h
   ·rw [ar i hi,ar _ (S2.ej.lt i hi),S2.ej.inv i hi]
  ·rcases cs x hx with h|⟨i,hi,rfl⟩
   ·rw [al x h];exact S1.ej.ne x h
   ·rw [ar i hi];have:=S2.ej.ne i hi;omega
 have hS:k6 (4*(s1.length+s2.length)) bT (bW (bR m1 m2)):=by
  refine ⟨aT _,hM,fun r hr=>?_⟩;rcases cs r hr with h|⟨i,hi,rfl⟩
  ·have:=KD (N:=4*(s1.length+s2.length)) (N':=4*s1.length) (si:=bT) (al:=bW (bR m1 m2)) (si':=bT) (al':=bW m1) (io:=id) (aT _) hM (fun x hx=>by simp only [id];omega) (fun x y _ _ e=>e) (fun x hx=>(aT s1.length).lt x hx) S1.ej.lt (fun x _=>rfl) (fun x hx=>(al x hx).symm)
   exact (this.2.2 r h).2 (S1.eq r h)
  ·have:=KD (N:=4*(s1.length+s2.length)) (N':=4*s2.length) (si:=bT) (al:=bW (bR m1 m2)) (si':=bT) (al':=bW m2) (io:=fun x=>x+4*s1.length) (aT _) hM (fun x hx=>by omega) (fun x y _ _ e=>by omega) (fun x hx=>(aT s2.length).lt x hx) S2.ej.lt (fun x _=>by unfold bT;omega) (fun x hx=>(ar x hx).symm)
   exact (this.2.2 i hi).2 (S2.eq i hi)
 have hc: ∀x,x<4*(s1.length+s2.length)->((bW (bR m1 m2) x:Nat):Int)=(bR m1 m2).getD x 0:=fun x hx=>by
  rcases cs x hx with h|⟨i,hi,rfl⟩
  ·have:=(v1.mt x h).1
   rw [al x h,gl x h];unfold bW;omega
  ·have:=(v2.mt i hi).1
   rw [ar i hi,gr i hi];unfold bW;omega
 have hD:lA (bR m1 m2) (s1.length+s2.length):=by
  refine ⟨⟨⟨iw,fun i hi=>?_⟩,fun x hx=>?_⟩,fun x hx e=>?_⟩
  ·have h1:=hc i hi;have h2:=hM.lt i hi;omega
  ·have h1:=hc x hx;have h2:=hM.inv x hx;have h3:=hc _ (hM.lt x hx);rw [h2] at h3;rw [←h1,Int.toNat_natCast,←h3]
  ·have h1:=hc x hx;exact hM.ne x hx (by omega)
 rw [Ho];unfold Bo;rw [cL,Bool.and_eq_true];refine ⟨?_,hD.vZ.2 hS⟩;unfold ta;rw [decide_eq_true_iff,cL];have z1:=v1.l0;have z2:=v2.l0;refine ⟨hn,iw,by omega,hL,fun i hi=>?_,fun h hh=>?_⟩
 ·by_cases Ak:i<s1.length
  ·rw [dS _ _ _ Ak];exact v1.sg i Ak
  ·rw [dR _ _ _ (by omega)];exact v2.sg _ (by omega)
 ·have q:=hD.prd.ok.2 h hh;refine ⟨q.1,by rw [cL];exact q.2,hD.ne h hh,hD.prd.inv h hh,?_⟩;rcases cs h hh with hl|⟨i,hi,rfl⟩
  ·have r:=v1.mt h hl;rw [gl h hl,pP (by omega) (by omega),pP r.1 r.2.1];exact r.2.2.2.2
  ·have r:=v2.mt i hi;rw [gr i hi,show ((i+4*s1.length:Nat):Int)=(i:Int)+4*s1.length by omega,show ((4*s1.length:Nat):Int)=4*(s1.length:Int) by omega,pO (by omega),pO r.1];exact r.2.2.2.2
variable {QS:Nat->Bool} {LA LB:Int}
end
end Sp
end Go.Proofs.YtphjphpmfflfpaaGreatDoor
