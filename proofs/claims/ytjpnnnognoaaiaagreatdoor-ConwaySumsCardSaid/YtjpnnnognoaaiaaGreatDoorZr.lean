/- The split union of two diagrams; its polynomial is 0. -/
import Derived.Test.YtjpnnnognoaaiaaGreatDoorSr
import Derived.Test.YtjpnnnognoaaiaaGreatDoorKb9
set_option linter.unusedSimpArgs false
set_option linter.unusedVariables false
namespace Go.Proofs.YtjpnnnognoaaiaaGreatDoor
namespace Sp
section
variable {s s1 s2 m m1 m2:List Int} {L L1 L2:Int} {n c k:Nat}
def unM (m1 m2:List Int):List Int:=m1++m2.map fun x=>x+(m1.length:Int)
theorem unM_l {i:Nat} (h:i<m1.length):(unM m1 m2).getD i 0=m1.getD i 0:=ydn _ _ _ h
theorem unM_r {i:Nat} (h:i<m2.length):(unM m1 m2).getD (m1.length+i) 0=m2.getD i 0+m1.length:=by
 unfold unM
 rw [ydo _ _ _ (by omega),show m1.length+i-m1.length=i by omega]
 simp only [List.getD_eq_getElem?_getD,List.getElem?_map,List.getElem?_eq_getElem h,Option.map_some,Option.getD_some]
theorem outB_l {x:Int} (h0:0<=x) (h:x<4*s1.length):outB (s1++s2) x=outB s1 x:=by
 unfold outB
 rw [ydn _ _ _ (by omega)]
theorem outB_r {x:Int} (h0:0<=x):outB (s1++s2) (x+4*s1.length)=outB s2 x:=by
 unfold outB
 rw [show (x+4*s1.length)% 4=x % 4 by omega,show ((x+4*s1.length)/4).toNat=s1.length+(x/4).toNat by omega,ydo _ _ _ (by omega),show s1.length+(x/4).toNat-s1.length=(x/4).toNat by omega]
theorem valid_union (h1:yaf s1 m1 L1=true) (h2:yaf s2 m2 L2=true) (hn:s1.length+s2.length<=64) (hL:L1+L2<=64):yaf (s1++s2) (unM m1 m2) (L1+L2)=true:=by
 have v1:=yal h1
 have v2:=yal h2
 obtain ⟨d1,p1⟩:=dia_of h1
 obtain ⟨d2,p2⟩:=dia_of h2
 have S1:=d1.sph.1 p1
 have S2:=d2.sph.1 p2
 have l1:=v1.len
 have l2:=v2.len
 have hsl:(s1++s2).length=s1.length+s2.length:=by simp
 have hml:(unM m1 m2).length=4*(s1.length+s2.length):=by unfold unM;simp;omega
 have gl: ∀i,i<4*s1.length->(unM m1 m2).getD i 0=m1.getD i 0:=fun i hi=>unM_l (by omega)
 have gr: ∀i,i<4*s2.length->(unM m1 m2).getD (i+4*s1.length) 0=m2.getD i 0+(4*s1.length:Nat):=fun i hi=>by
  rw [Nat.add_comm,←l1,unM_r (by omega)]
 have al: ∀i,i<4*s1.length->alD (unM m1 m2) i=alD m1 i:=fun i hi=>by unfold alD;rw [gl i hi]
 have ar: ∀i,i<4*s2.length->alD (unM m1 m2) (i+4*s1.length)=alD m2 i+4*s1.length:=fun i hi=>by
  have:=(v2.mt i hi).1
  unfold alD;rw [gr i hi];omega
 have cs: ∀x,x<4*(s1.length+s2.length)->x<4*s1.length\/ ∃i,i<4*s2.length/\x=i+4*s1.length:=fun x hx=>by
  by_cases h:x<4*s1.length
  ·exact .inl h
  ·exact .inr ⟨x-4*s1.length,by omega,by omega⟩
 have hM:Mat (4*(s1.length+s2.length)) (alD (unM m1 m2)):=by
  refine ⟨fun x hx=>?_,fun x hx=>?_,fun x hx=>?_⟩
  ·rcases cs x hx with h|⟨i,hi,rfl⟩
   ·rw [al x h];have:=S1.mat.lt x h;omega
   ·rw [ar i hi];have:=S2.mat.lt i hi;omega
  ·rcases cs x hx with h|⟨i,hi,rfl⟩
   ·rw [al x h,al _ (S1.mat.lt x h)];exact S1.mat.inv x h
   ·rw [ar i hi,ar _ (S2.mat.lt i hi),S2.mat.inv i hi]
  ·rcases cs x hx with h|⟨i,hi,rfl⟩
   ·rw [al x h];exact S1.mat.ne x h
   ·rw [ar i hi];have:=S2.mat.ne i hi;omega
 have hS:Sph (4*(s1.length+s2.length)) siD (alD (unM m1 m2)):=by
  refine ⟨siD_perm _,hM,fun r hr=>?_⟩
  rcases cs r hr with h|⟨i,hi,rfl⟩
  ·have:=ylx (N:=4*(s1.length+s2.length)) (N':=4*s1.length) (si:=siD) (al:=alD (unM m1 m2)) (si':=siD) (al':=alD m1) (io:=id) (siD_perm _) hM (fun x hx=>by simp only [id];omega) (fun x y _ _ e=>e) (fun x hx=>(siD_perm s1.length).lt x hx) S1.mat.lt (fun x _=>rfl) (fun x hx=>(al x hx).symm)
   exact (this.2.2 r h).2 (S1.eq r h)
  ·have:=ylx (N:=4*(s1.length+s2.length)) (N':=4*s2.length) (si:=siD) (al:=alD (unM m1 m2)) (si':=siD) (al':=alD m2) (io:=fun x=>x+4*s1.length) (siD_perm _) hM (fun x hx=>by omega) (fun x y _ _ e=>by omega) (fun x hx=>(siD_perm s2.length).lt x hx) S2.mat.lt (fun x _=>by unfold siD;omega) (fun x hx=>(ar x hx).symm)
   exact (this.2.2 i hi).2 (S2.eq i hi)
 have hc: ∀x,x<4*(s1.length+s2.length)->((alD (unM m1 m2) x:Nat):Int)=(unM m1 m2).getD x 0:=fun x hx=>by
  rcases cs x hx with h|⟨i,hi,rfl⟩
  ·have:=(v1.mt x h).1
   rw [al x h,gl x h];unfold alD;omega
  ·have:=(v2.mt i hi).1
   rw [ar i hi,gr i hi];unfold alD;omega
 have hD:Dia (unM m1 m2) (s1.length+s2.length):=by
  refine ⟨⟨⟨hml,fun i hi=>?_⟩,fun x hx=>?_⟩,fun x hx e=>?_⟩
  ·have h1:=hc i hi;have h2:=hM.lt i hi;omega
  ·have h1:=hc x hx
   have h2:=hM.inv x hx
   have h3:=hc _ (hM.lt x hx)
   rw [h2] at h3
   rw [←h1,Int.toNat_natCast,←h3]
  ·have h1:=hc x hx
   exact hM.ne x hx (by omega)
 rw [yg0]
 unfold ygz
 rw [hsl,Bool.and_eq_true]
 refine ⟨?_,hD.sph.2 hS⟩
 unfold ycn
 rw [decide_eq_true_iff,hsl]
 have z1:=v1.l0
 have z2:=v2.l0
 refine ⟨hn,hml,by omega,hL,fun i hi=>?_,fun h hh=>?_⟩
 ·by_cases hi1:i<s1.length
  ·rw [ydn _ _ _ hi1];exact v1.sg i hi1
  ·rw [ydo _ _ _ (by omega)];exact v2.sg _ (by omega)
 ·have q:=hD.prd.ok.2 h hh
  refine ⟨q.1,by rw [hsl];exact q.2,hD.ne h hh,hD.prd.inv h hh,?_⟩
  rcases cs h hh with hl|⟨i,hi,rfl⟩
  ·have r:=v1.mt h hl
   rw [gl h hl,outB_l (by omega) (by omega),outB_l r.1 r.2.1];exact r.2.2.2.2
  ·have r:=v2.mt i hi
   rw [gr i hi,show ((i+4*s1.length:Nat):Int)=(i:Int)+4*s1.length by omega,show ((4*s1.length:Nat):Int)=4*(s1.length:Int) by omega,outB_r (by omega),outB_r r.1];exact r.2.2.2.2
variable {col:Nat->Bool} {LA LB:Int}
end
end Sp
end Go.Proofs.YtjpnnnognoaaiaaGreatDoor
namespace Go.Proofs.YtjpnnnognoaaiaaGreatDoor
set_option linter.unusedSimpArgs false
set_option linter.unusedVariables false
theorem yzp (b:Bool) (x:Int) (n:Nat):jnB b (x+4*n)=jnB b x+4*n:=by
 unfold jnB
 rw [yd6,yc2,yd6,yc2,show (x+4*(n:Int))% 2=x % 2 by omega]
 split<;>omega
section
variable {m1 m2:List Int} {n1 n2:Nat}
end
section
variable {m1 m2:List Int} {n1 n2 L1 L2:Nat}
end
end Go.Proofs.YtjpnnnognoaaiaaGreatDoor
