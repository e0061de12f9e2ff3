/- Layer 6: a crossing is left out; copies. -/
import Derived.Test.YtjpbeacamoijhaaGreatDoorZl
import Derived.Test.YtjpbeacamoijhaaGreatDoorPl
import Derived.Test.YtjpbeacamoijhaaGreatDoorZa
set_option linter.unusedSimpArgs false
set_option linter.unusedVariables false
namespace Go.Proofs.YtjpbeacamoijhaaGreatDoor
open Go Go.RowKit
set_option maxRecDepth 100000
set_option maxHeartbeats 4000000
theorem ZO (s m:List Int) (c:Nat) (L:Int) (hs:s.length<=1000) (hm:pT m s.length):Fn Tryz.prog 142 [roI s,roI m,I c,I L] (dgA (jz s c s.length) (cO m c s.length) L):=by
 have iR:=hm.1;refine Fn.aG [.cell 8 24] Tryz.func142 rfl rfl (by decide) (by simp [Tryz.ntmps142]) ?_;rw [Tryz.ntmps142]
 repeat' (first|omega|(try apply ah);simp only [go_sem,sevalprocAttr]|apply ag<;>(intro h_;(try simp only [h_]);revert h_)|apply zzL|with_reducible intro h_|trivial|simp only [go_sem,ai];omega)
 refine cN.intro (fun n fr H=> ∃k:Nat,k<=s.length/\n=s.length-k/\fr=[(18,I k),(17,I s.length),(16,roI s),(9, .ptr 1 0),(8, .ptr 0 0),(1,roI m),(2,I c)]/\((jz s c k=[]/\cO m c k=[]/\H=[(1, .cells 24 (.lst [.nils, .nils,I L])),(0, .cells 24 (.lst [.nils, .nils,I 0]))])\/H=[(5, .cells 3 (.ints (cO m c k))),(3, .cells 3 (.ints (jz s c k))),(1, .cells 24 (.lst [.sl 1 3 0 (jz s c k).length, .sl 1 5 0 (cO m c k).length,I L])),(0, .cells 24 (.lst [.nils, .nils,I 0]))])) ?_ ?_
 ·refine ⟨_,_,_,?_,0,by omega,rfl,rfl, .inl ⟨rfl,rfl,rfl⟩⟩;refine Wk.sub ?_ ?_<;>simp only [go_sem,sevalprocAttr]
 rintro n fr H ⟨k,hk,rfl,rfl,nV⟩;have wl1:=Sz s c k;have wl2:=Sy m c k;by_cases cJ:k<s.length
 ·rcases nV with ⟨jS,ju,rfl⟩|rfl
  ·repeat' (first|omega|(try apply ah);simp only [go_sem,sevalprocAttr]|apply ag<;>(intro h_;(try simp only [h_]);revert h_)|apply zzL|with_reducible intro h_|trivial|simp only [go_sem,ai];omega)
   ·have ek:jz s c (k+1)=jz s c k/\cO m c (k+1)=cO m c k:=by
     have:k=c:=by omega
     simp [jz,cO,this]
    refine ⟨_,_,_,?_,?_,⟨k+1,by omega,rfl,rfl, .inl ⟨by rw [ek.1];exact jS,by rw [ek.2];exact ju,rfl⟩⟩⟩
    ·omega
    ·refine Wk.sub ?_ ?_<;>simp only [go_sem,sevalprocAttr]
     all_goals simp_all
   ·have oi:k≠c:=by omega
    have ek:jz s c (k+1)=jz s c k++[s.getD k 0]/\cO m c (k+1)=dP m c k (cO m c k) 4:=by
     simp [jz,cO,oi]
    refine cN.intro (fun j fr H=> ∃x:Nat,x<=4/\j=4-x/\fr=[(32,I x),(10,I k),(18,I k),(17,I s.length),(16,roI s),(9, .ptr 1 0),(8, .ptr 0 0),(1,roI m),(2,I c)]/\((x=0/\cO m c k=[]/\H=[(3, .cells 3 (.ints (jz s c k++[s.getD k 0]))),(1, .cells 24 (.lst [.sl 1 3 0 (jz s c k++[s.getD k 0]).length, .nils,I L])),(0, .cells 24 (.lst [.nils, .nils,I 0]))])\/H=[(5, .cells 3 (.ints (dP m c k (cO m c k) x))),(3, .cells 3 (.ints (jz s c k++[s.getD k 0]))),(1, .cells 24 (.lst [.sl 1 3 0 (jz s c k++[s.getD k 0]).length, .sl 1 5 0 (dP m c k (cO m c k) x).length,I L])),(0, .cells 24 (.lst [.nils, .nils,I 0]))])) ?_ ?_
    ·refine ⟨_,_,_,?_,0,by omega,rfl,rfl, .inl ⟨rfl,ju,rfl⟩⟩;refine Wk.sub ?_ ?_<;>simp only [go_sem,sevalprocAttr]
     all_goals simp_all [dP]
    rintro j fr H ⟨x,hx,rfl,rfl,dA⟩;have wl4:=JV m c k (cO m c k) x;by_cases Pn:x<4
    ·have qz:=hm.2 (4*k+x) (by omega);have e0:(4*(k:Int)+x).toNat=4*k+x:=by omega
     have e2:(m.getD (4*k+x) 0).tdiv 4=m.getD (4*k+x) 0/4:=s9 qz.1;have eW:dP m c k (cO m c k) (x+1)=dP m c k (cO m c k) x++[dq m c (4*k+x)]:=rfl;rcases dA with ⟨rfl,GI,rfl⟩|rfl
     ·have CZ:=hm.2 (4*k) (by omega);have e3:(4*(k:Int)).toNat=4*k:=by omega
      have e4:(m.getD (4*k) 0).tdiv 4=m.getD (4*k) 0/4:=s9 CZ.1
      repeat' (first|omega|(try apply ah);simp only [go_sem,sevalprocAttr,e3,e4]|apply ag<;>(intro h_;(try simp only [h_]);revert h_)|apply zzL|with_reducible intro h_|trivial|simp only [go_sem,ai];omega)
      ·have hcut:dq m c (4*k)=m.getD (4*k) 0-4:=by unfold dq;rw [zzJ (by omega)]
       have e5:dP m c k (cO m c k) 1=[m.getD (4*k) 0-4]:=by simp only [dP,GI,Nat.add_zero,hcut,List.nil_append]
       refine ⟨_,_,_,?_,?_,⟨1,by omega,rfl,rfl, .inr rfl⟩⟩
       ·omega
       ·refine Wk.sub ?_ ?_<;>(simp only [go_sem,sevalprocAttr,e5])
      ·have hcut:dq m c (4*k)=m.getD (4*k) 0:=by unfold dq;rw [zzI (by omega)]
       have e5:dP m c k (cO m c k) 1=[m.getD (4*k) 0]:=by simp only [dP,GI,Nat.add_zero,hcut,List.nil_append]
       refine ⟨_,_,_,?_,?_,⟨1,by omega,rfl,rfl, .inr rfl⟩⟩
       ·omega
       ·refine Wk.sub ?_ ?_<;>(simp only [go_sem,sevalprocAttr,e5])
     ·repeat' (first|omega|(try apply ah);simp only [go_sem,sevalprocAttr,e0,e2]|apply ag<;>(intro h_;(try simp only [h_]);revert h_)|apply zzL|with_reducible intro h_|trivial|simp only [go_sem,ai];omega)
      ·have hcut:dq m c (4*k+x)=m.getD (4*k+x) 0-4:=by unfold dq;rw [zzJ (by omega)]
       refine ⟨_,_,_,?_,?_,⟨x+1,by omega,rfl,rfl, .inr rfl⟩⟩
       ·omega
       ·refine Wk.sub ?_ ?_<;>(simp only [go_sem,sevalprocAttr,eW,hcut,zzF])
      ·have hcut:dq m c (4*k+x)=m.getD (4*k+x) 0:=by unfold dq;rw [zzI (by omega)]
       refine ⟨_,_,_,?_,?_,⟨x+1,by omega,rfl,rfl, .inr rfl⟩⟩
       ·omega
       ·refine Wk.sub ?_ ?_<;>(simp only [go_sem,sevalprocAttr,eW,hcut,zzF])
    ·obtain rfl:x=4:=by omega
     rcases dA with ⟨h4,_⟩|rfl
     ·omega
     ·repeat' (first|omega|(try apply ah);simp only [go_sem,sevalprocAttr]|apply ag<;>(intro h_;(try simp only [h_]);revert h_)|apply zzL|with_reducible intro h_|trivial|simp only [go_sem,ai];omega)
      refine ⟨_,_,_,?_,?_,⟨k+1,by omega,rfl,rfl, .inr rfl⟩⟩
      ·omega
      ·refine Wk.sub ?_ ?_<;>(simp only [go_sem,sevalprocAttr,ek.1,ek.2,zzF])
  ·repeat' (first|omega|(try apply ah);simp only [go_sem,sevalprocAttr]|apply ag<;>(intro h_;(try simp only [h_]);revert h_)|apply zzL|with_reducible intro h_|trivial|simp only [go_sem,ai];omega)
   ·have ek:jz s c (k+1)=jz s c k/\cO m c (k+1)=cO m c k:=by
     have:k=c:=by omega
     simp [jz,cO,this]
    refine ⟨_,_,_,?_,?_,⟨k+1,by omega,rfl,rfl, .inr rfl⟩⟩
    ·omega
    ·refine Wk.sub ?_ ?_<;>simp only [go_sem,sevalprocAttr]
     all_goals simp_all
   ·have oi:k≠c:=by omega
    have ek:jz s c (k+1)=jz s c k++[s.getD k 0]/\cO m c (k+1)=dP m c k (cO m c k) 4:=by
     simp [jz,cO,oi]
    refine cN.intro (fun j fr H=> ∃x:Nat,x<=4/\j=4-x/\fr=[(32,I x),(10,I k),(18,I k),(17,I s.length),(16,roI s),(9, .ptr 1 0),(8, .ptr 0 0),(1,roI m),(2,I c)]/\((x=0/\cO m c k=[]/\H=[(3, .cells 3 (.ints (jz s c k++[s.getD k 0]))),(1, .cells 24 (.lst [.sl 1 3 0 (jz s c k++[s.getD k 0]).length, .nils,I L])),(0, .cells 24 (.lst [.nils, .nils,I 0]))])\/H=[(5, .cells 3 (.ints (dP m c k (cO m c k) x))),(3, .cells 3 (.ints (jz s c k++[s.getD k 0]))),(1, .cells 24 (.lst [.sl 1 3 0 (jz s c k++[s.getD k 0]).length, .sl 1 5 0 (dP m c k (cO m c k) x).length,I L])),(0, .cells 24 (.lst [.nils, .nils,I 0]))])) ?_ ?_
    ·refine ⟨_,_,_,?_,0,by omega,rfl,rfl, .inr rfl⟩;refine Wk.sub ?_ ?_<;>simp only [go_sem,sevalprocAttr]
     all_goals simp_all [dP]
    rintro j fr H ⟨x,hx,rfl,rfl,dA⟩;have wl4:=JV m c k (cO m c k) x;by_cases Pn:x<4
    ·have qz:=hm.2 (4*k+x) (by omega);have e0:(4*(k:Int)+x).toNat=4*k+x:=by omega
     have e2:(m.getD (4*k+x) 0).tdiv 4=m.getD (4*k+x) 0/4:=s9 qz.1;have eW:dP m c k (cO m c k) (x+1)=dP m c k (cO m c k) x++[dq m c (4*k+x)]:=rfl;rcases dA with ⟨rfl,GI,rfl⟩|rfl
     ·have CZ:=hm.2 (4*k) (by omega);have e3:(4*(k:Int)).toNat=4*k:=by omega
      have e4:(m.getD (4*k) 0).tdiv 4=m.getD (4*k) 0/4:=s9 CZ.1
      repeat' (first|omega|(try apply ah);simp only [go_sem,sevalprocAttr,e3,e4]|apply ag<;>(intro h_;(try simp only [h_]);revert h_)|apply zzL|with_reducible intro h_|trivial|simp only [go_sem,ai];omega)
      ·have hcut:dq m c (4*k)=m.getD (4*k) 0-4:=by unfold dq;rw [zzJ (by omega)]
       have e5:dP m c k (cO m c k) 1=[m.getD (4*k) 0-4]:=by simp only [dP,GI,Nat.add_zero,hcut,List.nil_append]
       refine ⟨_,_,_,?_,?_,⟨1,by omega,rfl,rfl, .inr rfl⟩⟩
       ·omega
       ·refine Wk.sub ?_ ?_<;>(simp only [go_sem,sevalprocAttr,e5])
      ·have hcut:dq m c (4*k)=m.getD (4*k) 0:=by unfold dq;rw [zzI (by omega)]
       have e5:dP m c k (cO m c k) 1=[m.getD (4*k) 0]:=by simp only [dP,GI,Nat.add_zero,hcut,List.nil_append]
       refine ⟨_,_,_,?_,?_,⟨1,by omega,rfl,rfl, .inr rfl⟩⟩
       ·omega
       ·refine Wk.sub ?_ ?_<;>(simp only [go_sem,sevalprocAttr,e5])
     ·repeat' (first|omega|(try apply ah);simp only [go_sem,sevalprocAttr,e0,e2]|apply ag<;>(intro h_;(try simp only [h_]);revert h_)|apply zzL|with_reducible intro h_|trivial|simp only [go_sem,ai];omega)
      ·have hcut:dq m c (4*k+x)=m.getD (4*k+x) 0-4:=by unfold dq;rw [zzJ (by omega)]
       refine ⟨_,_,_,?_,?_,⟨x+1,by omega,rfl,rfl, .inr rfl⟩⟩
       ·omega
       ·refine Wk.sub ?_ ?_<;>(simp only [go_sem,sevalprocAttr,eW,hcut,zzF])
      ·have hcut:dq m c (4*k+x)=m.getD (4*k+x) 0:=by unfold dq;rw [zzI (by omega)]
       refine ⟨_,_,_,?_,?_,⟨x+1,by omega,rfl,rfl, .inr rfl⟩⟩
       ·omega
       ·refine Wk.sub ?_ ?_<;>(simp only [go_sem,sevalprocAttr,eW,hcut,zzF])
    ·obtain rfl:x=4:=by omega
     rcases dA with ⟨h4,_⟩|rfl
     ·omega
     ·repeat' (first|omega|(try apply ah);simp only [go_sem,sevalprocAttr]|apply ag<;>(intro h_;(try simp only [h_]);revert h_)|apply zzL|with_reducible intro h_|trivial|simp only [go_sem,ai];omega)
      refine ⟨_,_,_,?_,?_,⟨k+1,by omega,rfl,rfl, .inr rfl⟩⟩
      ·omega
      ·refine Wk.sub ?_ ?_<;>(simp only [go_sem,sevalprocAttr,ek.1,ek.2,zzF])
 ·obtain rfl:k=s.length:=by omega
  rcases nV with ⟨jS,ju,rfl⟩|rfl
  ·repeat' (first|omega|(try apply ah);simp only [go_sem,sevalprocAttr]|apply ag<;>(intro h_;(try simp only [h_]);revert h_)|apply zzL|with_reducible intro h_|trivial|simp only [go_sem,ai];omega)
   rw [jS,ju];exact bE.sK (.cons (bE.nils (by omega) rfl) (.cons (bE.nils (by omega) rfl) (.cons (bE.refl _) .nil)))
  ·repeat' (first|omega|(try apply ah);simp only [go_sem,sevalprocAttr]|apply ag<;>(intro h_;(try simp only [h_]);revert h_)|apply zzL|with_reducible intro h_|trivial|simp only [go_sem,ai];omega)
   exact bE.of (by rw [zzR (by omega),zzR (by omega)])
set_option maxHeartbeats 8000000
def Wp:List (List Nat):=[[49,50,51,52,53,54,55,56,57,58],[48,50,51,52,53,54,55,56,57,58],[48,49,51,52,53,54,55,56,57,58],[51,52,53,54,55,56,57,58],[48,49,50,52,53,54,55,56,57,58],[48,49,50,51,53,54,55,56,57,58],[49,50,53,54,55,56,57,58],[48,49,50,51,52,54,55,56,57,58],[48,49,50,51,52,53,56,57,58],[48,49,50,51,52,53,56,57,58],[49,50,51,52,56,57,58],[48,49,50,51,52,53,54,55,58],[48,49,50,51,52,53,54,55,58],[48,49,50,51,52,53,54,55,56,57],[49,50,51,52,53,54,55],[],[]]
def Wo:List (List Nat):=[[],[0],[0,1],[],[0,1,2,3],[0,1,2,3,4],[1,2,3],[0,1,2,3,4,5,6],[0,1,2,3,4,5,6,7],[0,1,2,3,4,5,6,7],[1,2,3,4,5,6],[0,1,2,3,4,5,6,7,8,9,10],[0,1,2,3,4,5,6,7,8,9,10],[0,1,2,3,4,5,6,7,8,9,10,11,12],[1,2,3,4,5,6,7,8,9,10],[],[]]
def Pe (f o i:Int):Int->Option Int:=updI (updI (updI (updI (fun _=>none) f o) o f) i (f+2)) (f+2) i
theorem y9h (c:Nat) (b:Bool) (x:Int) (hx:x/4=c):(Pe (4*c) (if b then 4*c+3 else 4*c+1) (if b then 4*c+1 else 4*c+3) x).getD 0=aI b x:=by
 have h4:x=4*c\/x=4*c+1\/x=4*c+2\/x=4*c+3:=by omega
 unfold aI;rw [s6,sQ];cases b<;>rcases h4 with rfl|rfl|rfl|rfl<;>simp [Pe,updI]<;>(repeat' (first|(split<;>(try simp))|omega))
def xe (c:Nat) (b:Bool):Int:=if b then 4*c+1 else 4*c+3
def OW (c:Nat) (b:Bool):Int:=if b then 4*c+3 else 4*c+1
theorem y5k (c:Nat) (b:Bool):xe c b/4=c:=by
 unfold xe;cases b
 ·rw [zzI (by simp)];omega
 ·rw [zzJ rfl];omega
def Ds (g:Int->Option Bool) (u:Int->Bool):Prop:= ∀x,(g x).getD false=u x
theorem Ds.two {g:Int->Option Bool} {u:Int->Bool} (h:Ds g u) (x y:Int):Ds (updB (updB g x true) y true) (mv u x y):=by
 intro z;simp only [updB,mv];by_cases e1:z=y
 ·rw [zzJ e1,e1];simp
 ·rw [zzI e1];by_cases e2:z=x
  ·rw [zzJ e2,e2];simp
  ·have q1:(z==x)=false:=by simpa using e2
   have q2:(z==y)=false:=by simpa using e1
   rw [zzI e2,h z,q1,q2];simp
theorem y2h (s m:List Int) (L:Int) (c:Nat) (hc:c<s.length) (hL:L<=62) (hv:bf s m L=true) (b:Bool) (hb:(s.getD c 0== -1)=b):
  Fn Tryz.prog 95 [dgA s m L,I c] (.tup [dgA (jz s c s.length) (cO (fv m b c (4*s.length)) c s.length) (L+n9 m b c s.length),I 0]):=by
 have v1:=bV hv;have Az:=v1.s64;have hl:=v1.len;have C3:=v1.l0;have oe:=v1.sg c hc;have hp:=v1.dw;have bF:=y19 m (by omega) (by omega);obtain ⟨i,hi⟩: ∃i,i=xe c b:=⟨_,rfl⟩;obtain ⟨jm,Ak⟩: ∃jm,jm=Pe (4*c) (OW c b) (xe c b):=⟨_,rfl⟩;have uI: ∀x:Int,x/4=c->(jm x).getD 0=aI b x:=fun x hx=>by rw [Ak];exact y9h c b x hx
 have hid:=y5k c b;rw [<-hi] at hid
 have jR:(s.getD c 0= -1/\i=4*c+1/\jm=updI (updI (updI (updI (fun _=>none) (4*c) (4*c+3)) (4*c+3) (4*c)) (4*c+1) (4*c+2)) (4*c+2) (4*c+1))\/
   (s.getD c 0≠ -1/\i=4*c+3/\jm=updI (updI (updI (updI (fun _=>none) (4*c) (4*c+1)) (4*c+1) (4*c)) (4*c+3) (4*c+2)) (4*c+2) (4*c+3)):=by
  cases b
  ·exact .inr ⟨by simpa using hb,hi,Ak⟩
  ·exact .inl ⟨by simpa using hb,hi,Ak⟩
 have hii:i=xe c b:=hi;clear Ak hi;refine Fn.intro [.cell 4 24, .tmp 5] Tryz.func95 rfl rfl (by decide) (by simp [Tryz.ntmps95]) ?_;rw [Tryz.ntmps95]
 repeat' (first|omega|(try apply ah);simp only [go_sem,sevalprocAttr]|apply ag<;>(intro h_;(try simp only [h_]);revert h_)|apply zzL|with_reducible intro h_|trivial|simp only [go_sem,ai];omega)
 refine ⟨aL.fn rfl (vd s m L) ?_⟩;rw [hv];rcases jR with ⟨pM,zr,YD⟩|⟨pM,zr,YD⟩
 all_goals repeat' (first|omega|(first|apply ah|(refine ba.intro (id:=10) Wp Wo (by decide+kernel) mixed ?_)|skip);simp only [go_sem,sevalprocAttr,↓reduceIte,reduceCtorEq,Wp,Wo]|apply ag<;>(intro h_;(try simp only [h_]);revert h_)|apply zzL|with_reducible intro h_|trivial|simp only [go_sem,ai];omega)
 all_goals first|(repeat' split)<;>first|omega|rfl|(refine ⟨aL.QT rfl bF ?_⟩)
 all_goals repeat' (first|omega|(try apply ah);simp only [go_sem,sevalprocAttr]|apply ag<;>(intro h_;(try simp only [h_]);revert h_)|apply zzL|with_reducible intro h_|trivial|simp only [go_sem,ai];omega)
 all_goals (
  refine cN.intro (fun n fr H=> ∃(h:Nat) (g:Int->Option Bool),h<=m.length/\n=m.length-h/\Ds g (nf m b c h)/\fr=[(67,I h),(66,I m.length),(65,roI m),(12, .mp 4),(11, .sl 1 3 0 m.length),(10, .mp 2),(8,I i),(7,I (4*c)),(4, .ptr 1 0),(2, .ptr 0 0),(1,I c)]/\H=[(4, .fmap 163 (.bools g)),(3, .cells 3 (.ints (fv m b c h))),(2, .fmap 162 (.ints jm)),(1, .cells 24 (.lst [.nils, .nils,I 0])),(0, .cells 24 (.lst [roI s,roI m,I L]))]) ?_ ?_
  ·refine ⟨_,_,_,?_,0,fun _=>none,by omega,rfl,fun _=>rfl,rfl,rfl⟩;refine Wk.sub ?_ ?_<;>simp only [go_sem,sevalprocAttr]
   all_goals simp [zr,YD,fv]
  rintro n fr H ⟨h,g,hh,rfl,hg,rfl,rfl⟩;have ED:=Mq (m:=m) (b:=b) (c:=c) h;by_cases YG:h<m.length
  ·have e1:(h:Int).tdiv 4=(h/4:Nat):=by rw [s9 (by omega)];omega
   have qz:=hp.ok.2 h (by omega)
   repeat' (first|omega|(try apply ah);simp only [go_sem,sevalprocAttr,e1]|apply ag<;>(intro h_;(try simp only [h_]);revert h_)|apply zzL|with_reducible intro h_|trivial|simp only [go_sem,ai];omega)
   ·have wq:h/4=c:=by omega
    refine ⟨_,_,_,?_,?_,⟨h+1,g,by omega,rfl,?_,rfl,rfl⟩⟩
    ·omega
    ·refine Wk.sub ?_ ?_<;>simp only [go_sem,sevalprocAttr]
     all_goals simp [fv,wq]
    ·simp only [nf,wq,if_true];exact hg
   ·have wq:h/4≠c:=by omega
    have ho:=Eb (b:=b) hp hc (show h<4*s.length by omega) wq
    refine cN.intro (fun f fr H=> ∃(x:Int) (u:Int->Bool) (g:Int->Option Bool),0<=x/\x<4*s.length/\dn m b c f x=dn m b c 5 (m.getD h 0)/\thrU m b c f x u=thrU m b c 5 (m.getD h 0) (nf m b c h)/\Ds g u/\fr=[(14,I x),(13,I h),(67,I h),(66,I m.length),(65,roI m),(12, .mp 4),(11, .sl 1 3 0 m.length),(10, .mp 2),(8,I i),(7,I (4*c)),(4, .ptr 1 0),(2, .ptr 0 0),(1,I c)]/\H=[(4, .fmap 163 (.bools g)),(3, .cells 3 (.ints (fv m b c h))),(2, .fmap 162 (.ints jm)),(1, .cells 24 (.lst [.nils, .nils,I 0])),(0, .cells 24 (.lst [roI s,roI m,I L]))]) ?_ ?_
    ·refine ⟨5,_,_,?_,m.getD h 0,nf m b c h,g,qz.1,qz.2,rfl,rfl,hg,rfl,rfl⟩;refine Wk.sub ?_ ?_<;>simp only [go_sem,sevalprocAttr]
    rintro f fr H ⟨x,u,g',oU,KF,hX,hU,qS,rfl,rfl⟩;have e2:x.tdiv 4=x/4:=s9 oU;by_cases uD:x/4=c
    ·obtain ⟨f',rfl⟩: ∃f',f=f'+1:=by
      cases f with
      |zero=>rw [<-hX] at ho;exact absurd uD ho
      |succ f'=>exact ⟨f',rfl⟩
     have ej:=uI x uD;have uJ:=qG b x;have PU:=hp.ok.2 (aI b x).toNat (by omega);rw [Fj uD] at hX;rw [SB uD] at hU
     repeat' (first|omega|(try apply ah);simp only [go_sem,sevalprocAttr,e2,ej]|apply ag<;>(intro h_;(try simp only [h_]);revert h_)|apply zzL|with_reducible intro h_|trivial|simp only [go_sem,ai];omega)
     refine ⟨f',_,_,?_,?_,⟨m.getD (aI b x).toNat 0,mv u x (aI b x),updB (updB g' x true) (aI b x) true,PU.1,PU.2,hX,hU,qS.two x _,rfl,rfl⟩⟩
     ·omega
     ·refine Wk.sub ?_ ?_<;>simp only [go_sem,sevalprocAttr]
    ·rw [BX uD] at hX;rw [SA uD] at hU
     repeat' (first|omega|(try apply ah);simp only [go_sem,sevalprocAttr,e2]|apply ag<;>(intro h_;(try simp only [h_]);revert h_)|apply zzL|with_reducible intro h_|trivial|simp only [go_sem,ai];omega)
     refine ⟨_,_,_,?_,?_,⟨h+1,g',by omega,rfl,?_,rfl,rfl⟩⟩
     ·omega
     ·refine Wk.sub ?_ ?_<;>simp only [go_sem,sevalprocAttr]
      all_goals simp [fv,wq,hX]
     ·simp only [nf,wq,if_false];rw [<-hU];exact qS
  ·obtain rfl:h=m.length:=by omega
   rw [hl] at ED hg⊢
   repeat' (first|omega|(try apply ah);simp only [go_sem,sevalprocAttr]|apply ag<;>(intro h_;(try simp only [h_]);revert h_)|apply zzL|with_reducible intro h_|trivial|simp only [go_sem,ai];omega)
   have hse:=Oq (b:=b) hp hc (4*s.length) (zzA _);have dA: ∀x:Int,x/4=c->nf m b c (4*s.length) x=false->cH m b x/4=(c:Int):=fun x hx hu=>Xo hp hc hx hu;have CO:n9 m b c s.length=(if nf m b c (4*s.length) (4*c) then 0 else 1)+(if (if nf m b c (4*s.length) (4*c) then nf m b c (4*s.length) else qw m b 5 (4*c) (nf m b c (4*s.length))) i then 0 else 1):=by
    rw [hii];rfl
   generalize nf m b c (4*s.length)=u0 at*
   refine cN.intro (fun n fr H=> ∃(k:Nat) (u:Int->Bool) (g:Int->Option Bool) (l:Int),n=2-k/\((k=0/\u=u0/\l=L)\/(k=1/\u=(if u0 (4*c) then u0 else qw m b 5 (4*c) u0)/\l=L+(if u0 (4*c) then 0 else 1))\/(k=2/\l=L+n9 m b c s.length))/\(∀y,u0 y=true->u y=true)/\Ds g u/\
    fr=[(103,I k),(102,I (2:Nat)),(101, .sl 1 5 0 2),(15,I l),(12, .mp 4),(11, .sl 1 3 0 (4*s.length)),(10, .mp 2),(4, .ptr 1 0),(2, .ptr 0 0),(1,I c)]/\H=[(5, .cells 3 (.ints [4*(c:Int),i])),(4, .fmap 163 (.bools g)),(3, .cells 3 (.ints (fv m b c (4*s.length)))),(2, .fmap 162 (.ints jm)),(1, .cells 24 (.lst [.nils, .nils,I 0])),(0, .cells 24 (.lst [roI s,roI m,I L]))]) ?_ ?_
   ·refine ⟨_,_,_,?_,0,u0,g,L,rfl, .inl ⟨rfl,rfl,rfl⟩,fun _ h=>h,hg,rfl,rfl⟩;refine Wk.sub ?_ ?_<;>simp only [go_sem,sevalprocAttr]
   rintro n fr H ⟨k,u,g,l,rfl,hk,vw,hg,rfl,rfl⟩;by_cases zq:k=2
   ·subst zq;obtain rfl:l=L+n9 m b c s.length:=by omega
    have Ha:0<=n9 m b c s.length/\n9 m b c s.length<=2:=by rw [CO];constructor<;>(repeat' split)<;>omega
    have X8:=ZO s (fv m b c (4*s.length)) c (L+n9 m b c s.length) (by omega) hse
    repeat' (first|omega|(try apply ah);simp only [go_sem,sevalprocAttr]|apply ag<;>(intro h_;(try simp only [h_]);revert h_)|apply zzL|with_reducible intro h_|trivial|simp only [go_sem,ai];omega)
    have Pq:Fn Tryz.prog 142 [roI s, .ro 1 (4*s.length) (.ints ((fv m b c (4*s.length)).take (4*s.length))),I c,I (L+n9 m b c s.length)] (dgA (jz s c s.length) (cO (fv m b c (4*s.length)) c s.length) (L+n9 m b c s.length)):=by
     rw [zzR (by omega)];have e:roI (fv m b c (4*s.length))= .ro 1 (4*s.length) (.ints (fv m b c (4*s.length))):=by unfold roI;rw [ED]
     rw [e] at X8;exact X8
    refine ⟨aL.La [3] rfl (by simp only [go_sem,sevalprocAttr,ED,zzA]) (by simp only [go_sem,sevalprocAttr,ED,zzA]) (by simp only [go_sem,sevalprocAttr,ED,zzA]) (by simp only [go_sem,sevalprocAttr,ED,zzA]) rfl rfl rfl (aL.fn rfl Pq ?_)⟩
    repeat' (first|omega|(try apply ah);simp only [go_sem,sevalprocAttr]|apply ag<;>(intro h_;(try simp only [h_]);revert h_)|apply zzL|with_reducible intro h_|trivial|simp only [go_sem,ai];omega)
   ·have xj:[4*(c:Int),i].getD k 0/4=(c:Int):=by
     rcases hk with ⟨rfl,_⟩|⟨rfl,_⟩|⟨rfl,_⟩
     ·simp only [List.getD_cons_zero];omega
     ·simpa using hid
     ·omega
    have hk01:k<2:=by omega
    have Ha:L<=l/\l<=L+1:=by
     rcases hk with ⟨_,_,h⟩|⟨_,_,h⟩|⟨h,_⟩
     ·omega
     ·rw [h];split<;>omega
     ·omega
    have KS:=hg ([4*(c:Int),i].getD k 0);have Yu:u ([4*(c:Int),i].getD k 0)=true->((k+1=0/\u=u0/\l=L)\/(k+1=1/\u=(if u0 (4*c) then u0 else qw m b 5 (4*c) u0)/\l=L+(if u0 (4*c) then 0 else 1))\/(k+1=2/\l=L+n9 m b c s.length)):=fun ht=>by
     rcases hk with ⟨rfl,rfl,rfl⟩|⟨rfl,hu,rfl⟩|⟨rfl,_⟩
     ·simp only [List.getD_cons_zero] at ht;exact .inr (.inl ⟨rfl,by rw [zzJ ht],by rw [zzJ ht];omega⟩)
     ·simp only [List.getD_cons_succ,List.getD_cons_zero] at ht;rw [hu] at ht;exact .inr (.inr ⟨rfl,by rw [CO,zzJ ht];omega⟩)
     ·omega
    have Yv:u ([4*(c:Int),i].getD k 0)=false->((k+1=0/\qw m b 5 ([4*(c:Int),i].getD k 0) u=u0/\l+1=L)\/(k+1=1/\qw m b 5 ([4*(c:Int),i].getD k 0) u=(if u0 (4*c) then u0 else qw m b 5 (4*c) u0)/\l+1=L+(if u0 (4*c) then 0 else 1))\/(k+1=2/\l+1=L+n9 m b c s.length)):=fun ht=>by
     rcases hk with ⟨rfl,rfl,rfl⟩|⟨rfl,hu,rfl⟩|⟨rfl,_⟩
     ·have Yg: ¬u (4*c)=true:=by simp only [List.getD_cons_zero] at ht;rw [ht];simp
      exact .inr (.inl ⟨rfl,(zzI Yg).symm,by rw [zzI Yg]⟩)
     ·simp only [List.getD_cons_succ,List.getD_cons_zero] at ht;rw [hu] at ht;exact .inr (.inr ⟨rfl,by rw [CO,ht];simp;omega⟩)
     ·omega
    obtain ⟨st,aZ⟩: ∃st,[4*(c:Int),i].getD k 0=st:=⟨_,rfl⟩;rw [aZ] at xj KS Yu Yv
    repeat' (first|omega|(try apply ah);simp only [go_sem,sevalprocAttr,aZ,KS]|apply ag<;>(intro h_;(try simp only [h_]);revert h_)|apply zzL|with_reducible intro h_|trivial|simp only [go_sem,ai];omega)
    ·refine ⟨_,_,_,?_,?_,⟨k+1,u,g,l,rfl,Yu (by assumption),vw,hg,rfl,rfl⟩⟩
     ·omega
     ·refine Wk.sub ?_ ?_<;>simp only [go_sem,sevalprocAttr]
    ·have GV:u st=false:=by assumption
     have pP:=y4r (c:=c) u
     refine cN.intro (fun f fr H=> ∃(h:Int) (u':Int->Bool) (g':Int->Option Bool),h/4=c/\qw m b f h u'=qw m b 5 st u/\DM c u'<f/\(∀y,u0 y=true->u' y=true)/\Ds g' u'/\
      fr=[(18,I h),(103,I k),(102,I (2:Nat)),(101, .sl 1 5 0 2),(15,I (l+1)),(12, .mp 4),(11, .sl 1 3 0 (4*s.length)),(10, .mp 2),(4, .ptr 1 0),(2, .ptr 0 0),(1,I c)]/\H=[(5, .cells 3 (.ints [4*(c:Int),i])),(4, .fmap 163 (.bools g')),(3, .cells 3 (.ints (fv m b c (4*s.length)))),(2, .fmap 162 (.ints jm)),(1, .cells 24 (.lst [.nils, .nils,I 0])),(0, .cells 24 (.lst [roI s,roI m,I L]))]) ?_ ?_
     ·refine ⟨5,_,_,?_,st,u,g,xj,rfl,by omega,vw,hg,rfl,rfl⟩;refine Wk.sub ?_ ?_<;>simp only [go_sem,sevalprocAttr]
     rintro f fr H ⟨h,u',g',wq,Bw,hfr',xh,qS,rfl,rfl⟩;have C6:=qS h;have ejh:=uI h wq;have uJ:=qG b h;have PU:=hp.ok.2 (aI b h).toNat (by omega);cases huh:u' h with
     |true=>
      rw [huh] at C6;rw [VZ huh] at Bw
      repeat' (first|omega|(try apply ah);simp only [go_sem,sevalprocAttr,C6]|apply ag<;>(intro h_;(try simp only [h_]);revert h_)|apply zzL|with_reducible intro h_|trivial|simp only [go_sem,ai];omega)
      refine ⟨_,_,_,?_,?_,⟨k+1,u',g',l+1,rfl,by rw [Bw];exact Yv GV,xh,qS,rfl,rfl⟩⟩
      ·omega
      ·refine Wk.sub ?_ ?_<;>simp only [go_sem,sevalprocAttr]
     |false=>
      rw [huh] at C6;obtain ⟨f',rfl⟩: ∃f',f=f'+1:=⟨f-1,by omega⟩;rw [IQ huh] at Bw;have Qi:=y0e (c:=c) (u:=u') (x:=h) (y:=aI b h) wq huh;have Et:u0 h=false:=by
       cases hq:u0 h with
       |false=>rfl
       |true=>have:=xh h hq;rw [huh] at this;cases this
      have vB:=dA h wq Et
      repeat' (first|omega|(try apply ah);simp only [go_sem,sevalprocAttr,C6,ejh]|apply ag<;>(intro h_;(try simp only [h_]);revert h_)|apply zzL|with_reducible intro h_|trivial|simp only [go_sem,ai];omega)
      refine ⟨f',_,_,?_,?_,⟨cH m b h,mv u' h (aI b h),updB (updB g' h true) (aI b h) true,vB,Bw,by omega,fun y hy=>by simp [mv,xh y hy],qS.two h _,rfl,rfl⟩⟩
      ·omega
      ·refine Wk.sub ?_ ?_<;>simp only [go_sem,sevalprocAttr];rfl)
theorem y5l (g:Nat) (c:Cs) (nx:Int->Int) (x:Int) (k:Nat) (hk:uW nx x k) (hb:k<=100000) (hf: ∀j,j<k->Fn Tryz.prog g [I (it nx j x), .rp c 0] (I (it nx (j+1) x))):
  Fn Tryz.prog 172 [I x, .fn g [.rp c 0]] (roI (its nx x k)):=by
 have k0:=hk.pos;refine Fn.intro [.tmp 4] Tryz.func172 rfl rfl (by decide) (by simp [Tryz.ntmps172]) ?_;rw [Tryz.ntmps172]
 repeat' (first|omega|(try apply ah);simp only [go_sem,sevalprocAttr]|apply ag<;>(intro h_;(try simp only [h_]);revert h_)|apply zzL|with_reducible intro h_|trivial|simp only [go_sem,ai];omega)
 refine ⟨aL.fn rfl (hf 0 k0) ?_⟩
 repeat' (first|omega|(try apply ah);simp only [go_sem,sevalprocAttr]|apply ag<;>(intro h_;(try simp only [h_]);revert h_)|apply zzL|with_reducible intro h_|trivial|simp only [go_sem,ai];omega)
 refine cN.intro (fun n fr H=> ∃j:Nat,0<j/\j<=k/\n=k-j/\fr=[(6,I (it nx j x)),(5, .sl 1 0 0 j),(1, .fn g [.rp c 0]),(0,I x)]/\H=[(0, .cells 3 (.ints (its nx x j)))]) ?_ ?_
 ·refine ⟨_,_,_,?_,1,by omega,by omega,rfl,rfl,rfl⟩;refine Wk.sub ?_ ?_<;>simp only [go_sem,sevalprocAttr];rfl
 rintro n fr H ⟨j,hj,xG,rfl,rfl,rfl⟩;have e1:=Mt nx x j;have e2:=Mt nx x k;by_cases nT:j<k
 ·have aA:=hk.first j hj nT
  repeat' (first|omega|(try apply ah);simp only [go_sem,sevalprocAttr]|apply ag<;>(intro h_;(try simp only [h_]);revert h_)|apply zzL|with_reducible intro h_|trivial|simp only [go_sem,ai];omega)
  refine ⟨aL.fn rfl (hf j nT) ?_⟩
  repeat' (first|omega|(try apply ah);simp only [go_sem,sevalprocAttr]|apply ag<;>(intro h_;(try simp only [h_]);revert h_)|apply zzL|with_reducible intro h_|trivial|simp only [go_sem,ai];omega)
  refine ⟨_,_,_,?_,?_,⟨j+1,by omega,by omega,rfl,rfl,rfl⟩⟩
  ·omega
  ·refine Wk.sub ?_ ?_<;>simp only [go_sem,sevalprocAttr];exact (Uk nx x j).symm
 ·obtain rfl:j=k:=by omega
  have aA:=hk.back
  repeat' (first|omega|(try apply ah);simp only [go_sem,sevalprocAttr]|apply ag<;>(intro h_;(try simp only [h_]);revert h_)|apply zzL|with_reducible intro h_|trivial|simp only [go_sem,ai];omega)
  exact zzR (by omega)
theorem yuu (h:Int) (h0:0<=h) (h1:h<=100000):Fn Tryz.prog 147 [I h] (I (iJ h 2)):=by
 refine Fn.intro [.tmp 2] Tryz.func147 rfl rfl (by decide) (by simp [Tryz.ntmps147]) ?_;rw [Tryz.ntmps147]
 repeat' (first|omega|(try apply ah);simp only [go_sem,sevalprocAttr]|apply ag<;>(intro h_;(try simp only [h_]);revert h_)|apply zzL|with_reducible intro h_|trivial|simp only [go_sem,ai];omega)
 refine ⟨aL.fn rfl (L8 h 2 h0 h1) ?_⟩
 repeat' (first|omega|(try apply ah);simp only [go_sem,sevalprocAttr]|apply ag<;>(intro h_;(try simp only [h_]);revert h_)|apply zzL|with_reducible intro h_|trivial|simp only [go_sem,ai];omega)
theorem yqy (s m:List Int) (L h:Int) (h0:0<=h) (h1:h<4*s.length) (hs:s.length<=1000):Fn Tryz.prog 144 [I h, .rp (dgC s m L) 0] (.bool (aj s h)):=by
 refine Fn.intro [.tmp 3] Tryz.func144 rfl rfl (by decide) (by simp [Tryz.ntmps144]) ?_;rw [Tryz.ntmps144]
 repeat' (first|omega|(try apply ah);simp only [go_sem,sevalprocAttr]|apply ag<;>(intro h_;(try simp only [h_]);revert h_)|apply zzL|with_reducible intro h_|trivial|simp only [go_sem,ai];omega)
 refine ⟨aL.fn rfl (Kn s m L h h0 h1 hs) ?_⟩
 repeat' (first|omega|(try apply ah);simp only [go_sem,sevalprocAttr]|apply ag<;>(intro h_;(try simp only [h_]);revert h_)|apply zzL|with_reducible intro h_|trivial|simp only [go_sem,ai];omega)
theorem ypt (s m:List Int) (L h:Int) (h0:0<=h) (h1:h<m.length) (g0:0<=m.getD h.toNat 0) (g1:m.getD h.toNat 0<=100000):Fn Tryz.prog 146 [I h, .rp (dgC s m L) 0] (I (iJ (m.getD h.toNat 0) 2)):=by
 refine Fn.intro [.tmp 3] Tryz.func146 rfl rfl (by decide) (by simp [Tryz.ntmps146]) ?_;rw [Tryz.ntmps146]
 repeat' (first|omega|(try apply ah);simp only [go_sem,sevalprocAttr]|apply ag<;>(intro h_;(try simp only [h_]);revert h_)|apply zzL|with_reducible intro h_|trivial|simp only [go_sem,ai];omega)
 refine ⟨aL.fn rfl (yuu _ g0 g1) ?_⟩
 repeat' (first|omega|(try apply ah);simp only [go_sem,sevalprocAttr]|apply ag<;>(intro h_;(try simp only [h_]);revert h_)|apply zzL|with_reducible intro h_|trivial|simp only [go_sem,ai];omega)
theorem y2i (N:Nat) (w g:Nat) (c:Cs) (want:Int->Bool) (orb:Int->List Int) (hN:N<=10000) (hw: ∀h:Nat,h<N->Fn Tryz.prog w [I h, .rp c 0] (.bool (want h)))
  (ho: ∀h:Nat,h<N->want h=true->(orb h).length<=N/\(∀x∈orb h,0<=x/\x<N)/\Fn Tryz.prog 172 [I h, .fn g [.rp c 0]] (roI (orb h))):
  Fn Tryz.prog 145 [I N, .fn w [.rp c 0], .fn g [.rp c 0]] (qL (aT N want orb N).1):=by
 refine Fn.aG [.tmp 6] Tryz.func145 rfl rfl (by decide) (by simp [Tryz.ntmps145]) ?_;rw [Tryz.ntmps145]
 repeat' (first|omega|(try apply ah);simp only [go_sem,sevalprocAttr]|apply ag<;>(intro h_;(try simp only [h_]);revert h_)|apply zzL|with_reducible intro h_|trivial|simp only [go_sem,ai];omega)
 refine cN.intro (fun n fr H=> ∃h:Nat,h<=N/\n=N-h/\(((aT N want orb h).1=[]/\fr=[(16,I h),(15,I N),(8, .sl 1 0 0 N),(7, .nils),(1, .fn w [.rp c 0]),(2, .fn g [.rp c 0])]/\H=[(0, .cells 4 (.bools (aT N want orb h).2))])\/
  (fr=[(16,I h),(15,I N),(8, .sl 1 0 0 N),(7, .sl 1 2 0 (aT N want orb h).1.length),(1, .fn w [.rp c 0]),(2, .fn g [.rp c 0])]/\H=[(2, .cells 22 (.lst ((aT N want orb h).1.map pW))),(0, .cells 4 (.bools (aT N want orb h).2))]))) ?_ ?_
 ·refine ⟨_,_,_,?_,0,by omega,rfl, .inl ⟨rfl,rfl,rfl⟩⟩;refine Wk.sub ?_ ?_<;>simp only [go_sem,sevalprocAttr];rfl
 rintro n fr H ⟨h,hh,rfl,nV⟩;obtain ⟨e1,e2⟩:=JX N want orb h;rcases nV with ⟨iB,rfl,rfl⟩|⟨rfl,rfl⟩
 ·by_cases aD:h<N
  ·have Pr:=hw h aD
   repeat' (first|omega|(try apply ah);simp only [go_sem,sevalprocAttr]|apply ag<;>(intro h_;(try simp only [h_]);revert h_)|apply zzL|with_reducible intro h_|trivial|simp only [go_sem,ai];omega)
   ·refine ⟨aL.fn rfl Pr ?_⟩
    repeat' (first|omega|(try apply ah);simp only [go_sem,sevalprocAttr]|apply ag<;>(intro h_;(try simp only [h_]);revert h_)|apply zzL|with_reducible intro h_|trivial|simp only [go_sem,ai];omega)
    ·have hwt:want h=false:=by assumption
     have eS:aT N want orb (h+1)=aT N want orb h:=by simp only [aT,jI];rw [zzJ (by rw [hwt];simp)]
     refine ⟨_,_,_,?_,?_,⟨h+1,by omega,rfl, .inl ⟨by rw [eS];exact iB,rfl,rfl⟩⟩⟩
     ·omega
     ·refine Wk.sub ?_ ?_<;>(simp only [go_sem,sevalprocAttr];try rw [eS];try simp only [yfp,and_self])
    ·have hwt:want h=true:=by assumption
     have GV:(aT N want orb h).2.getD h false=false:=by assumption
     have eS:aT N want orb (h+1)=((aT N want orb h).1++[orb h],oF (aT N want orb h).2 (orb h)):=by simp only [aT,jI];rw [zzI (by rw [hwt,GV];simp)]
     obtain ⟨o1,o2,o3⟩:=ho h aD hwt;refine ⟨aL.fn rfl o3 ?_⟩
     repeat' (first|omega|(try apply ah);simp only [go_sem,sevalprocAttr]|apply ag<;>(intro h_;(try simp only [h_]);revert h_)|apply zzL|with_reducible intro h_|trivial|simp only [go_sem,ai];omega)
     generalize (aT N want orb h).2=mE at*
     refine cN.intro (fun n fr H=> ∃k:Nat,k<=(orb h).length/\n=(orb h).length-k/\fr=[(34,I k),(33,I (orb h).length),(32,roI (orb h)),(10,roI (orb h)),(16,I h),(15,I N),(8, .sl 1 0 0 N),(7, .nils),(1, .fn w [.rp c 0]),(2, .fn g [.rp c 0])]/\
      H=[(0, .cells 4 (.bools (oF mE ((orb h).take k))))]) ?_ ?_
     ·refine ⟨_,_,_,?_,0,by omega,rfl,rfl,rfl⟩;refine Wk.sub ?_ ?_<;>simp only [go_sem,sevalprocAttr]
      all_goals simp [oF]
     rintro n fr H ⟨k,hk,rfl,rfl,rfl⟩;have ml:=Fw ((orb h).take k) mE;by_cases cJ:k<(orb h).length
     ·have hr:=o2 ((orb h).getD k 0) (by simp [cJ])
      repeat' (first|omega|(try apply ah);simp only [go_sem,sevalprocAttr]|apply ag<;>(intro h_;(try simp only [h_]);revert h_)|apply zzL|with_reducible intro h_|trivial|simp only [go_sem,ai];omega)
      refine ⟨_,_,_,?_,?_,⟨k+1,by omega,rfl,rfl,rfl⟩⟩
      ·omega
      ·refine Wk.sub ?_ ?_<;>simp only [go_sem,sevalprocAttr];rw [List.take_succ_eq_append_getElem cJ,NJ];simp [oF,cJ]
     ·obtain rfl:k=(orb h).length:=by omega
      rw [zzR (zzA _)]
      repeat' (first|omega|(try apply ah);simp only [go_sem,sevalprocAttr]|apply ag<;>(intro h_;(try simp only [h_]);revert h_)|apply zzL|with_reducible intro h_|trivial|simp only [go_sem,ai];omega)
      refine ⟨_,_,_,?_,?_,⟨h+1,by omega,rfl, .inr ⟨rfl,rfl⟩⟩⟩
      ·omega
      ·refine Wk.sub ?_ ?_<;>(simp only [go_sem,sevalprocAttr];rw [eS];simp only [go_sem,sevalprocAttr])
       all_goals simp_all [pW]
   ·have aZ:(aT N want orb h).2.getD h false=true:=by assumption
    have eS:aT N want orb (h+1)=aT N want orb h:=by simp only [aT,jI];rw [zzJ (by rw [aZ];simp)]
    refine ⟨_,_,_,?_,?_,⟨h+1,by omega,rfl, .inl ⟨by rw [eS];exact iB,rfl,rfl⟩⟩⟩
    ·omega
    ·refine Wk.sub ?_ ?_<;>(simp only [go_sem,sevalprocAttr];try rw [eS];try simp only [yfp,and_self])
  ·obtain rfl:h=N:=by omega
   repeat' (first|omega|(try apply ah);simp only [go_sem,sevalprocAttr]|apply ag<;>(intro h_;(try simp only [h_]);revert h_)|apply zzL|with_reducible intro h_|trivial|simp only [go_sem,ai];omega)
   all_goals first|(rw [iB];exact bE.nils (by omega) rfl)|(exact y7 _ _ _ _ ‹_›)|exact bE.of (by rw [zzR (by simp)])
 ·by_cases aD:h<N
  ·have Pr:=hw h aD
   repeat' (first|omega|(try apply ah);simp only [go_sem,sevalprocAttr]|apply ag<;>(intro h_;(try simp only [h_]);revert h_)|apply zzL|with_reducible intro h_|trivial|simp only [go_sem,ai];omega)
   ·refine ⟨aL.fn rfl Pr ?_⟩
    repeat' (first|omega|(try apply ah);simp only [go_sem,sevalprocAttr]|apply ag<;>(intro h_;(try simp only [h_]);revert h_)|apply zzL|with_reducible intro h_|trivial|simp only [go_sem,ai];omega)
    ·have hwt:want h=false:=by assumption
     have eS:aT N want orb (h+1)=aT N want orb h:=by simp only [aT,jI];rw [zzJ (by rw [hwt];simp)]
     refine ⟨_,_,_,?_,?_,⟨h+1,by omega,rfl, .inr ⟨rfl,rfl⟩⟩⟩
     ·omega
     ·refine Wk.sub ?_ ?_<;>(simp only [go_sem,sevalprocAttr];try rw [eS];try simp only [yfp,and_self])
    ·have hwt:want h=true:=by assumption
     have GV:(aT N want orb h).2.getD h false=false:=by assumption
     have eS:aT N want orb (h+1)=((aT N want orb h).1++[orb h],oF (aT N want orb h).2 (orb h)):=by simp only [aT,jI];rw [zzI (by rw [hwt,GV];simp)]
     obtain ⟨o1,o2,o3⟩:=ho h aD hwt;refine ⟨aL.fn rfl o3 ?_⟩
     repeat' (first|omega|(try apply ah);simp only [go_sem,sevalprocAttr]|apply ag<;>(intro h_;(try simp only [h_]);revert h_)|apply zzL|with_reducible intro h_|trivial|simp only [go_sem,ai];omega)
     generalize (aT N want orb h).2=mE at*
     refine cN.intro (fun n fr H=> ∃k:Nat,k<=(orb h).length/\n=(orb h).length-k/\fr=[(34,I k),(33,I (orb h).length),(32,roI (orb h)),(10,roI (orb h)),(16,I h),(15,I N),(8, .sl 1 0 0 N),(7, .sl 1 2 0 (aT N want orb h).1.length),(1, .fn w [.rp c 0]),(2, .fn g [.rp c 0])]/\
      H=[(2, .cells 22 (.lst ((aT N want orb h).1.map pW))),(0, .cells 4 (.bools (oF mE ((orb h).take k))))]) ?_ ?_
     ·refine ⟨_,_,_,?_,0,by omega,rfl,rfl,rfl⟩;refine Wk.sub ?_ ?_<;>simp only [go_sem,sevalprocAttr]
      all_goals simp [oF]
     rintro n fr H ⟨k,hk,rfl,rfl,rfl⟩;have ml:=Fw ((orb h).take k) mE;by_cases cJ:k<(orb h).length
     ·have hr:=o2 ((orb h).getD k 0) (by simp [cJ])
      repeat' (first|omega|(try apply ah);simp only [go_sem,sevalprocAttr]|apply ag<;>(intro h_;(try simp only [h_]);revert h_)|apply zzL|with_reducible intro h_|trivial|simp only [go_sem,ai];omega)
      refine ⟨_,_,_,?_,?_,⟨k+1,by omega,rfl,rfl,rfl⟩⟩
      ·omega
      ·refine Wk.sub ?_ ?_<;>simp only [go_sem,sevalprocAttr];rw [List.take_succ_eq_append_getElem cJ,NJ];simp [oF,cJ]
     ·obtain rfl:k=(orb h).length:=by omega
      rw [zzR (zzA _)]
      repeat' (first|omega|(try apply ah);simp only [go_sem,sevalprocAttr]|apply ag<;>(intro h_;(try simp only [h_]);revert h_)|apply zzL|with_reducible intro h_|trivial|simp only [go_sem,ai];omega)
      refine ⟨_,_,_,?_,?_,⟨h+1,by omega,rfl, .inr ⟨rfl,rfl⟩⟩⟩
      ·omega
      ·refine Wk.sub ?_ ?_<;>(simp only [go_sem,sevalprocAttr];rw [eS];simp only [go_sem,sevalprocAttr])
       all_goals simp_all [pW]
   ·have aZ:(aT N want orb h).2.getD h false=true:=by assumption
    have eS:aT N want orb (h+1)=aT N want orb h:=by simp only [aT,jI];rw [zzJ (by rw [aZ];simp)]
    refine ⟨_,_,_,?_,?_,⟨h+1,by omega,rfl, .inr ⟨rfl,rfl⟩⟩⟩
    ·omega
    ·refine Wk.sub ?_ ?_<;>(simp only [go_sem,sevalprocAttr];try rw [eS];try simp only [yfp,and_self])
  ·obtain rfl:h=N:=by omega
   repeat' (first|omega|(try apply ah);simp only [go_sem,sevalprocAttr]|apply ag<;>(intro h_;(try simp only [h_]);revert h_)|apply zzL|with_reducible intro h_|trivial|simp only [go_sem,ai];omega)
   all_goals first|(rw [iB];exact bE.nils (by omega) rfl)|(exact y7 _ _ _ _ ‹_›)|exact bE.of (by rw [zzR (by simp)])
def Wn:Tr:= .node [(0, .node [(1, .node [(2,trD [3,4,5,6]),(3, .node [(2,trD [4,5,6]),(4,trD [2,5,6])])]),(3, .node [(1, .node [(2,trD [4,5,6]),(4,trD [2,5,6])]),(4,trD [1,2,5,6])])]),(3, .node [(0, .node [(1, .node [(2,trD [4,5,6]),(4,trD [2,5,6])]),(4,trD [1,2,5,6])]),(4,trD [0,1,2,5,6])])]
def Fm (s m:List Int) (L:Int):List (List Int):=if bf s m L then dr s m else []
theorem y9i (s m:List Int) (L:Int) (hv:iV s m L) (h:Nat) (hh:h<4*s.length):(af (aS m) m.length h).length<=m.length/\(∀x∈af (aS m) m.length h,0<=x/\x<m.length)/\
  Fn Tryz.prog 172 [I h, .fn 146 [.rp (dgC s m L) 0]] (roI (af (aS m) m.length h)):=by
 have hR:av s.length (h:Int):=by unfold av;omega
 have hl:=hv.len;have Az:=hv.s64;have se:=A5 (Ba hv.dw) hR;rw [<-hl] at se;obtain ⟨_,o2,_,_,_,o6,_,k,hk,vA,e⟩:=se;refine ⟨o6,fun x hx=>by have:=o2 x hx;unfold av at this;omega,?_⟩;rw [e];refine y5l _ _ (aS m) h k vA (by omega) fun j hj=>?_;have hr:=(Ba hv.dw).it hR j;have tu:=hv.dw.iP hr;unfold av at hr tu;exact ypt s m L _ hr.1 (by omega) tu.1 (by omega)
theorem U0 (s m:List Int) (L:Int):Fn Tryz.prog 97 [dgA s m L] (qL (Fm s m L)):=by
 refine Fn.aG [.tmp 2] Tryz.func97 rfl rfl (by decide) (by simp [Tryz.ntmps97]) ?_;rw [Tryz.ntmps97]
 repeat' (first|omega|(try apply ah);simp only [go_sem,sevalprocAttr]|apply ag<;>(intro h_;(try simp only [h_]);revert h_)|apply zzL|with_reducible intro h_|trivial|simp only [go_sem,ai];omega)
 refine ⟨aL.fn rfl (vd s m L) ?_⟩;cases hv:bf s m L with
 |false=>
  repeat' (first|omega|(try apply ah);simp only [go_sem,sevalprocAttr]|apply ag<;>(intro h_;(try simp only [h_]);revert h_)|apply zzL|with_reducible intro h_|trivial|simp only [go_sem,ai];omega)
  unfold Fm;rw [hv];exact bE.nils (by omega) rfl
 |true=>
  have v1:=bV hv;have Az:=v1.s64;have hl:=v1.len
  repeat' (first|omega|(try apply ah);simp only [go_sem,sevalprocAttr]|apply ag<;>(intro h_;(try simp only [h_]);revert h_)|apply zzL|with_reducible intro h_|trivial|simp only [go_sem,ai];omega)
  refine ⟨aL.La [0] rfl (by simp only [go_sem,sevalprocAttr]) (by simp only [go_sem,sevalprocAttr]) (by simp only [go_sem,sevalprocAttr]) (by simp only [go_sem,sevalprocAttr]) rfl rfl rfl (aL.fn rfl (y2i m.length _ _ (dgC s m L) (aj s) (af (aS m) m.length) (by omega) (fun h hh=>yqy s m L h (by omega) (by omega) (by omega)) (fun h hh _=>y9i s m L v1 h (by omega))) ?_)⟩
  repeat' (first|omega|(try apply ah);simp only [go_sem,sevalprocAttr]|apply ag<;>(intro h_;(try simp only [h_]);revert h_)|apply zzL|with_reducible intro h_|trivial|simp only [go_sem,ai];omega)
  unfold Fm dr;rw [hv];exact bE.refl _
theorem yqz (s m:List Int) (L:Int):Fn Tryz.prog 44 [dgA s m L] (I (if bf s m L then (dr s m).length+L else 0)):=by
 refine Fn.intro [.tmp 2] Tryz.func44 rfl rfl (by decide) (by simp [Tryz.ntmps44]) ?_;rw [Tryz.ntmps44]
 repeat' (first|omega|(try apply ah);simp only [go_sem,sevalprocAttr]|apply ag<;>(intro h_;(try simp only [h_]);revert h_)|apply zzL|with_reducible intro h_|trivial|simp only [go_sem,ai];omega)
 refine ⟨aL.fn rfl (vd s m L) ?_⟩;have hS:=U0 s m L;unfold Fm at hS;have cP:=FF s m;cases hv:bf s m L with
 |false=>
  repeat' (first|omega|(try apply ah);simp only [go_sem,sevalprocAttr]|apply ag<;>(intro h_;(try simp only [h_]);revert h_)|apply zzL|with_reducible intro h_|trivial|simp only [go_sem,ai];omega)
 |true=>
  rw [hv,zzJ rfl] at hS;have v1:=bV hv;have Az:=v1.s64;have hl:=v1.len;have h0:=v1.l0;have h1:=v1.l64
  repeat' (first|omega|(first|apply ah|(refine ba.intro (id:=3) [[9,10],[9,10],[9,10],[6,7,8],[6,7,8],[],[]] [[],[],[],[0,1,2],[0,1,2],[],[]] (by decide+kernel) mixed ?_)|(refine ba.bR (id:=3) (Wn) (by decide+kernel) mixed ?_)|skip);simp only [go_sem,sevalprocAttr,↓reduceIte,reduceCtorEq,Wn]|apply ag<;>(intro h_;(try simp only [h_]);revert h_)|apply zzL|with_reducible intro h_|trivial|simp only [go_sem,ai];omega)
  refine ⟨bS.fn rfl hS ?_⟩
  repeat' (first|omega|(try apply ah);simp only [go_sem,sevalprocAttr]|apply ag<;>(intro h_;(try simp only [h_]);revert h_)|apply zzL|with_reducible intro h_|trivial|simp only [go_sem,ai];omega)
def ID (s m:List Int) (L:Int):Int×Bool:=if bf s m L then (match nJ s m with|some c=>(c,false)|none=>(-1,true)) else (-1,false)
theorem Up {α:Type} (l:List α) (k:Nat) (d:α) (h:k<l.length):l.drop k=l.getD k d::l.drop (k+1):=by
 rw [List.drop_eq_getElem_cons h];simp [h]
theorem yq0 (s m:List Int) (L:Int):Fn Tryz.prog 94 [dgA s m L] (.tup [I (ID s m L).1, .bool (ID s m L).2]):=by
 refine Fn.intro [.tmp 2, .tmp 3] Tryz.func94 rfl rfl (by decide) (by simp [Tryz.ntmps94]) ?_;rw [Tryz.ntmps94]
 repeat' (first|omega|(try apply ah);simp only [go_sem,sevalprocAttr]|apply ag<;>(intro h_;(try simp only [h_]);revert h_)|apply zzL|with_reducible intro h_|trivial|simp only [go_sem,ai];omega)
 refine ⟨aL.fn rfl (vd s m L) ?_⟩;have hS:=U0 s m L;unfold Fm at hS;have cP:=FF s m;unfold ID;cases hv:bf s m L with
 |false=>
  repeat' (first|omega|(try apply ah);simp only [go_sem,sevalprocAttr]|apply ag<;>(intro h_;(try simp only [h_]);revert h_)|apply zzL|with_reducible intro h_|trivial|simp only [go_sem,ai];omega)
 |true=>
  rw [hv,zzJ rfl] at hS;have v1:=bV hv;have Az:=v1.s64;have hl:=v1.len;have nA:=fun l (hl:l∈dr s m)=>NI v1.dw hl;unfold nJ
  repeat' (first|omega|(try apply ah);simp only [go_sem,sevalprocAttr]|apply ag<;>(intro h_;(try simp only [h_]);revert h_)|apply zzL|with_reducible intro h_|trivial|simp only [go_sem,ai];omega)
  refine ⟨aL.fn rfl hS ?_⟩
  repeat' (first|omega|(try apply ah);simp only [go_sem,sevalprocAttr]|apply ag<;>(intro h_;(try simp only [h_]);revert h_)|apply zzL|with_reducible intro h_|trivial|simp only [go_sem,ai];omega)
  generalize dr s m=ls at*;refine cN.intro (fun n fr H=> ∃(i:Nat) (v:List Bool),i<=ls.length/\n=ls.length-i/\v.length=s.length/\uo v (ls.drop i)=uo (List.replicate s.length false) ls/\fr=[(19,I i),(18,I ls.length),(17,qL ls),(4, .sl 1 1 0 s.length)]/\H=[(1, .cells 4 (.bools v))]) ?_ ?_
  ·refine ⟨_,_,_,?_,0,List.replicate s.length false,by omega,rfl,by simp,rfl,rfl,rfl⟩;refine Wk.sub ?_ ?_<;>simp only [go_sem,sevalprocAttr]
  rintro n fr H ⟨i,v,hi,rfl,uE,xQ,rfl,rfl⟩;by_cases pO:i<ls.length
  ·have hg:=Uh ls i pO;have hme:=nA (ls.getD i []) (by simp [pO]);rw [Up ls i [] pO] at xQ;generalize ls.getD i []=l at*
   repeat' (first|omega|(try apply ah);simp only [go_sem,sevalprocAttr,hg]|apply ag<;>(intro h_;(try simp only [h_]);revert h_)|apply zzL|with_reducible intro h_|trivial|simp only [go_sem,ai];omega)
   refine cN.intro (fun n fr H=> ∃(k:Nat) (v':List Bool),k<=l.length/\n=l.length-k/\v'.length=s.length/\dG v' (l.drop k)=dG v l/\fr=[(25,I k),(24,I l.length),(23,roI l),(19,I i),(18,I ls.length),(17,qL ls),(4, .sl 1 1 0 s.length)]/\H=[(1, .cells 4 (.bools v'))]) ?_ ?_
   ·refine ⟨_,_,_,?_,0,v,by omega,rfl,uE,rfl,rfl,rfl⟩;refine Wk.sub ?_ ?_<;>simp only [go_sem,sevalprocAttr]
   rintro n fr H ⟨k,v',hk,rfl,GL,pg,rfl,rfl⟩;by_cases cJ:k<l.length
   ·have hx:=hme.2 (l.getD k 0) (by simp [cJ]);rw [Up l k 0 cJ] at pg;have e1:(l.getD k 0).tdiv 4=l.getD k 0/4:=s9 hx.1;have e2:(l.getD k 0).tmod 2=l.getD k 0 % 2:=MI hx.1;have xi: ¬(v'.getD (l.getD k 0/4).toNat false=false/\l.getD k 0 % 2=0)->dG (v'.set (l.getD k 0/4).toNat true) (l.drop (k+1))=dG v l:=fun hn=>by
     rw [<-pg];simp only [dG];rw [zzI hn]
    have Hg:(v'.getD (l.getD k 0/4).toNat false=false/\l.getD k 0 % 2=0)->uo (List.replicate s.length false) ls=some (l.getD k 0/4):=fun hn=>by
     rw [<-xQ];simp only [dG] at pg;rw [zzJ hn] at pg;simp only [uo,<-pg]
    repeat' (first|omega|(try apply ah);simp only [go_sem,sevalprocAttr,e1,e2]|apply ag<;>(intro h_;(try simp only [h_]);revert h_)|apply zzL|with_reducible intro h_|trivial|simp only [go_sem,ai];omega)
    ·rw [Hg ⟨by assumption,by assumption⟩]
    ·rw [Hg ⟨by assumption,by assumption⟩]
    all_goals refine ⟨_,_,_,?_,?_,⟨k+1,v'.set (l.getD k 0/4).toNat true,by omega,rfl,by simp [GL],xi (by simp_all),rfl,rfl⟩⟩
    all_goals first|omega|refine Wk.sub ?_ ?_<;>simp only [go_sem,sevalprocAttr]
   ·obtain rfl:k=l.length:=by omega
    rw [List.drop_length] at pg
    repeat' (first|omega|(try apply ah);simp only [go_sem,sevalprocAttr]|apply ag<;>(intro h_;(try simp only [h_]);revert h_)|apply zzL|with_reducible intro h_|trivial|simp only [go_sem,ai];omega)
    refine ⟨_,_,_,?_,?_,⟨i+1,v',by omega,rfl,GL,?_,rfl,rfl⟩⟩
    ·omega
    ·refine Wk.sub ?_ ?_<;>simp only [go_sem,sevalprocAttr]
    ·rw [<-xQ];simp only [uo,<-pg,dG]
  ·obtain rfl:i=ls.length:=by omega
   rw [List.drop_length] at xQ;rw [<-xQ]
   repeat' (first|omega|(try apply ah);simp only [go_sem,sevalprocAttr]|apply ag<;>(intro h_;(try simp only [h_]);revert h_)|apply zzL|with_reducible intro h_|trivial|simp only [go_sem,ai];omega)
def zF:Tr:= .node [(0, .node [(1,trD [2,3,4,5]),(2,trD [1,3,4,5])]),(1,trD [0,2,3,4,5])]
def DR:Tr:= .node [(0, .node [(1, .node [(2,trD [3,4,5,6]),(3, .node [(2,trD [4,5,6]),(4,trD [2,5,6])])]),(2, .node [(1,trD [3,4,5,6]),(3,trD [1,4,5,6])]),(3, .node [(1, .node [(2,trD [4,5,6]),(4,trD [2,5,6])]),(2,trD [1,4,5,6])])]),(1, .node [(0, .node [(2,trD [3,4,5,6]),(3, .node [(2,trD [4,5,6]),(4,trD [2,5,6])])]),(2,trD [0,3,4,5,6])]),(2, .node [(0, .node [(1,trD [3,4,5,6]),(3,trD [1,4,5,6])]),(1,trD [0,3,4,5,6])])]
theorem JL:bE (.agg [.nils, .nils,I 0]) (dgA [] [] 0):=bE.sK (.cons (bE.nils (by omega) rfl) (.cons (bE.nils (by omega) rfl) (.cons (bE.refl _) .nil)))
def resA (s m:List Int) (L:Int):AV:=if bf s m L then (match nJ s m with
    |some c=> .tup [dgA (kf s c.toNat) (jA s m c.toNat) L,dgA (dz s c.toNat) (fk s m c.toNat) (im s m c.toNat L),I c,I 0]
    |none=> .tup [dgA [] [] 0,dgA [] [] 0,I (-1),I 12]) else .tup [dgA [] [] 0,dgA [] [] 0,I (-1),I 1]
theorem UZ (s m:List Int) (L:Int) (hL:bf s m L=true->L<=62):Fn Tryz.prog 41 [dgA s m L] (resA s m L):=by
 have hD:=yq0 s m L;unfold ID at hD;unfold resA;cases hv:bf s m L with
 |false=>
  rw [hv] at hD;simp only [Bool.false_eq_true,if_false] at hD⊢;refine Fn.aG [.cell 2 24, .cell 3 24, .tmp 4, .tmp 5] Tryz.func41 rfl rfl (by decide) (by simp [Tryz.ntmps41]) ?_;rw [Tryz.ntmps41]
  repeat' (first|omega|(try apply ah);simp only [go_sem,sevalprocAttr]|apply ag<;>(intro h_;(try simp only [h_]);revert h_)|apply zzL|with_reducible intro h_|trivial|simp only [go_sem,ai];omega)
  refine ⟨aL.fn rfl hD ?_⟩
  repeat' (first|omega|(first|apply ah|(refine ba.intro (id:=3) [[14],[13],[14],[],[],[]] [[],[0],[1],[],[],[]] (by decide+kernel) mixed ?_)|(refine ba.bR (id:=3) (zF) (by decide+kernel) mixed ?_)|(refine ba.intro (id:=5) [[18],[17],[18],[],[],[]] [[],[0],[1],[],[],[]] (by decide+kernel) mixed ?_)|(refine ba.bR (id:=5) (zF) (by decide+kernel) mixed ?_)|(refine ba.intro (id:=12) [[42,43],[41,43],[41,42],[42,43],[43],[],[]] [[],[0],[0,1],[1,2],[2],[],[]] (by decide+kernel) mixed ?_)|(refine ba.bR (id:=12) (DR) (by decide+kernel) mixed ?_)|skip);simp only [go_sem,sevalprocAttr,↓reduceIte,reduceCtorEq,zF,DR]|apply ag<;>(intro h_;(try simp only [h_]);revert h_)|apply zzL|with_reducible intro h_|trivial|simp only [go_sem,ai];omega)
  all_goals exact bE.wU (.cons JL (.cons JL (.cons (bE.refl _) (.cons (bE.refl _) .nil))))
 |true=>
  have hL:=hL hv;have v1:=bV hv;rw [hv] at hD;simp only [if_true] at hD⊢;cases hbo:nJ s m with
  |none=>
   rw [hbo] at hD;simp only at hD⊢;refine Fn.aG [.cell 2 24, .cell 3 24, .tmp 4, .tmp 5] Tryz.func41 rfl rfl (by decide) (by simp [Tryz.ntmps41]) ?_;rw [Tryz.ntmps41]
   repeat' (first|omega|(try apply ah);simp only [go_sem,sevalprocAttr]|apply ag<;>(intro h_;(try simp only [h_]);revert h_)|apply zzL|with_reducible intro h_|trivial|simp only [go_sem,ai];omega)
   refine ⟨aL.fn rfl hD ?_⟩
   repeat' (first|omega|(first|apply ah|(refine ba.intro (id:=3) [[14],[13],[14],[],[],[]] [[],[0],[1],[],[],[]] (by decide+kernel) mixed ?_)|(refine ba.bR (id:=3) (zF) (by decide+kernel) mixed ?_)|(refine ba.intro (id:=5) [[18],[17],[18],[],[],[]] [[],[0],[1],[],[],[]] (by decide+kernel) mixed ?_)|(refine ba.bR (id:=5) (zF) (by decide+kernel) mixed ?_)|(refine ba.intro (id:=12) [[42,43],[41,43],[41,42],[42,43],[43],[],[]] [[],[0],[0,1],[1,2],[2],[],[]] (by decide+kernel) mixed ?_)|(refine ba.bR (id:=12) (DR) (by decide+kernel) mixed ?_)|skip);simp only [go_sem,sevalprocAttr,↓reduceIte,reduceCtorEq,zF,DR]|apply ag<;>(intro h_;(try simp only [h_]);revert h_)|apply zzL|with_reducible intro h_|trivial|simp only [go_sem,ai];omega)
   all_goals exact bE.wU (.cons JL (.cons JL (.cons (bE.refl _) (.cons (bE.refl _) .nil))))
  |some c=>
   rw [hbo] at hD;simp only at hD⊢;obtain ⟨c0,c1⟩:=Ui v1.dw hbo;obtain ⟨c,rfl⟩: ∃n:Nat,c=n:=⟨c.toNat,by omega⟩;have uF:=y2h s m L c (by omega) hL hv _ rfl;have pL:=y18 s m L c (by omega) (by omega) hv;refine Fn.aG [.cell 2 24, .cell 3 24, .tmp 4, .tmp 5] Tryz.func41 rfl rfl (by decide) (by simp [Tryz.ntmps41]) ?_;rw [Tryz.ntmps41]
   repeat' (first|omega|(try apply ah);simp only [go_sem,sevalprocAttr]|apply ag<;>(intro h_;(try simp only [h_]);revert h_)|apply zzL|with_reducible intro h_|trivial|simp only [go_sem,ai];omega)
   refine ⟨aL.fn rfl hD ?_⟩
   repeat' (first|omega|(try apply ah);simp only [go_sem,sevalprocAttr]|apply ag<;>(intro h_;(try simp only [h_]);revert h_)|apply zzL|with_reducible intro h_|trivial|simp only [go_sem,ai];omega)
   refine ⟨aL.fn rfl uF ?_⟩
   repeat' (first|omega|(try apply ah);simp only [go_sem,sevalprocAttr]|apply ag<;>(intro h_;(try simp only [h_]);revert h_)|apply zzL|with_reducible intro h_|trivial|simp only [go_sem,ai];omega)
   refine ⟨aL.fn rfl pL ?_⟩
   repeat' (first|omega|(first|apply ah|(refine ba.intro (id:=3) [[14],[13],[14],[],[],[]] [[],[0],[1],[],[],[]] (by decide+kernel) mixed ?_)|(refine ba.bR (id:=3) (zF) (by decide+kernel) mixed ?_)|(refine ba.intro (id:=5) [[18],[17],[18],[],[],[]] [[],[0],[1],[],[],[]] (by decide+kernel) mixed ?_)|(refine ba.bR (id:=5) (zF) (by decide+kernel) mixed ?_)|(refine ba.intro (id:=12) [[42,43],[41,43],[41,42],[42,43],[43],[],[]] [[],[0],[0,1],[1,2],[2],[],[]] (by decide+kernel) mixed ?_)|(refine ba.bR (id:=12) (DR) (by decide+kernel) mixed ?_)|skip);simp only [go_sem,sevalprocAttr,↓reduceIte,reduceCtorEq,zF,DR]|apply ag<;>(intro h_;(try simp only [h_]);revert h_)|apply zzL|with_reducible intro h_|trivial|simp only [go_sem,ai];omega)
   all_goals exact bE.refl _
theorem RO (b:Bool) (p:List (Int×Int)):Fn Tryz.prog 12 [iy b p] (.bool b):=by
 refine Fn.intro [.tmp 2] Tryz.func12 rfl rfl (by decide) (by simp [Tryz.ntmps12]) ?_;rw [Tryz.ntmps12]
 repeat' (first|omega|(try apply ah);simp only [go_sem,sevalprocAttr]|apply ag<;>(intro h_;(try simp only [h_]);revert h_)|apply zzL|with_reducible intro h_|trivial|simp only [go_sem,ai];omega)
end Go.Proofs.YtjpbeacamoijhaaGreatDoor
