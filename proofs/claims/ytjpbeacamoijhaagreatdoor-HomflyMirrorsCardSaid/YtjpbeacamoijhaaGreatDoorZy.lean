/- Layer 6: a crossing is left out; copies. -/
import Derived.Test.YtjpbeacamoijhaaGreatDoorZx
import Derived.Test.YtjpbeacamoijhaaGreatDoorPl
set_option linter.unusedSimpArgs false
set_option linter.unusedVariables false
namespace Go.Proofs.YtjpbeacamoijhaaGreatDoor
open Go Go.RowKit
set_option maxRecDepth 100000
set_option maxHeartbeats 4000000
theorem XM (s m:List Int) (c:Nat) (L:Int) (hs:s.length<=1000) (hm:pf m s.length):Fn Tryz.prog 142 [roI s,roI m,I c,I L] (dgA (jb s c s.length) (cv m c s.length) L):=by
 have iX:=hm.1;refine Fn.aH [.cell 8 24] Tryz.func142 rfl rfl (by decide) (by simp [Tryz.ntmps142]) ?_;rw [Tryz.ntmps142]
 repeat' (first|omega|(try apply ah);simp only [go_sem,sevalprocAttr]|apply ag<;>(intro h_;(try simp only [h_]);revert h_)|apply And.intro|with_reducible intro h_|trivial|simp only [go_sem,ai];omega)
 refine dn.intro (fun n fr H=> ∃k:Nat,k<=s.length/\n=s.length-k/\fr=[(18,I k),(17,I s.length),(16,roI s),(9, .ptr 1 0),(8, .ptr 0 0),(1,roI m),(2,I c)]/\((jb s c k=[]/\cv m c k=[]/\H=[(1, .cells 24 (.lst [.nils, .nils,I L])),(0, .cells 24 (.lst [.nils, .nils,I 0]))])\/H=[(5, .cells 3 (.ints (cv m c k))),(3, .cells 3 (.ints (jb s c k))),(1, .cells 24 (.lst [.sl 1 3 0 (jb s c k).length, .sl 1 5 0 (cv m c k).length,I L])),(0, .cells 24 (.lst [.nils, .nils,I 0]))])) ?_ ?_
 ·refine ⟨_,_,_,?_,0,by omega,rfl,rfl, .inl ⟨rfl,rfl,rfl⟩⟩;refine Wk.sub ?_ ?_<;>simp only [go_sem,sevalprocAttr]
 rintro n fr H ⟨k,hk,rfl,rfl,nh⟩;have wl1:=QU s c k;have wl2:=QT m c k;by_cases cT:k<s.length
 ·rcases nh with ⟨kd,jB,rfl⟩|rfl
  ·repeat' (first|omega|(try apply ah);simp only [go_sem,sevalprocAttr]|apply ag<;>(intro h_;(try simp only [h_]);revert h_)|apply And.intro|with_reducible intro h_|trivial|simp only [go_sem,ai];omega)
   ·have ek:jb s c (k+1)=jb s c k/\cv m c (k+1)=cv m c k:=by
     have:k=c:=by omega
     simp [jb,cv,this]
    refine ⟨_,_,_,?_,?_,⟨k+1,by omega,rfl,rfl, .inl ⟨by rw [ek.1];exact kd,by rw [ek.2];exact jB,rfl⟩⟩⟩
    ·omega
    ·refine Wk.sub ?_ ?_<;>simp only [go_sem,sevalprocAttr]
     all_goals simp_all
   ·have nG:k≠c:=by omega
    have ek:jb s c (k+1)=jb s c k++[s.getD k 0]/\cv m c (k+1)=dE m c k (cv m c k) 4:=by
     simp [jb,cv,nG]
    refine dn.intro (fun j fr H=> ∃x:Nat,x<=4/\j=4-x/\fr=[(32,I x),(10,I k),(18,I k),(17,I s.length),(16,roI s),(9, .ptr 1 0),(8, .ptr 0 0),(1,roI m),(2,I c)]/\((x=0/\cv m c k=[]/\H=[(3, .cells 3 (.ints (jb s c k++[s.getD k 0]))),(1, .cells 24 (.lst [.sl 1 3 0 (jb s c k++[s.getD k 0]).length, .nils,I L])),(0, .cells 24 (.lst [.nils, .nils,I 0]))])\/H=[(5, .cells 3 (.ints (dE m c k (cv m c k) x))),(3, .cells 3 (.ints (jb s c k++[s.getD k 0]))),(1, .cells 24 (.lst [.sl 1 3 0 (jb s c k++[s.getD k 0]).length, .sl 1 5 0 (dE m c k (cv m c k) x).length,I L])),(0, .cells 24 (.lst [.nils, .nils,I 0]))])) ?_ ?_
    ·refine ⟨_,_,_,?_,0,by omega,rfl,rfl, .inl ⟨rfl,jB,rfl⟩⟩;refine Wk.sub ?_ ?_<;>simp only [go_sem,sevalprocAttr]
     all_goals simp_all [dE]
    rintro j fr H ⟨x,hx,rfl,rfl,df⟩;have wl4:=I3 m c k (cv m c k) x;by_cases uM:x<4
    ·have p6:=hm.2 (4*k+x) (by omega);have e0:(4*(k:Int)+x).toNat=4*k+x:=by omega
     have e2:(m.getD (4*k+x) 0).tdiv 4=m.getD (4*k+x) 0/4:=tN p6.1;have eW:dE m c k (cv m c k) (x+1)=dE m c k (cv m c k) x++[c6 m c (4*k+x)]:=rfl;rcases df with ⟨rfl,FR,rfl⟩|rfl
     ·have B4:=hm.2 (4*k) (by omega);have e3:(4*(k:Int)).toNat=4*k:=by omega
      have e4:(m.getD (4*k) 0).tdiv 4=m.getD (4*k) 0/4:=tN B4.1
      repeat' (first|omega|(try apply ah);simp only [go_sem,sevalprocAttr,e3,e4]|apply ag<;>(intro h_;(try simp only [h_]);revert h_)|apply And.intro|with_reducible intro h_|trivial|simp only [go_sem,ai];omega)
      ·have hcut:c6 m c (4*k)=m.getD (4*k) 0-4:=by unfold c6;rw [if_pos (by omega)]
       have e5:dE m c k (cv m c k) 1=[m.getD (4*k) 0-4]:=by simp only [dE,FR,Nat.add_zero,hcut,List.nil_append]
       refine ⟨_,_,_,?_,?_,⟨1,by omega,rfl,rfl, .inr rfl⟩⟩
       ·omega
       ·refine Wk.sub ?_ ?_<;>(simp only [go_sem,sevalprocAttr,e5])
      ·have hcut:c6 m c (4*k)=m.getD (4*k) 0:=by unfold c6;rw [if_neg (by omega)]
       have e5:dE m c k (cv m c k) 1=[m.getD (4*k) 0]:=by simp only [dE,FR,Nat.add_zero,hcut,List.nil_append]
       refine ⟨_,_,_,?_,?_,⟨1,by omega,rfl,rfl, .inr rfl⟩⟩
       ·omega
       ·refine Wk.sub ?_ ?_<;>(simp only [go_sem,sevalprocAttr,e5])
     ·repeat' (first|omega|(try apply ah);simp only [go_sem,sevalprocAttr,e0,e2]|apply ag<;>(intro h_;(try simp only [h_]);revert h_)|apply And.intro|with_reducible intro h_|trivial|simp only [go_sem,ai];omega)
      ·have hcut:c6 m c (4*k+x)=m.getD (4*k+x) 0-4:=by unfold c6;rw [if_pos (by omega)]
       refine ⟨_,_,_,?_,?_,⟨x+1,by omega,rfl,rfl, .inr rfl⟩⟩
       ·omega
       ·refine Wk.sub ?_ ?_<;>(simp only [go_sem,sevalprocAttr,eW,hcut,List.length_append])
      ·have hcut:c6 m c (4*k+x)=m.getD (4*k+x) 0:=by unfold c6;rw [if_neg (by omega)]
       refine ⟨_,_,_,?_,?_,⟨x+1,by omega,rfl,rfl, .inr rfl⟩⟩
       ·omega
       ·refine Wk.sub ?_ ?_<;>(simp only [go_sem,sevalprocAttr,eW,hcut,List.length_append])
    ·obtain rfl:x=4:=by omega
     rcases df with ⟨h4,_⟩|rfl
     ·omega
     ·repeat' (first|omega|(try apply ah);simp only [go_sem,sevalprocAttr]|apply ag<;>(intro h_;(try simp only [h_]);revert h_)|apply And.intro|with_reducible intro h_|trivial|simp only [go_sem,ai];omega)
      refine ⟨_,_,_,?_,?_,⟨k+1,by omega,rfl,rfl, .inr rfl⟩⟩
      ·omega
      ·refine Wk.sub ?_ ?_<;>(simp only [go_sem,sevalprocAttr,ek.1,ek.2,List.length_append])
  ·repeat' (first|omega|(try apply ah);simp only [go_sem,sevalprocAttr]|apply ag<;>(intro h_;(try simp only [h_]);revert h_)|apply And.intro|with_reducible intro h_|trivial|simp only [go_sem,ai];omega)
   ·have ek:jb s c (k+1)=jb s c k/\cv m c (k+1)=cv m c k:=by
     have:k=c:=by omega
     simp [jb,cv,this]
    refine ⟨_,_,_,?_,?_,⟨k+1,by omega,rfl,rfl, .inr rfl⟩⟩
    ·omega
    ·refine Wk.sub ?_ ?_<;>simp only [go_sem,sevalprocAttr]
     all_goals simp_all
   ·have nG:k≠c:=by omega
    have ek:jb s c (k+1)=jb s c k++[s.getD k 0]/\cv m c (k+1)=dE m c k (cv m c k) 4:=by
     simp [jb,cv,nG]
    refine dn.intro (fun j fr H=> ∃x:Nat,x<=4/\j=4-x/\fr=[(32,I x),(10,I k),(18,I k),(17,I s.length),(16,roI s),(9, .ptr 1 0),(8, .ptr 0 0),(1,roI m),(2,I c)]/\((x=0/\cv m c k=[]/\H=[(3, .cells 3 (.ints (jb s c k++[s.getD k 0]))),(1, .cells 24 (.lst [.sl 1 3 0 (jb s c k++[s.getD k 0]).length, .nils,I L])),(0, .cells 24 (.lst [.nils, .nils,I 0]))])\/H=[(5, .cells 3 (.ints (dE m c k (cv m c k) x))),(3, .cells 3 (.ints (jb s c k++[s.getD k 0]))),(1, .cells 24 (.lst [.sl 1 3 0 (jb s c k++[s.getD k 0]).length, .sl 1 5 0 (dE m c k (cv m c k) x).length,I L])),(0, .cells 24 (.lst [.nils, .nils,I 0]))])) ?_ ?_
    ·refine ⟨_,_,_,?_,0,by omega,rfl,rfl, .inr rfl⟩;refine Wk.sub ?_ ?_<;>simp only [go_sem,sevalprocAttr]
     all_goals simp_all [dE]
    rintro j fr H ⟨x,hx,rfl,rfl,df⟩;have wl4:=I3 m c k (cv m c k) x;by_cases uM:x<4
    ·have p6:=hm.2 (4*k+x) (by omega);have e0:(4*(k:Int)+x).toNat=4*k+x:=by omega
     have e2:(m.getD (4*k+x) 0).tdiv 4=m.getD (4*k+x) 0/4:=tN p6.1;have eW:dE m c k (cv m c k) (x+1)=dE m c k (cv m c k) x++[c6 m c (4*k+x)]:=rfl;rcases df with ⟨rfl,FR,rfl⟩|rfl
     ·have B4:=hm.2 (4*k) (by omega);have e3:(4*(k:Int)).toNat=4*k:=by omega
      have e4:(m.getD (4*k) 0).tdiv 4=m.getD (4*k) 0/4:=tN B4.1
      repeat' (first|omega|(try apply ah);simp only [go_sem,sevalprocAttr,e3,e4]|apply ag<;>(intro h_;(try simp only [h_]);revert h_)|apply And.intro|with_reducible intro h_|trivial|simp only [go_sem,ai];omega)
      ·have hcut:c6 m c (4*k)=m.getD (4*k) 0-4:=by unfold c6;rw [if_pos (by omega)]
       have e5:dE m c k (cv m c k) 1=[m.getD (4*k) 0-4]:=by simp only [dE,FR,Nat.add_zero,hcut,List.nil_append]
       refine ⟨_,_,_,?_,?_,⟨1,by omega,rfl,rfl, .inr rfl⟩⟩
       ·omega
       ·refine Wk.sub ?_ ?_<;>(simp only [go_sem,sevalprocAttr,e5])
      ·have hcut:c6 m c (4*k)=m.getD (4*k) 0:=by unfold c6;rw [if_neg (by omega)]
       have e5:dE m c k (cv m c k) 1=[m.getD (4*k) 0]:=by simp only [dE,FR,Nat.add_zero,hcut,List.nil_append]
       refine ⟨_,_,_,?_,?_,⟨1,by omega,rfl,rfl, .inr rfl⟩⟩
       ·omega
       ·refine Wk.sub ?_ ?_<;>(simp only [go_sem,sevalprocAttr,e5])
     ·repeat' (first|omega|(try apply ah);simp only [go_sem,sevalprocAttr,e0,e2]|apply ag<;>(intro h_;(try simp only [h_]);revert h_)|apply And.intro|with_reducible intro h_|trivial|simp only [go_sem,ai];omega)
      ·have hcut:c6 m c (4*k+x)=m.getD (4*k+x) 0-4:=by unfold c6;rw [if_pos (by omega)]
       refine ⟨_,_,_,?_,?_,⟨x+1,by omega,rfl,rfl, .inr rfl⟩⟩
       ·omega
       ·refine Wk.sub ?_ ?_<;>(simp only [go_sem,sevalprocAttr,eW,hcut,List.length_append])
      ·have hcut:c6 m c (4*k+x)=m.getD (4*k+x) 0:=by unfold c6;rw [if_neg (by omega)]
       refine ⟨_,_,_,?_,?_,⟨x+1,by omega,rfl,rfl, .inr rfl⟩⟩
       ·omega
       ·refine Wk.sub ?_ ?_<;>(simp only [go_sem,sevalprocAttr,eW,hcut,List.length_append])
    ·obtain rfl:x=4:=by omega
     rcases df with ⟨h4,_⟩|rfl
     ·omega
     ·repeat' (first|omega|(try apply ah);simp only [go_sem,sevalprocAttr]|apply ag<;>(intro h_;(try simp only [h_]);revert h_)|apply And.intro|with_reducible intro h_|trivial|simp only [go_sem,ai];omega)
      refine ⟨_,_,_,?_,?_,⟨k+1,by omega,rfl,rfl, .inr rfl⟩⟩
      ·omega
      ·refine Wk.sub ?_ ?_<;>(simp only [go_sem,sevalprocAttr,ek.1,ek.2,List.length_append])
 ·obtain rfl:k=s.length:=by omega
  rcases nh with ⟨kd,jB,rfl⟩|rfl
  ·repeat' (first|omega|(try apply ah);simp only [go_sem,sevalprocAttr]|apply ag<;>(intro h_;(try simp only [h_]);revert h_)|apply And.intro|with_reducible intro h_|trivial|simp only [go_sem,ai];omega)
   rw [kd,jB];exact ca.Cy (.cons (ca.nils (by omega) rfl) (.cons (ca.nils (by omega) rfl) (.cons (ca.refl _) .nil)))
  ·repeat' (first|omega|(try apply ah);simp only [go_sem,sevalprocAttr]|apply ag<;>(intro h_;(try simp only [h_]);revert h_)|apply And.intro|with_reducible intro h_|trivial|simp only [go_sem,ai];omega)
   exact ca.of (by rw [List.take_of_length_le (by omega),List.take_of_length_le (by omega)])
set_option maxHeartbeats 8000000
def UI:List (List Nat):=[[49,50,51,52,53,54,55,56,57,58],[48,50,51,52,53,54,55,56,57,58],[48,49,51,52,53,54,55,56,57,58],[51,52,53,54,55,56,57,58],[48,49,50,52,53,54,55,56,57,58],[48,49,50,51,53,54,55,56,57,58],[49,50,53,54,55,56,57,58],[48,49,50,51,52,54,55,56,57,58],[48,49,50,51,52,53,56,57,58],[48,49,50,51,52,53,56,57,58],[49,50,51,52,56,57,58],[48,49,50,51,52,53,54,55,58],[48,49,50,51,52,53,54,55,58],[48,49,50,51,52,53,54,55,56,57],[49,50,51,52,53,54,55],[],[]]
def UH:List (List Nat):=[[],[0],[0,1],[],[0,1,2,3],[0,1,2,3,4],[1,2,3],[0,1,2,3,4,5,6],[0,1,2,3,4,5,6,7],[0,1,2,3,4,5,6,7],[1,2,3,4,5,6],[0,1,2,3,4,5,6,7,8,9,10],[0,1,2,3,4,5,6,7,8,9,10],[0,1,2,3,4,5,6,7,8,9,10,11,12],[1,2,3,4,5,6,7,8,9,10],[],[]]
def Nr (f o i:Int):Int->Option Int:=updI (updI (updI (updI (fun _=>none) f o) o f) i (f+2)) (f+2) i
theorem ZM (c:Nat) (b:Bool) (x:Int) (hx:x/4=c):(Nr (4*c) (if b then 4*c+3 else 4*c+1) (if b then 4*c+1 else 4*c+3) x).getD 0=aF b x:=by
 have h4:x=4*c\/x=4*c+1\/x=4*c+2\/x=4*c+3:=by omega
 unfold aF;rw [tK,sH];cases b<;>rcases h4 with rfl|rfl|rfl|rfl<;>simp [Nr,updI]<;>(repeat' (first|(split<;>(try simp))|omega))
def wj (c:Nat) (b:Bool):Int:=if b then 4*c+1 else 4*c+3
def M8 (c:Nat) (b:Bool):Int:=if b then 4*c+3 else 4*c+1
theorem y4u (c:Nat) (b:Bool):wj c b/4=c:=by
 unfold wj;cases b
 ·rw [if_neg (by simp)];omega
 ·rw [if_pos rfl];omega
def CC (g:Int->Option Bool) (u:Int->Bool):Prop:= ∀x,(g x).getD false=u x
theorem CC.two {g:Int->Option Bool} {u:Int->Bool} (h:CC g u) (x y:Int):CC (updB (updB g x true) y true) (lr u x y):=by
 intro z;simp only [updB,lr];by_cases e1:z=y
 ·rw [if_pos e1,e1];simp
 ·rw [if_neg e1];by_cases e2:z=x
  ·rw [if_pos e2,e2];simp
  ·have q1:(z==x)=false:=by simpa using e2
   have q2:(z==y)=false:=by simpa using e1
   rw [if_neg e2,h z,q1,q2];simp
theorem y1w (s m:List Int) (L:Int) (c:Nat) (hc:c<s.length) (hL:L<=62) (hv:bI s m L=true) (b:Bool) (hb:(s.getD c 0== -1)=b):
  Fn Tryz.prog 95 [dgA s m L,I c] (.tup [dgA (jb s c s.length) (cv (eJ m b c (4*s.length)) c s.length) (L+nt m b c s.length),I 0]):=by
 have v1:=dr hv;have yC:=v1.s64;have hl:=v1.len;have AH:=v1.l0;have mC:=v1.sg c hc;have hp:=v1.dB;have aY:=y1t m (by omega) (by omega);obtain ⟨i,hi⟩: ∃i,i=wj c b:=⟨_,rfl⟩;obtain ⟨jm,zl⟩: ∃jm,jm=Nr (4*c) (M8 c b) (wj c b):=⟨_,rfl⟩;have uf: ∀x:Int,x/4=c->(jm x).getD 0=aF b x:=fun x hx=>by rw [zl];exact ZM c b x hx
 have hid:=y4u c b;rw [←hi] at hid
 have lN:(s.getD c 0= -1/\i=4*c+1/\jm=updI (updI (updI (updI (fun _=>none) (4*c) (4*c+3)) (4*c+3) (4*c)) (4*c+1) (4*c+2)) (4*c+2) (4*c+1))\/
   (s.getD c 0≠ -1/\i=4*c+3/\jm=updI (updI (updI (updI (fun _=>none) (4*c) (4*c+1)) (4*c+1) (4*c)) (4*c+3) (4*c+2)) (4*c+2) (4*c+3)):=by
  cases b
  ·exact .inr ⟨by simpa using hb,hi,zl⟩
  ·exact .inl ⟨by simpa using hb,hi,zl⟩
 have hii:i=wj c b:=hi;clear zl hi;refine Fn.intro [.cell 4 24, .tmp 5] Tryz.func95 rfl rfl (by decide) (by simp [Tryz.ntmps95]) ?_;rw [Tryz.ntmps95]
 repeat' (first|omega|(try apply ah);simp only [go_sem,sevalprocAttr]|apply ag<;>(intro h_;(try simp only [h_]);revert h_)|apply And.intro|with_reducible intro h_|trivial|simp only [go_sem,ai];omega)
 refine ⟨aO.fn rfl (yP s m L) ?_⟩;rw [hv];rcases lN with ⟨o9,B8,Wp⟩|⟨o9,B8,Wp⟩
 all_goals repeat' (first|omega|(first|apply ah|(refine bd.intro (id:=10) UI UH (by decide+kernel) mixed ?_)|skip);simp only [go_sem,sevalprocAttr,↓reduceIte,reduceCtorEq,UI,UH]|apply ag<;>(intro h_;(try simp only [h_]);revert h_)|apply And.intro|with_reducible intro h_|trivial|simp only [go_sem,ai];omega)
 all_goals first|(repeat' split)<;>first|omega|rfl|(refine ⟨aO.fno rfl aY ?_⟩)
 all_goals repeat' (first|omega|(try apply ah);simp only [go_sem,sevalprocAttr]|apply ag<;>(intro h_;(try simp only [h_]);revert h_)|apply And.intro|with_reducible intro h_|trivial|simp only [go_sem,ai];omega)
 all_goals (
  refine dn.intro (fun n fr H=> ∃(h:Nat) (g:Int->Option Bool),h<=m.length/\n=m.length-h/\CC g (mn m b c h)/\fr=[(67,I h),(66,I m.length),(65,roI m),(12, .mp 4),(11, .sl 1 3 0 m.length),(10, .mp 2),(8,I i),(7,I (4*c)),(4, .ptr 1 0),(2, .ptr 0 0),(1,I c)]/\H=[(4, .fmap 163 (.bools g)),(3, .cells 3 (.ints (eJ m b c h))),(2, .fmap 162 (.ints jm)),(1, .cells 24 (.lst [.nils, .nils,I 0])),(0, .cells 24 (.lst [roI s,roI m,I L]))]) ?_ ?_
  ·refine ⟨_,_,_,?_,0,fun _=>none,by omega,rfl,fun _=>rfl,rfl,rfl⟩;refine Wk.sub ?_ ?_<;>simp only [go_sem,sevalprocAttr]
   all_goals simp [B8,Wp,eJ]
  rintro n fr H ⟨h,g,hh,rfl,hg,rfl,rfl⟩;have DO:=Lo (m:=m) (b:=b) (c:=c) h;by_cases Ws:h<m.length
  ·have e1:(h:Int).tdiv 4=(h/4:Nat):=by rw [tN (by omega)];omega
   have p6:=hp.ok.2 h (by omega)
   repeat' (first|omega|(try apply ah);simp only [go_sem,sevalprocAttr,e1]|apply ag<;>(intro h_;(try simp only [h_]);revert h_)|apply And.intro|with_reducible intro h_|trivial|simp only [go_sem,ai];omega)
   ·have vN:h/4=c:=by omega
    refine ⟨_,_,_,?_,?_,⟨h+1,g,by omega,rfl,?_,rfl,rfl⟩⟩
    ·omega
    ·refine Wk.sub ?_ ?_<;>simp only [go_sem,sevalprocAttr]
     all_goals simp [eJ,vN]
    ·simp only [mn,vN,if_true];exact hg
   ·have vN:h/4≠c:=by omega
    have ho:=Dj (b:=b) hp hc (show h<4*s.length by omega) vN
    refine dn.intro (fun f fr H=> ∃(x:Int) (u:Int->Bool) (g:Int->Option Bool),0<=x/\x<4*s.length/\cW m b c f x=cW m b c 5 (m.getD h 0)/\thrU m b c f x u=thrU m b c 5 (m.getD h 0) (mn m b c h)/\CC g u/\fr=[(14,I x),(13,I h),(67,I h),(66,I m.length),(65,roI m),(12, .mp 4),(11, .sl 1 3 0 m.length),(10, .mp 2),(8,I i),(7,I (4*c)),(4, .ptr 1 0),(2, .ptr 0 0),(1,I c)]/\H=[(4, .fmap 163 (.bools g)),(3, .cells 3 (.ints (eJ m b c h))),(2, .fmap 162 (.ints jm)),(1, .cells 24 (.lst [.nils, .nils,I 0])),(0, .cells 24 (.lst [roI s,roI m,I L]))]) ?_ ?_
    ·refine ⟨5,_,_,?_,m.getD h 0,mn m b c h,g,p6.1,p6.2,rfl,rfl,hg,rfl,rfl⟩;refine Wk.sub ?_ ?_<;>simp only [go_sem,sevalprocAttr]
    rintro f fr H ⟨x,u,g',oh,Ny,hX,hU,qx,rfl,rfl⟩;have e2:x.tdiv 4=x/4:=tN oh;by_cases tX:x/4=c
    ·obtain ⟨f',rfl⟩: ∃f',f=f'+1:=by
      cases f with
      |zero=>rw [←hX] at ho;exact absurd tX ho
      |succ f'=>exact ⟨f',rfl⟩
     have ej:=uf x tX;have ug:=qc b x;have Oa:=hp.ok.2 (aF b x).toNat (by omega);rw [Eu tX] at hX;rw [QW tX] at hU
     repeat' (first|omega|(try apply ah);simp only [go_sem,sevalprocAttr,e2,ej]|apply ag<;>(intro h_;(try simp only [h_]);revert h_)|apply And.intro|with_reducible intro h_|trivial|simp only [go_sem,ai];omega)
     refine ⟨f',_,_,?_,?_,⟨m.getD (aF b x).toNat 0,lr u x (aF b x),updB (updB g' x true) (aF b x) true,Oa.1,Oa.2,hX,hU,qx.two x _,rfl,rfl⟩⟩
     ·omega
     ·refine Wk.sub ?_ ?_<;>simp only [go_sem,sevalprocAttr]
    ·rw [Be tX] at hX;rw [QV tX] at hU
     repeat' (first|omega|(try apply ah);simp only [go_sem,sevalprocAttr,e2]|apply ag<;>(intro h_;(try simp only [h_]);revert h_)|apply And.intro|with_reducible intro h_|trivial|simp only [go_sem,ai];omega)
     refine ⟨_,_,_,?_,?_,⟨h+1,g',by omega,rfl,?_,rfl,rfl⟩⟩
     ·omega
     ·refine Wk.sub ?_ ?_<;>simp only [go_sem,sevalprocAttr]
      all_goals simp [eJ,vN,hX]
     ·simp only [mn,vN,if_false];rw [←hU];exact qx
  ·obtain rfl:h=m.length:=by omega
   rw [hl] at DO hg⊢
   repeat' (first|omega|(try apply ah);simp only [go_sem,sevalprocAttr]|apply ag<;>(intro h_;(try simp only [h_]);revert h_)|apply And.intro|with_reducible intro h_|trivial|simp only [go_sem,ai];omega)
   have hse:=Zk (b:=b) hp hc (4*s.length) (Nat.le_refl _);have df: ∀x:Int,x/4=c->mn m b c (4*s.length) x=false->cm m b x/4=(c:Int):=fun x hx hu=>PI hp hc hx hu;have BP:nt m b c s.length=(if mn m b c (4*s.length) (4*c) then 0 else 1)+(if (if mn m b c (4*s.length) (4*c) then mn m b c (4*s.length) else pU m b 5 (4*c) (mn m b c (4*s.length))) i then 0 else 1):=by
    rw [hii];rfl
   generalize mn m b c (4*s.length)=u0 at*
   refine dn.intro (fun n fr H=> ∃(k:Nat) (u:Int->Bool) (g:Int->Option Bool) (l:Int),n=2-k/\((k=0/\u=u0/\l=L)\/(k=1/\u=(if u0 (4*c) then u0 else pU m b 5 (4*c) u0)/\l=L+(if u0 (4*c) then 0 else 1))\/(k=2/\l=L+nt m b c s.length))/\(∀y,u0 y=true->u y=true)/\CC g u/\
    fr=[(103,I k),(102,I (2:Nat)),(101, .sl 1 5 0 2),(15,I l),(12, .mp 4),(11, .sl 1 3 0 (4*s.length)),(10, .mp 2),(4, .ptr 1 0),(2, .ptr 0 0),(1,I c)]/\H=[(5, .cells 3 (.ints [4*(c:Int),i])),(4, .fmap 163 (.bools g)),(3, .cells 3 (.ints (eJ m b c (4*s.length)))),(2, .fmap 162 (.ints jm)),(1, .cells 24 (.lst [.nils, .nils,I 0])),(0, .cells 24 (.lst [roI s,roI m,I L]))]) ?_ ?_
   ·refine ⟨_,_,_,?_,0,u0,g,L,rfl, .inl ⟨rfl,rfl,rfl⟩,fun _ h=>h,hg,rfl,rfl⟩;refine Wk.sub ?_ ?_<;>simp only [go_sem,sevalprocAttr]
   rintro n fr H ⟨k,u,g,l,rfl,hk,uO,hg,rfl,rfl⟩;by_cases AK:k=2
   ·subst AK;obtain rfl:l=L+nt m b c s.length:=by omega
    have Gl:0<=nt m b c s.length/\nt m b c s.length<=2:=by rw [BP];constructor<;>(repeat' split)<;>omega
    have VU:=XM s (eJ m b c (4*s.length)) c (L+nt m b c s.length) (by omega) hse
    repeat' (first|omega|(try apply ah);simp only [go_sem,sevalprocAttr]|apply ag<;>(intro h_;(try simp only [h_]);revert h_)|apply And.intro|with_reducible intro h_|trivial|simp only [go_sem,ai];omega)
    have NA:Fn Tryz.prog 142 [roI s, .ro 1 (4*s.length) (.ints ((eJ m b c (4*s.length)).take (4*s.length))),I c,I (L+nt m b c s.length)] (dgA (jb s c s.length) (cv (eJ m b c (4*s.length)) c s.length) (L+nt m b c s.length)):=by
     rw [List.take_of_length_le (by omega)];have e:roI (eJ m b c (4*s.length))= .ro 1 (4*s.length) (.ints (eJ m b c (4*s.length))):=by unfold roI;rw [DO]
     rw [e] at VU;exact VU
    refine ⟨aO.Ki [3] rfl (by simp only [go_sem,sevalprocAttr,DO,Nat.le_refl]) (by simp only [go_sem,sevalprocAttr,DO,Nat.le_refl]) (by simp only [go_sem,sevalprocAttr,DO,Nat.le_refl]) (by simp only [go_sem,sevalprocAttr,DO,Nat.le_refl]) rfl rfl rfl (aO.fn rfl NA ?_)⟩
    repeat' (first|omega|(try apply ah);simp only [go_sem,sevalprocAttr]|apply ag<;>(intro h_;(try simp only [h_]);revert h_)|apply And.intro|with_reducible intro h_|trivial|simp only [go_sem,ai];omega)
   ·have wD:[4*(c:Int),i].getD k 0/4=(c:Int):=by
     rcases hk with ⟨rfl,_⟩|⟨rfl,_⟩|⟨rfl,_⟩
     ·simp only [List.getD_cons_zero];omega
     ·simpa using hid
     ·omega
    have hk01:k<2:=by omega
    have Gl:L<=l/\l<=L+1:=by
     rcases hk with ⟨_,_,h⟩|⟨_,_,h⟩|⟨h,_⟩
     ·omega
     ·rw [h];split<;>omega
     ·omega
    have JZ:=hg ([4*(c:Int),i].getD k 0);have We:u ([4*(c:Int),i].getD k 0)=true->((k+1=0/\u=u0/\l=L)\/(k+1=1/\u=(if u0 (4*c) then u0 else pU m b 5 (4*c) u0)/\l=L+(if u0 (4*c) then 0 else 1))\/(k+1=2/\l=L+nt m b c s.length)):=fun ht=>by
     rcases hk with ⟨rfl,rfl,rfl⟩|⟨rfl,hu,rfl⟩|⟨rfl,_⟩
     ·simp only [List.getD_cons_zero] at ht;exact .inr (.inl ⟨rfl,by rw [if_pos ht],by rw [if_pos ht];omega⟩)
     ·simp only [List.getD_cons_succ,List.getD_cons_zero] at ht;rw [hu] at ht;exact .inr (.inr ⟨rfl,by rw [BP,if_pos ht];omega⟩)
     ·omega
    have Wg:u ([4*(c:Int),i].getD k 0)=false->((k+1=0/\pU m b 5 ([4*(c:Int),i].getD k 0) u=u0/\l+1=L)\/(k+1=1/\pU m b 5 ([4*(c:Int),i].getD k 0) u=(if u0 (4*c) then u0 else pU m b 5 (4*c) u0)/\l+1=L+(if u0 (4*c) then 0 else 1))\/(k+1=2/\l+1=L+nt m b c s.length)):=fun ht=>by
     rcases hk with ⟨rfl,rfl,rfl⟩|⟨rfl,hu,rfl⟩|⟨rfl,_⟩
     ·have V0: ¬u (4*c)=true:=by simp only [List.getD_cons_zero] at ht;rw [ht];simp
      exact .inr (.inl ⟨rfl,(if_neg V0).symm,by rw [if_neg V0]⟩)
     ·simp only [List.getD_cons_succ,List.getD_cons_zero] at ht;rw [hu] at ht;exact .inr (.inr ⟨rfl,by rw [BP,ht];simp;omega⟩)
     ·omega
    obtain ⟨st,aR⟩: ∃st,[4*(c:Int),i].getD k 0=st:=⟨_,rfl⟩;rw [aR] at wD JZ We Wg
    repeat' (first|omega|(try apply ah);simp only [go_sem,sevalprocAttr,aR,JZ]|apply ag<;>(intro h_;(try simp only [h_]);revert h_)|apply And.intro|with_reducible intro h_|trivial|simp only [go_sem,ai];omega)
    ·refine ⟨_,_,_,?_,?_,⟨k+1,u,g,l,rfl,We (by assumption),uO,hg,rfl,rfl⟩⟩
     ·omega
     ·refine Wk.sub ?_ ?_<;>simp only [go_sem,sevalprocAttr]
    ·have F9:u st=false:=by assumption
     have pd:=y34 (c:=c) u
     refine dn.intro (fun f fr H=> ∃(h:Int) (u':Int->Bool) (g':Int->Option Bool),h/4=c/\pU m b f h u'=pU m b 5 st u/\CX c u'<f/\(∀y,u0 y=true->u' y=true)/\CC g' u'/\
      fr=[(18,I h),(103,I k),(102,I (2:Nat)),(101, .sl 1 5 0 2),(15,I (l+1)),(12, .mp 4),(11, .sl 1 3 0 (4*s.length)),(10, .mp 2),(4, .ptr 1 0),(2, .ptr 0 0),(1,I c)]/\H=[(5, .cells 3 (.ints [4*(c:Int),i])),(4, .fmap 163 (.bools g')),(3, .cells 3 (.ints (eJ m b c (4*s.length)))),(2, .fmap 162 (.ints jm)),(1, .cells 24 (.lst [.nils, .nils,I 0])),(0, .cells 24 (.lst [roI s,roI m,I L]))]) ?_ ?_
     ·refine ⟨5,_,_,?_,st,u,g,wD,rfl,by omega,uO,hg,rfl,rfl⟩;refine Wk.sub ?_ ?_<;>simp only [go_sem,sevalprocAttr]
     rintro f fr H ⟨h,u',g',vN,AG,hfr',wB,qx,rfl,rfl⟩;have Cc:=qx h;have ejh:=uf h vN;have ug:=qc b h;have Oa:=hp.ok.2 (aF b h).toNat (by omega);cases huh:u' h with
     |true=>
      rw [huh] at Cc;rw [Uv huh] at AG
      repeat' (first|omega|(try apply ah);simp only [go_sem,sevalprocAttr,Cc]|apply ag<;>(intro h_;(try simp only [h_]);revert h_)|apply And.intro|with_reducible intro h_|trivial|simp only [go_sem,ai];omega)
      refine ⟨_,_,_,?_,?_,⟨k+1,u',g',l+1,rfl,by rw [AG];exact Wg F9,wB,qx,rfl,rfl⟩⟩
      ·omega
      ·refine Wk.sub ?_ ?_<;>simp only [go_sem,sevalprocAttr]
     |false=>
      rw [huh] at Cc;obtain ⟨f',rfl⟩: ∃f',f=f'+1:=⟨f-1,by omega⟩;rw [HM huh] at AG;have Ox:=Xn (c:=c) (u:=u') (x:=h) (y:=aF b h) vN huh;have DE:u0 h=false:=by
       cases hq:u0 h with
       |false=>rfl
       |true=>have:=wB h hq;rw [huh] at this;cases this
      have uT:=df h vN DE
      repeat' (first|omega|(try apply ah);simp only [go_sem,sevalprocAttr,Cc,ejh]|apply ag<;>(intro h_;(try simp only [h_]);revert h_)|apply And.intro|with_reducible intro h_|trivial|simp only [go_sem,ai];omega)
      refine ⟨f',_,_,?_,?_,⟨cm m b h,lr u' h (aF b h),updB (updB g' h true) (aF b h) true,uT,AG,by omega,fun y hy=>by simp [lr,wB y hy],qx.two h _,rfl,rfl⟩⟩
      ·omega
      ·refine Wk.sub ?_ ?_<;>simp only [go_sem,sevalprocAttr];rfl)
end Go.Proofs.YtjpbeacamoijhaaGreatDoor
