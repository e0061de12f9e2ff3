/- Layer 6: a crossing is smoothed. -/
import Derived.Test.YtphjphpmfflfpaaGreatDoorZz
import Derived.Test.YtphjphpmfflfpaaGreatDoorPl
import Derived.Test.YtphjphpmfflfpaaGreatDoorZd
set_option linter.unusedSimpArgs false
set_option linter.unusedVariables false
namespace Go.Proofs.YtphjphpmfflfpaaGreatDoor
open Go Go.RowKit
set_option maxRecDepth 100000
theorem tk_119 : tk Tryz.prog 119 = .map 3 4 := by kernel_rfl
theorem tzv_4 : tzv Tryz.prog 4 = some (.bool false) := by kernel_rfl
attribute [go_sem] tk_119 tzv_4
set_option maxHeartbeats 8000000
def QO:List (List Nat):=[[49,50,51,52,53,54,55,56,57,58],[48,50,51,52,53,54,55,56,57,58],[48,49,51,52,53,54,55,56,57,58],[51,52,53,54,55,56,57,58],[48,49,50,52,53,54,55,56,57,58],[48,49,50,51,53,54,55,56,57,58],[49,50,53,54,55,56,57,58],[48,49,50,51,52,54,55,56,57,58],[48,49,50,51,52,53,56,57,58],[48,49,50,51,52,53,56,57,58],[49,50,51,52,56,57,58],[48,49,50,51,52,53,54,55,58],[48,49,50,51,52,53,54,55,58],[48,49,50,51,52,53,54,55,56,57],[49,50,51,52,53,54,55],[],[]]
def QN:List (List Nat):=[[],[0],[0,1],[],[0,1,2,3],[0,1,2,3,4],[1,2,3],[0,1,2,3,4,5,6],[0,1,2,3,4,5,6,7],[0,1,2,3,4,5,6,7],[1,2,3,4,5,6],[0,1,2,3,4,5,6,7,8,9,10],[0,1,2,3,4,5,6,7,8,9,10],[0,1,2,3,4,5,6,7,8,9,10,11,12],[1,2,3,4,5,6,7,8,9,10],[],[]]
def Kk (f o i:Int):Int->Option Int:=updI (updI (updI (updI (fun _=>none) f o) o f) i (f+2)) (f+2) i
theorem JK (c:Nat) (b:Bool) (x:Int) (hx:x/4=c):(Kk (4*c) (if b then 4*c+3 else 4*c+1) (if b then 4*c+1 else 4*c+3) x).getD 0=aB b x:=by
 have h4:x=4*c\/x=4*c+1\/x=4*c+2\/x=4*c+3:=by omega
 unfold aB;rw [ox,nS];cases b<;>rcases h4 with rfl|rfl|rfl|rfl<;>simp [Kk,updI]<;>(repeat' (first|(split<;>(try simp))|omega))
def rF (c:Nat) (b:Bool):Int:=if b then 4*c+1 else 4*c+3
def Kd (c:Nat) (b:Bool):Int:=if b then 4*c+3 else 4*c+1
theorem Vi (c:Nat) (b:Bool):rF c b/4=c:=by
 unfold rF;cases b
 ·rw [if_neg (by simp)];omega
 ·rw [if_pos rfl];omega
def yb (g:Int->Option Bool) (u:Int->Bool):Prop:= ∀x,(g x).getD false=u x
theorem yb.two {g:Int->Option Bool} {u:Int->Bool} (h:yb g u) (x y:Int):yb (updB (updB g x true) y true) (gC u x y):=by
 intro z;simp only [updB,gC];by_cases e1:z=y
 ·rw [if_pos e1,e1];simp
 ·rw [if_neg e1];by_cases e2:z=x
  ·rw [if_pos e2,e2];simp
  ·have q1:(z==x)=false:=by simpa using e2
   have q2:(z==y)=false:=by simpa using e1
   rw [if_neg e2,h z,q1,q2];simp
theorem Wq (s m:List Int) (L:Int) (c:Nat) (hc:c<s.length) (hL:L<=62) (hv:dm s m L=true) (b:Bool) (hb:(s.getD c 0== -1)=b):
  Fn Tryz.prog 48 [dgA s m L,I c] (.tup [dgA (dZ s c s.length) (bO (cV m b c (4*s.length)) c s.length) (L+jl m b c s.length),I 0]):=by
 have v1:=jC hv;have uO:=v1.s64;have hl:=v1.len;have vN:=v1.l0;have B2:=v1.sg c hc;have hp:=v1.dd;have bC:=WJ m (by omega) (by omega);obtain ⟨i,hi⟩: ∃i,i=rF c b:=⟨_,rfl⟩;obtain ⟨jm,uy⟩: ∃jm,jm=Kk (4*c) (Kd c b) (rF c b):=⟨_,rfl⟩;have o0: ∀x:Int,x/4=c->(jm x).getD 0=aB b x:=fun x hx=>by rw [uy];exact JK c b x hx
 have hid:=Vi c b;rw [←hi] at hid
 have ke:(s.getD c 0= -1/\i=4*c+1/\jm=updI (updI (updI (updI (fun _=>none) (4*c) (4*c+3)) (4*c+3) (4*c)) (4*c+1) (4*c+2)) (4*c+2) (4*c+1))\/
   (s.getD c 0≠ -1/\i=4*c+3/\jm=updI (updI (updI (updI (fun _=>none) (4*c) (4*c+1)) (4*c+1) (4*c)) (4*c+3) (4*c+2)) (4*c+2) (4*c+3)):=by
  cases b
  ·exact .inr ⟨by simpa using hb,hi,uy⟩
  ·exact .inl ⟨by simpa using hb,hi,uy⟩
 have Yk:i=rF c b:=hi;clear uy hi;refine Fn.intro [.cell 4 24, .tmp 5] Tryz.func48 rfl rfl (by decide) (by simp [Tryz.ntmps48]) ?_;rw [Tryz.ntmps48]
 repeat' (first|omega|(try apply aj);simp only [go_sem,sevalprocAttr]|apply ag<;>(intro h_;(try simp only [h_]);revert h_)|apply ah|apply ai|apply ae|apply And.intro|with_reducible intro h_|trivial|simp only [go_sem,ak];omega)
 refine ⟨az.fn rfl (tP s m L) ?_⟩;rw [hv];rcases ke with ⟨nY,Sc,R9⟩|⟨nY,Sc,R9⟩
 all_goals repeat' (first|omega|(first|apply aj|(refine an.intro (id:=10) QO QN (by decide+kernel) mixed ?_)|skip);simp only [go_sem,sevalprocAttr,↓reduceIte,reduceCtorEq,QO,QN]|apply ag<;>(intro h_;(try simp only [h_]);revert h_)|apply ah|apply ai|apply ae|apply And.intro|with_reducible intro h_|trivial|simp only [go_sem,ak];omega)
 all_goals first|(repeat' split)<;>first|omega|rfl|(refine ⟨az.SM rfl bC ?_⟩)
 all_goals repeat' (first|omega|(try apply aj);simp only [go_sem,sevalprocAttr]|apply ag<;>(intro h_;(try simp only [h_]);revert h_)|apply ah|apply ai|apply ae|apply And.intro|with_reducible intro h_|trivial|simp only [go_sem,ak];omega)
 all_goals (
  refine bN.intro (fun n fr H=> ∃(h:Nat) (g:Int->Option Bool),h<=m.length/\n=m.length-h/\yb g (gX m b c h)/\fr=[(67,I h),(66,I m.length),(65,roI m),(12, .mp 4),(11, .sl 1 3 0 m.length),(10, .mp 2),(8,I i),(7,I (4*c)),(4, .ptr 1 0),(2, .ptr 0 0),(1,I c)]/\H=[(4, .fmap 119 (.bools g)),(3, .cells 3 (.ints (cV m b c h))),(2, .fmap 118 (.ints jm)),(1, .cells 24 (.lst [.nils, .nils,I 0])),(0, .cells 24 (.lst [roI s,roI m,I L]))]) ?_ ?_
  ·refine ⟨_,_,_,?_,0,fun _=>none,by omega,rfl,fun _=>rfl,rfl,rfl⟩;refine Wk.sub ?_ ?_<;>simp only [go_sem,sevalprocAttr]
   all_goals simp [Sc,R9,cV]
  rintro n fr H ⟨h,g,hh,rfl,hg,rfl,rfl⟩;have xA:=GX (m:=m) (b:=b) (c:=c) h;by_cases Ct:h<m.length
  ·have e1:(h:Int).tdiv 4=(h/4:Nat):=by rw [sW (by omega)];omega
   have ju:=hp.ok.2 h (by omega)
   repeat' (first|omega|(try apply aj);simp only [go_sem,sevalprocAttr,e1]|apply ag<;>(intro h_;(try simp only [h_]);revert h_)|apply ah|apply ai|apply ae|apply And.intro|with_reducible intro h_|trivial|simp only [go_sem,ak];omega)
   ·have qI:h/4=c:=by omega
    refine ⟨_,_,_,?_,?_,⟨h+1,g,by omega,rfl,?_,rfl,rfl⟩⟩
    ·omega
    ·refine Wk.sub ?_ ?_<;>simp only [go_sem,sevalprocAttr]
     all_goals simp [cV,qI]
    ·simp only [gX,qI,if_true];exact hg
   ·have qI:h/4≠c:=by omega
    have ho:=AJ (b:=b) hp hc (show h<4*s.length by omega) qI
    refine bN.intro (fun f fr H=> ∃(x:Int) (u:Int->Bool) (g:Int->Option Bool),0<=x/\x<4*s.length/\b9 m b c f x=b9 m b c 5 (m.getD h 0)/\thrU m b c f x u=thrU m b c 5 (m.getD h 0) (gX m b c h)/\yb g u/\fr=[(14,I x),(13,I h),(67,I h),(66,I m.length),(65,roI m),(12, .mp 4),(11, .sl 1 3 0 m.length),(10, .mp 2),(8,I i),(7,I (4*c)),(4, .ptr 1 0),(2, .ptr 0 0),(1,I c)]/\H=[(4, .fmap 119 (.bools g)),(3, .cells 3 (.ints (cV m b c h))),(2, .fmap 118 (.ints jm)),(1, .cells 24 (.lst [.nils, .nils,I 0])),(0, .cells 24 (.lst [roI s,roI m,I L]))]) ?_ ?_
    ·refine ⟨5,_,_,?_,m.getD h 0,gX m b c h,g,ju.1,ju.2,rfl,rfl,hg,rfl,rfl⟩;refine Wk.sub ?_ ?_<;>simp only [go_sem,sevalprocAttr]
    rintro f fr H ⟨x,u,g',kW,zc,hX,hU,zx,rfl,rfl⟩;have e2:x.tdiv 4=x/4:=sW kW;by_cases oR:x/4=c
    ·obtain ⟨f',rfl⟩: ∃f',f=f'+1:=by
      cases f with
      |zero=>rw [←hX] at ho;exact absurd oR ho
      |succ f'=>exact ⟨f',rfl⟩
     have ej:=o0 x oR;have o8:=jD b x;have K6:=hp.ok.2 (aB b x).toNat (by omega);rw [Ec oR] at hX;rw [ND oR] at hU
     repeat' (first|omega|(try apply aj);simp only [go_sem,sevalprocAttr,e2,ej]|apply ag<;>(intro h_;(try simp only [h_]);revert h_)|apply ah|apply ai|apply ae|apply And.intro|with_reducible intro h_|trivial|simp only [go_sem,ak];omega)
     refine ⟨f',_,_,?_,?_,⟨m.getD (aB b x).toNat 0,gC u x (aB b x),updB (updB g' x true) (aB b x) true,K6.1,K6.2,hX,hU,zx.two x _,rfl,rfl⟩⟩
     ·omega
     ·refine Wk.sub ?_ ?_<;>simp only [go_sem,sevalprocAttr]
    ·rw [yu oR] at hX;rw [Ni oR] at hU
     repeat' (first|omega|(try apply aj);simp only [go_sem,sevalprocAttr,e2]|apply ag<;>(intro h_;(try simp only [h_]);revert h_)|apply ah|apply ai|apply ae|apply And.intro|with_reducible intro h_|trivial|simp only [go_sem,ak];omega)
     refine ⟨_,_,_,?_,?_,⟨h+1,g',by omega,rfl,?_,rfl,rfl⟩⟩
     ·omega
     ·refine Wk.sub ?_ ?_<;>simp only [go_sem,sevalprocAttr]
      all_goals simp [cV,qI,hX]
     ·simp only [gX,qI,if_false];rw [←hU];exact zx
  ·obtain rfl:h=m.length:=by omega
   rw [hl] at xA hg⊢
   repeat' (first|omega|(try apply aj);simp only [go_sem,sevalprocAttr]|apply ag<;>(intro h_;(try simp only [h_]);revert h_)|apply ah|apply ai|apply ae|apply And.intro|with_reducible intro h_|trivial|simp only [go_sem,ak];omega)
   have XK:=Jv (b:=b) hp hc (4*s.length) (Nat.le_refl _);have dr: ∀x:Int,x/4=c->gX m b c (4*s.length) x=false->bQ m b x/4=(c:Int):=fun x hx hu=>Rf hp hc hx hu;have w7:jl m b c s.length=(if gX m b c (4*s.length) (4*c) then 0 else 1)+(if (if gX m b c (4*s.length) (4*c) then gX m b c (4*s.length) else kO m b 5 (4*c) (gX m b c (4*s.length))) i then 0 else 1):=by
    rw [Yk];rfl
   generalize gX m b c (4*s.length)=u0 at*
   refine bN.intro (fun n fr H=> ∃(k:Nat) (u:Int->Bool) (g:Int->Option Bool) (l:Int),n=2-k/\((k=0/\u=u0/\l=L)\/(k=1/\u=(if u0 (4*c) then u0 else kO m b 5 (4*c) u0)/\l=L+(if u0 (4*c) then 0 else 1))\/(k=2/\l=L+jl m b c s.length))/\(∀y,u0 y=true->u y=true)/\yb g u/\
    fr=[(103,I k),(102,I (2:Nat)),(101, .sl 1 5 0 2),(15,I l),(12, .mp 4),(11, .sl 1 3 0 (4*s.length)),(10, .mp 2),(4, .ptr 1 0),(2, .ptr 0 0),(1,I c)]/\H=[(5, .cells 3 (.ints [4*(c:Int),i])),(4, .fmap 119 (.bools g)),(3, .cells 3 (.ints (cV m b c (4*s.length)))),(2, .fmap 118 (.ints jm)),(1, .cells 24 (.lst [.nils, .nils,I 0])),(0, .cells 24 (.lst [roI s,roI m,I L]))]) ?_ ?_
   ·refine ⟨_,_,_,?_,0,u0,g,L,rfl, .inl ⟨rfl,rfl,rfl⟩,fun _ h=>h,hg,rfl,rfl⟩;refine Wk.sub ?_ ?_<;>simp only [go_sem,sevalprocAttr]
   rintro n fr H ⟨k,u,g,l,rfl,hk,uj,hg,rfl,rfl⟩;by_cases nh:k=2
   ·subst nh;obtain rfl:l=L+jl m b c s.length:=by omega
    have Cn:0<=jl m b c s.length/\jl m b c s.length<=2:=by rw [w7];constructor<;>(repeat' split)<;>omega
    have RJ:=S2 s (cV m b c (4*s.length)) c (L+jl m b c s.length) (by omega) XK
    repeat' (first|omega|(try apply aj);simp only [go_sem,sevalprocAttr]|apply ag<;>(intro h_;(try simp only [h_]);revert h_)|apply ah|apply ai|apply ae|apply And.intro|with_reducible intro h_|trivial|simp only [go_sem,ak];omega)
    have Kw:Fn Tryz.prog 110 [roI s, .ro 1 (4*s.length) (.ints ((cV m b c (4*s.length)).take (4*s.length))),I c,I (L+jl m b c s.length)] (dgA (dZ s c s.length) (bO (cV m b c (4*s.length)) c s.length) (L+jl m b c s.length)):=by
     rw [List.take_of_length_le (by omega)];have e:roI (cV m b c (4*s.length))= .ro 1 (4*s.length) (.ints (cV m b c (4*s.length))):=by unfold roI;rw [xA]
     rw [e] at RJ;exact RJ
    refine ⟨az.kB [3] rfl (by simp only [go_sem,sevalprocAttr,xA,Nat.le_refl]) (by simp only [go_sem,sevalprocAttr,xA,Nat.le_refl]) (by simp only [go_sem,sevalprocAttr,xA,Nat.le_refl]) (by simp only [go_sem,sevalprocAttr,xA,Nat.le_refl]) rfl rfl rfl (az.fn rfl Kw ?_)⟩
    repeat' (first|omega|(try apply aj);simp only [go_sem,sevalprocAttr]|apply ag<;>(intro h_;(try simp only [h_]);revert h_)|apply ah|apply ai|apply ae|apply And.intro|with_reducible intro h_|trivial|simp only [go_sem,ak];omega)
   ·have rJ:[4*(c:Int),i].getD k 0/4=(c:Int):=by
     rcases hk with ⟨rfl,_⟩|⟨rfl,_⟩|⟨rfl,_⟩
     ·simp only [List.getD_cons_zero];omega
     ·simpa using hid
     ·omega
    have Ye:k<2:=by omega
    have Cn:L<=l/\l<=L+1:=by
     rcases hk with ⟨_,_,h⟩|⟨_,_,h⟩|⟨h,_⟩
     ·omega
     ·rw [h];split<;>omega
     ·omega
    have vQ:=hg ([4*(c:Int),i].getD k 0);have R2:u ([4*(c:Int),i].getD k 0)=true->((k+1=0/\u=u0/\l=L)\/(k+1=1/\u=(if u0 (4*c) then u0 else kO m b 5 (4*c) u0)/\l=L+(if u0 (4*c) then 0 else 1))\/(k+1=2/\l=L+jl m b c s.length)):=fun ht=>by
     rcases hk with ⟨rfl,rfl,rfl⟩|⟨rfl,hu,rfl⟩|⟨rfl,_⟩
     ·simp only [List.getD_cons_zero] at ht;exact .inr (.inl ⟨rfl,by rw [if_pos ht],by rw [if_pos ht];omega⟩)
     ·simp only [List.getD_cons_succ,List.getD_cons_zero] at ht;rw [hu] at ht;exact .inr (.inr ⟨rfl,by rw [w7,if_pos ht];omega⟩)
     ·omega
    have R3:u ([4*(c:Int),i].getD k 0)=false->((k+1=0/\kO m b 5 ([4*(c:Int),i].getD k 0) u=u0/\l+1=L)\/(k+1=1/\kO m b 5 ([4*(c:Int),i].getD k 0) u=(if u0 (4*c) then u0 else kO m b 5 (4*c) u0)/\l+1=L+(if u0 (4*c) then 0 else 1))\/(k+1=2/\l+1=L+jl m b c s.length)):=fun ht=>by
     rcases hk with ⟨rfl,rfl,rfl⟩|⟨rfl,hu,rfl⟩|⟨rfl,_⟩
     ·have RS: ¬u (4*c)=true:=by simp only [List.getD_cons_zero] at ht;rw [ht];simp
      exact .inr (.inl ⟨rfl,(if_neg RS).symm,by rw [if_neg RS]⟩)
     ·simp only [List.getD_cons_succ,List.getD_cons_zero] at ht;rw [hu] at ht;exact .inr (.inr ⟨rfl,by rw [w7,ht];simp;omega⟩)
     ·omega
    obtain ⟨st,bo⟩: ∃st,[4*(c:Int),i].getD k 0=st:=⟨_,rfl⟩;rw [bo] at rJ vQ R2 R3
    repeat' (first|omega|(try apply aj);simp only [go_sem,sevalprocAttr,bo,vQ]|apply ag<;>(intro h_;(try simp only [h_]);revert h_)|apply ah|apply ai|apply ae|apply And.intro|with_reducible intro h_|trivial|simp only [go_sem,ak];omega)
    ·refine ⟨_,_,_,?_,?_,⟨k+1,u,g,l,rfl,R2 (by assumption),uj,hg,rfl,rfl⟩⟩
     ·omega
     ·refine Wk.sub ?_ ?_<;>simp only [go_sem,sevalprocAttr]
    ·have B3:u st=false:=by assumption
     have c7:=V3 (c:=c) u
     refine bN.intro (fun f fr H=> ∃(h:Int) (u':Int->Bool) (g':Int->Option Bool),h/4=c/\kO m b f h u'=kO m b 5 st u/\yd c u'<f/\(∀y,u0 y=true->u' y=true)/\yb g' u'/\
      fr=[(18,I h),(103,I k),(102,I (2:Nat)),(101, .sl 1 5 0 2),(15,I (l+1)),(12, .mp 4),(11, .sl 1 3 0 (4*s.length)),(10, .mp 2),(4, .ptr 1 0),(2, .ptr 0 0),(1,I c)]/\H=[(5, .cells 3 (.ints [4*(c:Int),i])),(4, .fmap 119 (.bools g')),(3, .cells 3 (.ints (cV m b c (4*s.length)))),(2, .fmap 118 (.ints jm)),(1, .cells 24 (.lst [.nils, .nils,I 0])),(0, .cells 24 (.lst [roI s,roI m,I L]))]) ?_ ?_
     ·refine ⟨5,_,_,?_,st,u,g,rJ,rfl,by omega,uj,hg,rfl,rfl⟩;refine Wk.sub ?_ ?_<;>simp only [go_sem,sevalprocAttr]
     rintro f fr H ⟨h,u',g',qI,Fs,Yo,rI,zx,rfl,rfl⟩;have xw:=zx h;have Zb:=o0 h qI;have o8:=jD b h;have K6:=hp.ok.2 (aB b h).toNat (by omega);cases huh:u' h with
     |true=>
      rw [huh] at xw;rw [Qs huh] at Fs
      repeat' (first|omega|(try apply aj);simp only [go_sem,sevalprocAttr,xw]|apply ag<;>(intro h_;(try simp only [h_]);revert h_)|apply ah|apply ai|apply ae|apply And.intro|with_reducible intro h_|trivial|simp only [go_sem,ak];omega)
      refine ⟨_,_,_,?_,?_,⟨k+1,u',g',l+1,rfl,by rw [Fs];exact R3 B3,rI,zx,rfl,rfl⟩⟩
      ·omega
      ·refine Wk.sub ?_ ?_<;>simp only [go_sem,sevalprocAttr]
     |false=>
      rw [huh] at xw;obtain ⟨f',rfl⟩: ∃f',f=f'+1:=⟨f-1,by omega⟩;rw [Dk huh] at Fs;have Lq:=Xb (c:=c) (u:=u') (x:=h) (y:=aB b h) qI huh;have zi:u0 h=false:=by
       cases hq:u0 h with
       |false=>rfl
       |true=>have:=rI h hq;rw [huh] at this;cases this
      have X3:=dr h qI zi
      repeat' (first|omega|(try apply aj);simp only [go_sem,sevalprocAttr,xw,Zb]|apply ag<;>(intro h_;(try simp only [h_]);revert h_)|apply ah|apply ai|apply ae|apply And.intro|with_reducible intro h_|trivial|simp only [go_sem,ak];omega)
      refine ⟨f',_,_,?_,?_,⟨bQ m b h,gC u' h (aB b h),updB (updB g' h true) (aB b h) true,X3,Fs,by omega,fun y hy=>by simp [gC,rI y hy],zx.two h _,rfl,rfl⟩⟩
      ·omega
      ·refine Wk.sub ?_ ?_<;>simp only [go_sem,sevalprocAttr];rfl)
def QD:List (List Nat):=[[17,20,21,22,23],[16,20,21,22,23],[20,21,22,23],[20,21,22,23],[16,17,18,19,21],[16,17,18,19,20],[16,17,18,19],[16,17,18,19],[]]
theorem N4:eq2 Tryz.prog 75=true:=by decide+kernel
theorem Jg (p:List (Int×Int)) (hl:p.length<=1000000):Fn Tryz.prog 60 [.ro 2 p.length (.lst (dA p)), .ro 2 p.length (.lst (dA p))] (.bool true):=by
 have hlen:=ybu p;have b0:((p.length:Int)!=p.length)=false:=by simp
 refine Fn.intro [.tmp 4] Tryz.func60 rfl rfl (by decide) (by simp [Tryz.ntmps60]) ?_;rw [Tryz.ntmps60]
 repeat' (first|omega|(try apply aj);simp only [go_sem,sevalprocAttr,b0]|apply ag<;>(intro h_;(try simp only [h_]);revert h_)|apply ah|apply ai|apply ae|apply And.intro|with_reducible intro h_|trivial|simp only [go_sem,ak];omega)
 refine bN.intro (fun n fr H=> ∃k:Nat,k<=p.length/\n=p.length-k/\fr=[(13,I k),(12,I p.length),(1, .ro 2 p.length (.lst (dA p))),(0, .ro 2 p.length (.lst (dA p)))]/\H=[]) ?_ ?_
 ·refine ⟨_,_,_,?_,0,by omega,rfl,rfl,rfl⟩;refine Wk.sub ?_ ?_<;>(simp only [go_sem,sevalprocAttr,yav])
 rintro n fr H ⟨k,hk,rfl,rfl,rfl⟩;by_cases bJ:k<p.length
 ·have g0:=oF p k bJ;have g1:=s6 p k bJ;have b1:((p.getD k (0,0)).1==(p.getD k (0,0)).1)=true:=by simp
  have b2:((p.getD k (0,0)).2==(p.getD k (0,0)).2)=true:=by simp
  repeat' (first|omega|(first|apply aj|(refine an.intro (id:=6) QD [[],[0],[],[],[0,1,2,3],[0,1,2,3,4],[0,1,2,3],[0,1,2,3],[]] (by decide+kernel) mixed ?_)|skip);simp only [go_sem,sevalprocAttr,g0,g1,hlen,b1,b2,N4,↓reduceIte,reduceCtorEq,QD]|apply ag<;>(intro h_;(try simp only [h_]);revert h_)|apply ah|apply ai|apply ae|apply And.intro|with_reducible intro h_|trivial|simp only [go_sem,ak];omega)
  all_goals (first|exact N4|skip)
  refine ⟨_,_,_,?_,?_,⟨k+1,by omega,rfl,rfl,rfl⟩⟩
  ·omega
  ·refine Wk.sub ?_ ?_<;>(simp only [go_sem,sevalprocAttr,yav])
 ·obtain rfl:k=p.length:=by omega
  repeat' (first|omega|(try apply aj);simp only [go_sem,sevalprocAttr]|apply ag<;>(intro h_;(try simp only [h_]);revert h_)|apply ah|apply ai|apply ae|apply And.intro|with_reducible intro h_|trivial|simp only [go_sem,ak];omega)
theorem Vh (p:List (Int×Int)) (hl:p.length<=1000000):Fn Tryz.prog 15 [plA false p,plA false p] (.bool true):=by
 have hS:=Jg p hl;refine Fn.intro [.tmp 4] Tryz.func15 rfl rfl (by decide) (by simp [Tryz.ntmps15]) ?_;rw [Tryz.ntmps15]
 repeat' (first|omega|(try apply aj);simp only [go_sem,sevalprocAttr,yav]|apply ag<;>(intro h_;(try simp only [h_]);revert h_)|apply ah|apply ai|apply ae|apply And.intro|with_reducible intro h_|trivial|simp only [go_sem,ak];omega)
 refine ⟨az.fn rfl hS ?_⟩
 repeat' (first|omega|(try apply aj);simp only [go_sem,sevalprocAttr]|apply ag<;>(intro h_;(try simp only [h_]);revert h_)|apply ah|apply ai|apply ae|apply And.intro|with_reducible intro h_|trivial|simp only [go_sem,ak];omega)
end Go.Proofs.YtphjphpmfflfpaaGreatDoor
