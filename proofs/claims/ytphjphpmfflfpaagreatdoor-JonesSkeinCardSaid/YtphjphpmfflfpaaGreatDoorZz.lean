/- Layer 6: exchange. -/
import Derived.Test.YtphjphpmfflfpaaGreatDoorZy
set_option linter.unusedSimpArgs false
set_option linter.unusedVariables false
namespace Go.Proofs.YtphjphpmfflfpaaGreatDoor
open Go Go.RowKit
set_option maxRecDepth 100000
set_option maxHeartbeats 4000000
theorem IK (s m:List Int) (L:Int) (g:Nat) (cc:List AV) (ch:Int->Bool) (c x:Int) (h0:0<=c) (h1:c<s.length) (aD:cc.all p1=true) (hf:Fn Tryz.prog g (I c::cc) (.bool (ch c))):
  Fn Tryz.prog 126 [I c,I x, .rp (.lst [.fn g cc]) 0, .rp (dgC s m L) 0] (I (ot s ch c)):=by
 unfold ot;refine Fn.intro [.tmp 6] Tryz.func126 rfl rfl (by decide) (by simp [Tryz.ntmps126]) ?_;rw [Tryz.ntmps126]
 repeat' (first|omega|(try apply aj);simp only [go_sem,sevalprocAttr]|apply ag<;>(intro h_;(try simp only [h_]);revert h_)|apply ah|apply ai|apply ae|apply And.intro|with_reducible intro h_|trivial|simp only [go_sem,ak];omega)
 refine ⟨az.fn (by simp only [List.all_cons,gV aD];rfl) hf ?_⟩
 repeat' (first|omega|(try apply aj);simp only [go_sem,sevalprocAttr]|apply ag<;>(intro h_;(try simp only [h_]);revert h_)|apply ah|apply ai|apply ae|apply And.intro|with_reducible intro h_|trivial|simp only [go_sem,ak];omega)
 all_goals simp_all
theorem IJ (g:Nat) (cc:List AV) (ch:Int->Bool) (c:Int) (aD:cc.all p1=true) (hf:Fn Tryz.prog g (I c::cc) (.bool (ch c))):
  Fn Tryz.prog 127 [I c, .rp (.lst [.fn g cc]) 0] (I (qa ch c)):=by
 unfold qa;refine Fn.intro [.tmp 3] Tryz.func127 rfl rfl (by decide) (by simp [Tryz.ntmps127]) ?_;rw [Tryz.ntmps127]
 repeat' (first|omega|(try apply aj);simp only [go_sem,sevalprocAttr]|apply ag<;>(intro h_;(try simp only [h_]);revert h_)|apply ah|apply ai|apply ae|apply And.intro|with_reducible intro h_|trivial|simp only [go_sem,ak];omega)
 refine ⟨az.fn (by simp only [List.all_cons,gV aD];rfl) hf ?_⟩
 repeat' (first|omega|(try apply aj);simp only [go_sem,sevalprocAttr]|apply ag<;>(intro h_;(try simp only [h_]);revert h_)|apply ah|apply ai|apply ae|apply And.intro|with_reducible intro h_|trivial|simp only [go_sem,ak];omega)
 all_goals simp_all
theorem Tw (s m:List Int) (L:Int) (g:Nat) (cc:List AV) (ch:Int->Bool) (hs:s.length<=1000) (iR:qX s s.length) (hm:iP m s.length) (aD:cc.all p1=true) (hf: ∀c:Int,0<=c->c<s.length->Fn Tryz.prog g (I c::cc) (.bool (ch c))):
  Fn Tryz.prog 66 [dgA s m L, .fn g cc] (dgA (zH s ch) (C5 s m ch) L):=by
 have R4:=JL s m L 126 127 [.rp (.lst [.fn g cc]) 0, .rp (dgC s m L) 0] [.rp (.lst [.fn g cc]) 0] (fun c _=>ot s ch c) (qa ch) hs hm rfl rfl
  (fun c x c0 c1 _ _=>IK s m L g cc ch c x c0 c1 aD (hf c c0 c1)) (fun c hc=>⟨IJ g cc ch c aD (hf c (by omega) (by omega)),by
   have:=iR c hc;unfold qa InI;split<;>rcases this with h|h<;>rw [h]<;>omega⟩)
 refine Fn.intro [.cell 4 24] Tryz.func66 rfl rfl (by decide) (by simp [Tryz.ntmps66]) ?_;rw [Tryz.ntmps66]
 repeat' (first|omega|(try apply aj);simp only [go_sem,sevalprocAttr]|apply ag<;>(intro h_;(try simp only [h_]);revert h_)|apply ah|apply ai|apply ae|apply And.intro|with_reducible intro h_|trivial|simp only [go_sem,ak];omega)
 refine ⟨az.kB [0,1] rfl (by simp only [go_sem,sevalprocAttr,gd aD,gb aD,gA aD,gw aD]) (by simp only [go_sem,sevalprocAttr,gd aD,gb aD,gA aD,gw aD]) (by simp only [go_sem,sevalprocAttr,gd aD,gb aD,gA aD,gw aD]) (by simp only [go_sem,sevalprocAttr,gd aD,gb aD,gA aD,gw aD]) ?_ rfl rfl (az.fn ?_ R4 ?_)⟩
 ·rfl
 ·rfl
 repeat' (first|omega|(try apply aj);simp only [go_sem,sevalprocAttr]|apply ag<;>(intro h_;(try simp only [h_]);revert h_)|apply ah|apply ai|apply ae|apply And.intro|with_reducible intro h_|trivial|simp only [go_sem,ak];omega)
theorem Tv (x c:Int):Fn Tryz.prog 108 [I x, .rp (.lst [I c]) 0] (.bool (x==c)):=by
 refine Fn.intro [.tmp 3] Tryz.func108 rfl rfl (by decide) (by simp [Tryz.ntmps108]) ?_;rw [Tryz.ntmps108]
 repeat' (first|omega|(try apply aj);simp only [go_sem,sevalprocAttr]|apply ag<;>(intro h_;(try simp only [h_]);revert h_)|apply ah|apply ai|apply ae|apply And.intro|with_reducible intro h_|trivial|simp only [go_sem,ak];omega)
abbrev yac0:AV:= .agg [.nils, .nils,I 0]
attribute [go_sem] yac0
theorem WK (s m:List Int) (L c:Int) (h0:0<=c) (h1:c<s.length) (hv:dm s m L=true):Fn Tryz.prog 47 [dgA s m L,I c] (.tup [dgA (zH s (· ==c)) (C5 s m (· ==c)) L,I 0]):=by
 have v1:=jC hv;have uO:=v1.s64;have hf:=Tw s m L 108 [.rp (.lst [I c]) 0] (· ==c) (by omega) v1.sg v1.dd.ok rfl (fun x _ _=>Tv x c);refine Fn.intro [.cell 4 24, .tmp 5] Tryz.func47 rfl rfl (by decide) (by simp [Tryz.ntmps47]) ?_;rw [Tryz.ntmps47]
 repeat' (first|omega|(try apply aj);simp only [go_sem,sevalprocAttr]|apply ag<;>(intro h_;(try simp only [h_]);revert h_)|apply ah|apply ai|apply ae|apply And.intro|with_reducible intro h_|trivial|simp only [go_sem,ak];omega)
 refine ⟨az.fn rfl (tP s m L) ?_⟩;rw [hv]
 repeat' (first|omega|(try apply aj);simp only [go_sem,sevalprocAttr]|apply ag<;>(intro h_;(try simp only [h_]);revert h_)|apply ah|apply ai|apply ae|apply And.intro|with_reducible intro h_|trivial|simp only [go_sem,ak];omega)
 refine ⟨az.kB [1] rfl (by simp only [go_sem,sevalprocAttr]) (by simp only [go_sem,sevalprocAttr]) (by simp only [go_sem,sevalprocAttr]) (by simp only [go_sem,sevalprocAttr]) rfl rfl rfl (az.fn rfl hf ?_)⟩
 repeat' (first|omega|(try apply aj);simp only [go_sem,sevalprocAttr]|apply ag<;>(intro h_;(try simp only [h_]);revert h_)|apply ah|apply ai|apply ae|apply And.intro|with_reducible intro h_|trivial|simp only [go_sem,ak];omega)
theorem WJ (l:List Int) (h:0<l.length) (hb:l.length<=100000):qg Tryz.prog 109 [roI l] (.sl 1 0 0 l.length) [(0, .cells 3 (.ints l))]:=by
 refine qg.intro [.tmp 2] Tryz.func109 rfl rfl (by decide) (by simp [Tryz.ntmps109]) ?_;rw [Tryz.ntmps109]
 repeat' (first|omega|(try apply aj);simp only [go_sem,sevalprocAttr]|apply ag<;>(intro h_;(try simp only [h_]);revert h_)|apply ah|apply ai|apply ae|apply And.intro|with_reducible intro h_|trivial|simp only [go_sem,ak];omega)
theorem S2 (s m:List Int) (c:Nat) (L:Int) (hs:s.length<=1000) (hm:iP m s.length):Fn Tryz.prog 110 [roI s,roI m,I c,I L] (dgA (dZ s c s.length) (bO m c s.length) L):=by
 have fB:=hm.1;refine Fn.au [.cell 8 24] Tryz.func110 rfl rfl (by decide) (by simp [Tryz.ntmps110]) ?_;rw [Tryz.ntmps110]
 repeat' (first|omega|(try apply aj);simp only [go_sem,sevalprocAttr]|apply ag<;>(intro h_;(try simp only [h_]);revert h_)|apply ah|apply ai|apply ae|apply And.intro|with_reducible intro h_|trivial|simp only [go_sem,ak];omega)
 refine bN.intro (fun n fr H=> ∃k:Nat,k<=s.length/\n=s.length-k/\fr=[(18,I k),(17,I s.length),(16,roI s),(9, .ptr 1 0),(8, .ptr 0 0),(1,roI m),(2,I c)]/\((dZ s c k=[]/\bO m c k=[]/\H=[(1, .cells 24 (.lst [.nils, .nils,I L])),(0, .cells 24 (.lst [.nils, .nils,I 0]))])\/H=[(5, .cells 3 (.ints (bO m c k))),(3, .cells 3 (.ints (dZ s c k))),(1, .cells 24 (.lst [.sl 1 3 0 (dZ s c k).length, .sl 1 5 0 (bO m c k).length,I L])),(0, .cells 24 (.lst [.nils, .nils,I 0]))])) ?_ ?_
 ·refine ⟨_,_,_,?_,0,by omega,rfl,rfl, .inl ⟨rfl,rfl,rfl⟩⟩;refine Wk.sub ?_ ?_<;>simp only [go_sem,sevalprocAttr]
 rintro n fr H ⟨k,hk,rfl,rfl,gO⟩;have wl1:=Nh s c k;have wl2:=Ng m c k;by_cases bJ:k<s.length
 ·rcases gO with ⟨Fl,uq,rfl⟩|rfl
  ·repeat' (first|omega|(try apply aj);simp only [go_sem,sevalprocAttr]|apply ag<;>(intro h_;(try simp only [h_]);revert h_)|apply ah|apply ai|apply ae|apply And.intro|with_reducible intro h_|trivial|simp only [go_sem,ak];omega)
   ·have ek:dZ s c (k+1)=dZ s c k/\bO m c (k+1)=bO m c k:=by
     have:k=c:=by omega
     simp [dZ,bO,this]
    refine ⟨_,_,_,?_,?_,⟨k+1,by omega,rfl,rfl, .inl ⟨by rw [ek.1];exact Fl,by rw [ek.2];exact uq,rfl⟩⟩⟩
    ·omega
    ·refine Wk.sub ?_ ?_<;>simp only [go_sem,sevalprocAttr]
     all_goals simp_all
   ·have rU:k≠c:=by omega
    have ek:dZ s c (k+1)=dZ s c k++[s.getD k 0]/\bO m c (k+1)=cv m c k (bO m c k) 4:=by
     simp [dZ,bO,rU]
    refine bN.intro (fun j fr H=> ∃x:Nat,x<=4/\j=4-x/\fr=[(32,I x),(10,I k),(18,I k),(17,I s.length),(16,roI s),(9, .ptr 1 0),(8, .ptr 0 0),(1,roI m),(2,I c)]/\((x=0/\bO m c k=[]/\H=[(3, .cells 3 (.ints (dZ s c k++[s.getD k 0]))),(1, .cells 24 (.lst [.sl 1 3 0 (dZ s c k++[s.getD k 0]).length, .nils,I L])),(0, .cells 24 (.lst [.nils, .nils,I 0]))])\/H=[(5, .cells 3 (.ints (cv m c k (bO m c k) x))),(3, .cells 3 (.ints (dZ s c k++[s.getD k 0]))),(1, .cells 24 (.lst [.sl 1 3 0 (dZ s c k++[s.getD k 0]).length, .sl 1 5 0 (cv m c k (bO m c k) x).length,I L])),(0, .cells 24 (.lst [.nils, .nils,I 0]))])) ?_ ?_
    ·refine ⟨_,_,_,?_,0,by omega,rfl,rfl, .inl ⟨rfl,uq,rfl⟩⟩;refine Wk.sub ?_ ?_<;>simp only [go_sem,sevalprocAttr]
     all_goals simp_all [cv]
    rintro j fr H ⟨x,hx,rfl,rfl,dr⟩;have Xu:=Ez m c k (bO m c k) x;by_cases Ku:x<4
    ·have ju:=hm.2 (4*k+x) (by omega);have e0:(4*(k:Int)+x).toNat=4*k+x:=by omega
     have e2:(m.getD (4*k+x) 0).tdiv 4=m.getD (4*k+x) 0/4:=sW ju.1;have eW:cv m c k (bO m c k) (x+1)=cv m c k (bO m c k) x++[cb m c (4*k+x)]:=rfl;rcases dr with ⟨rfl,BR,rfl⟩|rfl
     ·have xn:=hm.2 (4*k) (by omega);have e3:(4*(k:Int)).toNat=4*k:=by omega
      have e4:(m.getD (4*k) 0).tdiv 4=m.getD (4*k) 0/4:=sW xn.1
      repeat' (first|omega|(try apply aj);simp only [go_sem,sevalprocAttr,e3,e4]|apply ag<;>(intro h_;(try simp only [h_]);revert h_)|apply ah|apply ai|apply ae|apply And.intro|with_reducible intro h_|trivial|simp only [go_sem,ak];omega)
      ·have hcut:cb m c (4*k)=m.getD (4*k) 0-4:=by unfold cb;rw [if_pos (by omega)]
       have e5:cv m c k (bO m c k) 1=[m.getD (4*k) 0-4]:=by simp only [cv,BR,Nat.add_zero,hcut,List.nil_append]
       refine ⟨_,_,_,?_,?_,⟨1,by omega,rfl,rfl, .inr rfl⟩⟩
       ·omega
       ·refine Wk.sub ?_ ?_<;>(simp only [go_sem,sevalprocAttr,e5])
      ·have hcut:cb m c (4*k)=m.getD (4*k) 0:=by unfold cb;rw [if_neg (by omega)]
       have e5:cv m c k (bO m c k) 1=[m.getD (4*k) 0]:=by simp only [cv,BR,Nat.add_zero,hcut,List.nil_append]
       refine ⟨_,_,_,?_,?_,⟨1,by omega,rfl,rfl, .inr rfl⟩⟩
       ·omega
       ·refine Wk.sub ?_ ?_<;>(simp only [go_sem,sevalprocAttr,e5])
     ·repeat' (first|omega|(try apply aj);simp only [go_sem,sevalprocAttr,e0,e2]|apply ag<;>(intro h_;(try simp only [h_]);revert h_)|apply ah|apply ai|apply ae|apply And.intro|with_reducible intro h_|trivial|simp only [go_sem,ak];omega)
      ·have hcut:cb m c (4*k+x)=m.getD (4*k+x) 0-4:=by unfold cb;rw [if_pos (by omega)]
       refine ⟨_,_,_,?_,?_,⟨x+1,by omega,rfl,rfl, .inr rfl⟩⟩
       ·omega
       ·refine Wk.sub ?_ ?_<;>(simp only [go_sem,sevalprocAttr,eW,hcut,List.length_append])
      ·have hcut:cb m c (4*k+x)=m.getD (4*k+x) 0:=by unfold cb;rw [if_neg (by omega)]
       refine ⟨_,_,_,?_,?_,⟨x+1,by omega,rfl,rfl, .inr rfl⟩⟩
       ·omega
       ·refine Wk.sub ?_ ?_<;>(simp only [go_sem,sevalprocAttr,eW,hcut,List.length_append])
    ·obtain rfl:x=4:=by omega
     rcases dr with ⟨h4,_⟩|rfl
     ·omega
     ·repeat' (first|omega|(try apply aj);simp only [go_sem,sevalprocAttr]|apply ag<;>(intro h_;(try simp only [h_]);revert h_)|apply ah|apply ai|apply ae|apply And.intro|with_reducible intro h_|trivial|simp only [go_sem,ak];omega)
      refine ⟨_,_,_,?_,?_,⟨k+1,by omega,rfl,rfl, .inr rfl⟩⟩
      ·omega
      ·refine Wk.sub ?_ ?_<;>(simp only [go_sem,sevalprocAttr,ek.1,ek.2,List.length_append])
  ·repeat' (first|omega|(try apply aj);simp only [go_sem,sevalprocAttr]|apply ag<;>(intro h_;(try simp only [h_]);revert h_)|apply ah|apply ai|apply ae|apply And.intro|with_reducible intro h_|trivial|simp only [go_sem,ak];omega)
   ·have ek:dZ s c (k+1)=dZ s c k/\bO m c (k+1)=bO m c k:=by
     have:k=c:=by omega
     simp [dZ,bO,this]
    refine ⟨_,_,_,?_,?_,⟨k+1,by omega,rfl,rfl, .inr rfl⟩⟩
    ·omega
    ·refine Wk.sub ?_ ?_<;>simp only [go_sem,sevalprocAttr]
     all_goals simp_all
   ·have rU:k≠c:=by omega
    have ek:dZ s c (k+1)=dZ s c k++[s.getD k 0]/\bO m c (k+1)=cv m c k (bO m c k) 4:=by
     simp [dZ,bO,rU]
    refine bN.intro (fun j fr H=> ∃x:Nat,x<=4/\j=4-x/\fr=[(32,I x),(10,I k),(18,I k),(17,I s.length),(16,roI s),(9, .ptr 1 0),(8, .ptr 0 0),(1,roI m),(2,I c)]/\((x=0/\bO m c k=[]/\H=[(3, .cells 3 (.ints (dZ s c k++[s.getD k 0]))),(1, .cells 24 (.lst [.sl 1 3 0 (dZ s c k++[s.getD k 0]).length, .nils,I L])),(0, .cells 24 (.lst [.nils, .nils,I 0]))])\/H=[(5, .cells 3 (.ints (cv m c k (bO m c k) x))),(3, .cells 3 (.ints (dZ s c k++[s.getD k 0]))),(1, .cells 24 (.lst [.sl 1 3 0 (dZ s c k++[s.getD k 0]).length, .sl 1 5 0 (cv m c k (bO m c k) x).length,I L])),(0, .cells 24 (.lst [.nils, .nils,I 0]))])) ?_ ?_
    ·refine ⟨_,_,_,?_,0,by omega,rfl,rfl, .inr rfl⟩;refine Wk.sub ?_ ?_<;>simp only [go_sem,sevalprocAttr]
     all_goals simp_all [cv]
    rintro j fr H ⟨x,hx,rfl,rfl,dr⟩;have Xu:=Ez m c k (bO m c k) x;by_cases Ku:x<4
    ·have ju:=hm.2 (4*k+x) (by omega);have e0:(4*(k:Int)+x).toNat=4*k+x:=by omega
     have e2:(m.getD (4*k+x) 0).tdiv 4=m.getD (4*k+x) 0/4:=sW ju.1;have eW:cv m c k (bO m c k) (x+1)=cv m c k (bO m c k) x++[cb m c (4*k+x)]:=rfl;rcases dr with ⟨rfl,BR,rfl⟩|rfl
     ·have xn:=hm.2 (4*k) (by omega);have e3:(4*(k:Int)).toNat=4*k:=by omega
      have e4:(m.getD (4*k) 0).tdiv 4=m.getD (4*k) 0/4:=sW xn.1
      repeat' (first|omega|(try apply aj);simp only [go_sem,sevalprocAttr,e3,e4]|apply ag<;>(intro h_;(try simp only [h_]);revert h_)|apply ah|apply ai|apply ae|apply And.intro|with_reducible intro h_|trivial|simp only [go_sem,ak];omega)
      ·have hcut:cb m c (4*k)=m.getD (4*k) 0-4:=by unfold cb;rw [if_pos (by omega)]
       have e5:cv m c k (bO m c k) 1=[m.getD (4*k) 0-4]:=by simp only [cv,BR,Nat.add_zero,hcut,List.nil_append]
       refine ⟨_,_,_,?_,?_,⟨1,by omega,rfl,rfl, .inr rfl⟩⟩
       ·omega
       ·refine Wk.sub ?_ ?_<;>(simp only [go_sem,sevalprocAttr,e5])
      ·have hcut:cb m c (4*k)=m.getD (4*k) 0:=by unfold cb;rw [if_neg (by omega)]
       have e5:cv m c k (bO m c k) 1=[m.getD (4*k) 0]:=by simp only [cv,BR,Nat.add_zero,hcut,List.nil_append]
       refine ⟨_,_,_,?_,?_,⟨1,by omega,rfl,rfl, .inr rfl⟩⟩
       ·omega
       ·refine Wk.sub ?_ ?_<;>(simp only [go_sem,sevalprocAttr,e5])
     ·repeat' (first|omega|(try apply aj);simp only [go_sem,sevalprocAttr,e0,e2]|apply ag<;>(intro h_;(try simp only [h_]);revert h_)|apply ah|apply ai|apply ae|apply And.intro|with_reducible intro h_|trivial|simp only [go_sem,ak];omega)
      ·have hcut:cb m c (4*k+x)=m.getD (4*k+x) 0-4:=by unfold cb;rw [if_pos (by omega)]
       refine ⟨_,_,_,?_,?_,⟨x+1,by omega,rfl,rfl, .inr rfl⟩⟩
       ·omega
       ·refine Wk.sub ?_ ?_<;>(simp only [go_sem,sevalprocAttr,eW,hcut,List.length_append])
      ·have hcut:cb m c (4*k+x)=m.getD (4*k+x) 0:=by unfold cb;rw [if_neg (by omega)]
       refine ⟨_,_,_,?_,?_,⟨x+1,by omega,rfl,rfl, .inr rfl⟩⟩
       ·omega
       ·refine Wk.sub ?_ ?_<;>(simp only [go_sem,sevalprocAttr,eW,hcut,List.length_append])
    ·obtain rfl:x=4:=by omega
     rcases dr with ⟨h4,_⟩|rfl
     ·omega
     ·repeat' (first|omega|(try apply aj);simp only [go_sem,sevalprocAttr]|apply ag<;>(intro h_;(try simp only [h_]);revert h_)|apply ah|apply ai|apply ae|apply And.intro|with_reducible intro h_|trivial|simp only [go_sem,ak];omega)
      refine ⟨_,_,_,?_,?_,⟨k+1,by omega,rfl,rfl, .inr rfl⟩⟩
      ·omega
      ·refine Wk.sub ?_ ?_<;>(simp only [go_sem,sevalprocAttr,ek.1,ek.2,List.length_append])
 ·obtain rfl:k=s.length:=by omega
  rcases gO with ⟨Fl,uq,rfl⟩|rfl
  ·repeat' (first|omega|(try apply aj);simp only [go_sem,sevalprocAttr]|apply ag<;>(intro h_;(try simp only [h_]);revert h_)|apply ah|apply ai|apply ae|apply And.intro|with_reducible intro h_|trivial|simp only [go_sem,ak];omega)
   rw [Fl,uq];exact aM.j7 (.cons (aM.nils (by omega) rfl) (.cons (aM.nils (by omega) rfl) (.cons (aM.refl _) .nil)))
  ·repeat' (first|omega|(try apply aj);simp only [go_sem,sevalprocAttr]|apply ag<;>(intro h_;(try simp only [h_]);revert h_)|apply ah|apply ai|apply ae|apply And.intro|with_reducible intro h_|trivial|simp only [go_sem,ak];omega)
   exact aM.of (by rw [List.take_of_length_le (by omega),List.take_of_length_le (by omega)])
end Go.Proofs.YtphjphpmfflfpaaGreatDoor
