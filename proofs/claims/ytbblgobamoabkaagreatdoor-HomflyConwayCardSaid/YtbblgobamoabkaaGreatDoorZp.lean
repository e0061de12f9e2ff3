/- Layer 6: switched crossings. -/
import Derived.Test.YtbblgobamoabkaaGreatDoorZo
import Derived.Test.YtbblgobamoabkaaGreatDoorZa
set_option linter.unusedSimpArgs false
set_option linter.unusedVariables false
namespace Go.Proofs.YtbblgobamoabkaaGreatDoor
open Go Go.RowKit
set_option maxRecDepth 100000
set_option maxHeartbeats 4000000
theorem yrw (x c:Int):Fn Tryz.prog 110 [I x, .rp (.lst [I c]) 0] (.bool (x==c)):=by
 refine Fn.intro [.tmp 3] Tryz.func110 rfl rfl (by decide) (by simp [Tryz.ntmps110]) ?_;rw [Tryz.ntmps110]
 repeat' (first|omega|(try apply yaa);simp only [go_sem,sevalprocAttr]|apply yab<;>(intro h_;(try simp only [h_]);revert h_)|apply And.intro|with_reducible intro h_|trivial|simp only [go_sem,la2];omega)
abbrev y68:AV:= .agg [.nils, .nils,I 0]
attribute [go_sem] y68
theorem yyo (s m:List Int) (L c:Int) (h0:0<=c) (h1:c<s.length) (hv:yap s m L=true):Fn Tryz.prog 69 [dgA s m L,I c] (.tup [dgA (exS s (· ==c)) (exM s m (· ==c)) L,I 0]):=by
 have v1:=yas hv
 have h64:=v1.s64
 have hf:=yrv s m L 110 [.rp (.lst [I c]) 0] (· ==c) (by omega) v1.sg v1.prd.ok rfl (fun x _ _=>yrw x c)
 refine Fn.intro [.cell 4 24, .tmp 5] Tryz.func69 rfl rfl (by decide) (by simp [Tryz.ntmps69]) ?_;rw [Tryz.ntmps69]
 repeat' (first|omega|(try apply yaa);simp only [go_sem,sevalprocAttr]|apply yab<;>(intro h_;(try simp only [h_]);revert h_)|apply And.intro|with_reducible intro h_|trivial|simp only [go_sem,la2];omega)
 refine ⟨yad.fn rfl (ydq s m L) ?_⟩
 rw [hv]
 repeat' (first|omega|(try apply yaa);simp only [go_sem,sevalprocAttr]|apply yab<;>(intro h_;(try simp only [h_]);revert h_)|apply And.intro|with_reducible intro h_|trivial|simp only [go_sem,la2];omega)
 refine ⟨yad.frz [1] rfl (by simp only [go_sem,sevalprocAttr]) (by simp only [go_sem,sevalprocAttr]) (by simp only [go_sem,sevalprocAttr]) (by simp only [go_sem,sevalprocAttr]) rfl rfl rfl (yad.fn rfl hf ?_)⟩
 repeat' (first|omega|(try apply yaa);simp only [go_sem,sevalprocAttr]|apply yab<;>(intro h_;(try simp only [h_]);revert h_)|apply And.intro|with_reducible intro h_|trivial|simp only [go_sem,la2];omega)
end Go.Proofs.YtbblgobamoabkaaGreatDoor
set_option linter.unusedSimpArgs false
set_option linter.unusedVariables false
namespace Go.Proofs.YtbblgobamoabkaaGreatDoor
open Go Go.RowKit
set_option maxRecDepth 100000
set_option maxHeartbeats 4000000
theorem yyp (l:List Int) (h:0<l.length) (hb:l.length<=100000):FnO Tryz.prog 107 [roI l] (.sl 1 0 0 l.length) [(0, .cells 3 (.ints l))]:=by
 refine FnO.intro [.tmp 2] Tryz.func107 rfl rfl (by decide) (by simp [Tryz.ntmps107]) ?_;rw [Tryz.ntmps107]
 repeat' (first|omega|(try apply yaa);simp only [go_sem,sevalprocAttr]|apply yab<;>(intro h_;(try simp only [h_]);revert h_)|apply And.intro|with_reducible intro h_|trivial|simp only [go_sem,la2];omega)
end Go.Proofs.YtbblgobamoabkaaGreatDoor
set_option linter.unusedSimpArgs false
set_option linter.unusedVariables false
namespace Go.Proofs.YtbblgobamoabkaaGreatDoor
open Go Go.RowKit
set_option maxRecDepth 100000
set_option maxHeartbeats 4000000
theorem yvd (s m:List Int) (c:Nat) (L:Int) (hs:s.length<=1000) (hm:yci m s.length):Fn Tryz.prog 108 [roI s,roI m,I c,I L] (dgA (woS s c s.length) (woM m c s.length) L):=by
 have hml:=hm.1
 refine Fn.introL [.cell 8 24] Tryz.func108 rfl rfl (by decide) (by simp [Tryz.ntmps108]) ?_;rw [Tryz.ntmps108]
 repeat' (first|omega|(try apply yaa);simp only [go_sem,sevalprocAttr]|apply yab<;>(intro h_;(try simp only [h_]);revert h_)|apply And.intro|with_reducible intro h_|trivial|simp only [go_sem,la2];omega)
 refine yal.intro (fun n fr H=> ∃k:Nat,k<=s.length/\n=s.length-k/\fr=[(18,I k),(17,I s.length),(16,roI s),(9, .ptr 1 0),(8, .ptr 0 0),(1,roI m),(2,I c)]/\((woS s c k=[]/\woM m c k=[]/\H=[(1, .cells 24 (.lst [.nils, .nils,I L])),(0, .cells 24 (.lst [.nils, .nils,I 0]))])\/H=[(5, .cells 3 (.ints (woM m c k))),(3, .cells 3 (.ints (woS s c k))),(1, .cells 24 (.lst [.sl 1 3 0 (woS s c k).length, .sl 1 5 0 (woM m c k).length,I L])),(0, .cells 24 (.lst [.nils, .nils,I 0]))])) ?_ ?_
 ·refine ⟨_,_,_,?_,0,by omega,rfl,rfl, .inl ⟨rfl,rfl,rfl⟩⟩
  refine Wk.sub ?_ ?_<;>simp only [go_sem,sevalprocAttr]
 rintro n fr H ⟨k,hk,rfl,rfl,hcase⟩
 have wl1:=ysj s c k
 have wl2:=ysk m c k
 by_cases hkl:k<s.length
 ·rcases hcase with ⟨hn1,hn2,rfl⟩|rfl
  ·repeat' (first|omega|(try apply yaa);simp only [go_sem,sevalprocAttr]|apply yab<;>(intro h_;(try simp only [h_]);revert h_)|apply And.intro|with_reducible intro h_|trivial|simp only [go_sem,la2];omega)
   ·have ek:woS s c (k+1)=woS s c k/\woM m c (k+1)=woM m c k:=by
     have:k=c:=by omega
     simp [woS,woM,this]
    refine ⟨_,_,_,?_,?_,⟨k+1,by omega,rfl,rfl, .inl ⟨by rw [ek.1];exact hn1,by rw [ek.2];exact hn2,rfl⟩⟩⟩
    ·omega
    ·refine Wk.sub ?_ ?_<;>simp only [go_sem,sevalprocAttr]
     all_goals simp_all
   ·have hkc:k≠c:=by omega
    have ek:woS s c (k+1)=woS s c k++[s.getD k 0]/\woM m c (k+1)=woM4 m c k (woM m c k) 4:=by
     simp [woS,woM,hkc]
    refine yal.intro (fun j fr H=> ∃x:Nat,x<=4/\j=4-x/\fr=[(32,I x),(10,I k),(18,I k),(17,I s.length),(16,roI s),(9, .ptr 1 0),(8, .ptr 0 0),(1,roI m),(2,I c)]/\((x=0/\woM m c k=[]/\H=[(3, .cells 3 (.ints (woS s c k++[s.getD k 0]))),(1, .cells 24 (.lst [.sl 1 3 0 (woS s c k++[s.getD k 0]).length, .nils,I L])),(0, .cells 24 (.lst [.nils, .nils,I 0]))])\/H=[(5, .cells 3 (.ints (woM4 m c k (woM m c k) x))),(3, .cells 3 (.ints (woS s c k++[s.getD k 0]))),(1, .cells 24 (.lst [.sl 1 3 0 (woS s c k++[s.getD k 0]).length, .sl 1 5 0 (woM4 m c k (woM m c k) x).length,I L])),(0, .cells 24 (.lst [.nils, .nils,I 0]))])) ?_ ?_
    ·refine ⟨_,_,_,?_,0,by omega,rfl,rfl, .inl ⟨rfl,hn2,rfl⟩⟩
     refine Wk.sub ?_ ?_<;>simp only [go_sem,sevalprocAttr]
     all_goals simp_all [woM4]
    rintro j fr H ⟨x,hx,rfl,rfl,hin⟩
    have wl4:=yh6 m c k (woM m c k) x
    by_cases hx4:x<4
    ·have hmr:=hm.2 (4*k+x) (by omega)
     have e0:(4*(k:Int)+x).toNat=4*k+x:=by omega
     have e2:(m.getD (4*k+x) 0).tdiv 4=m.getD (4*k+x) 0/4:=ycc hmr.1
     have eW:woM4 m c k (woM m c k) (x+1)=woM4 m c k (woM m c k) x++[cutM m c (4*k+x)]:=rfl
     rcases hin with ⟨rfl,hwn,rfl⟩|rfl
     ·have hmr0:=hm.2 (4*k) (by omega)
      have e3:(4*(k:Int)).toNat=4*k:=by omega
      have e4:(m.getD (4*k) 0).tdiv 4=m.getD (4*k) 0/4:=ycc hmr0.1
      repeat' (first|omega|(try apply yaa);simp only [go_sem,sevalprocAttr,e3,e4]|apply yab<;>(intro h_;(try simp only [h_]);revert h_)|apply And.intro|with_reducible intro h_|trivial|simp only [go_sem,la2];omega)
      ·have hcut:cutM m c (4*k)=m.getD (4*k) 0-4:=by unfold cutM;rw [if_pos (by omega)]
       have e5:woM4 m c k (woM m c k) 1=[m.getD (4*k) 0-4]:=by simp only [woM4,hwn,Nat.add_zero,hcut,List.nil_append]
       refine ⟨_,_,_,?_,?_,⟨1,by omega,rfl,rfl, .inr rfl⟩⟩
       ·omega
       ·refine Wk.sub ?_ ?_<;>(simp only [go_sem,sevalprocAttr,e5])
      ·have hcut:cutM m c (4*k)=m.getD (4*k) 0:=by unfold cutM;rw [if_neg (by omega)]
       have e5:woM4 m c k (woM m c k) 1=[m.getD (4*k) 0]:=by simp only [woM4,hwn,Nat.add_zero,hcut,List.nil_append]
       refine ⟨_,_,_,?_,?_,⟨1,by omega,rfl,rfl, .inr rfl⟩⟩
       ·omega
       ·refine Wk.sub ?_ ?_<;>(simp only [go_sem,sevalprocAttr,e5])
     ·repeat' (first|omega|(try apply yaa);simp only [go_sem,sevalprocAttr,e0,e2]|apply yab<;>(intro h_;(try simp only [h_]);revert h_)|apply And.intro|with_reducible intro h_|trivial|simp only [go_sem,la2];omega)
      ·have hcut:cutM m c (4*k+x)=m.getD (4*k+x) 0-4:=by unfold cutM;rw [if_pos (by omega)]
       refine ⟨_,_,_,?_,?_,⟨x+1,by omega,rfl,rfl, .inr rfl⟩⟩
       ·omega
       ·refine Wk.sub ?_ ?_<;>(simp only [go_sem,sevalprocAttr,eW,hcut,List.length_append])
      ·have hcut:cutM m c (4*k+x)=m.getD (4*k+x) 0:=by unfold cutM;rw [if_neg (by omega)]
       refine ⟨_,_,_,?_,?_,⟨x+1,by omega,rfl,rfl, .inr rfl⟩⟩
       ·omega
       ·refine Wk.sub ?_ ?_<;>(simp only [go_sem,sevalprocAttr,eW,hcut,List.length_append])
    ·obtain rfl:x=4:=by omega
     rcases hin with ⟨h4,_⟩|rfl
     ·omega
     ·repeat' (first|omega|(try apply yaa);simp only [go_sem,sevalprocAttr]|apply yab<;>(intro h_;(try simp only [h_]);revert h_)|apply And.intro|with_reducible intro h_|trivial|simp only [go_sem,la2];omega)
      refine ⟨_,_,_,?_,?_,⟨k+1,by omega,rfl,rfl, .inr rfl⟩⟩
      ·omega
      ·refine Wk.sub ?_ ?_<;>(simp only [go_sem,sevalprocAttr,ek.1,ek.2,List.length_append])
  ·repeat' (first|omega|(try apply yaa);simp only [go_sem,sevalprocAttr]|apply yab<;>(intro h_;(try simp only [h_]);revert h_)|apply And.intro|with_reducible intro h_|trivial|simp only [go_sem,la2];omega)
   ·have ek:woS s c (k+1)=woS s c k/\woM m c (k+1)=woM m c k:=by
     have:k=c:=by omega
     simp [woS,woM,this]
    refine ⟨_,_,_,?_,?_,⟨k+1,by omega,rfl,rfl, .inr rfl⟩⟩
    ·omega
    ·refine Wk.sub ?_ ?_<;>simp only [go_sem,sevalprocAttr]
     all_goals simp_all
   ·have hkc:k≠c:=by omega
    have ek:woS s c (k+1)=woS s c k++[s.getD k 0]/\woM m c (k+1)=woM4 m c k (woM m c k) 4:=by
     simp [woS,woM,hkc]
    refine yal.intro (fun j fr H=> ∃x:Nat,x<=4/\j=4-x/\fr=[(32,I x),(10,I k),(18,I k),(17,I s.length),(16,roI s),(9, .ptr 1 0),(8, .ptr 0 0),(1,roI m),(2,I c)]/\((x=0/\woM m c k=[]/\H=[(3, .cells 3 (.ints (woS s c k++[s.getD k 0]))),(1, .cells 24 (.lst [.sl 1 3 0 (woS s c k++[s.getD k 0]).length, .nils,I L])),(0, .cells 24 (.lst [.nils, .nils,I 0]))])\/H=[(5, .cells 3 (.ints (woM4 m c k (woM m c k) x))),(3, .cells 3 (.ints (woS s c k++[s.getD k 0]))),(1, .cells 24 (.lst [.sl 1 3 0 (woS s c k++[s.getD k 0]).length, .sl 1 5 0 (woM4 m c k (woM m c k) x).length,I L])),(0, .cells 24 (.lst [.nils, .nils,I 0]))])) ?_ ?_
    ·refine ⟨_,_,_,?_,0,by omega,rfl,rfl, .inr rfl⟩
     refine Wk.sub ?_ ?_<;>simp only [go_sem,sevalprocAttr]
     all_goals simp_all [woM4]
    rintro j fr H ⟨x,hx,rfl,rfl,hin⟩
    have wl4:=yh6 m c k (woM m c k) x
    by_cases hx4:x<4
    ·have hmr:=hm.2 (4*k+x) (by omega)
     have e0:(4*(k:Int)+x).toNat=4*k+x:=by omega
     have e2:(m.getD (4*k+x) 0).tdiv 4=m.getD (4*k+x) 0/4:=ycc hmr.1
     have eW:woM4 m c k (woM m c k) (x+1)=woM4 m c k (woM m c k) x++[cutM m c (4*k+x)]:=rfl
     rcases hin with ⟨rfl,hwn,rfl⟩|rfl
     ·have hmr0:=hm.2 (4*k) (by omega)
      have e3:(4*(k:Int)).toNat=4*k:=by omega
      have e4:(m.getD (4*k) 0).tdiv 4=m.getD (4*k) 0/4:=ycc hmr0.1
      repeat' (first|omega|(try apply yaa);simp only [go_sem,sevalprocAttr,e3,e4]|apply yab<;>(intro h_;(try simp only [h_]);revert h_)|apply And.intro|with_reducible intro h_|trivial|simp only [go_sem,la2];omega)
      ·have hcut:cutM m c (4*k)=m.getD (4*k) 0-4:=by unfold cutM;rw [if_pos (by omega)]
       have e5:woM4 m c k (woM m c k) 1=[m.getD (4*k) 0-4]:=by simp only [woM4,hwn,Nat.add_zero,hcut,List.nil_append]
       refine ⟨_,_,_,?_,?_,⟨1,by omega,rfl,rfl, .inr rfl⟩⟩
       ·omega
       ·refine Wk.sub ?_ ?_<;>(simp only [go_sem,sevalprocAttr,e5])
      ·have hcut:cutM m c (4*k)=m.getD (4*k) 0:=by unfold cutM;rw [if_neg (by omega)]
       have e5:woM4 m c k (woM m c k) 1=[m.getD (4*k) 0]:=by simp only [woM4,hwn,Nat.add_zero,hcut,List.nil_append]
       refine ⟨_,_,_,?_,?_,⟨1,by omega,rfl,rfl, .inr rfl⟩⟩
       ·omega
       ·refine Wk.sub ?_ ?_<;>(simp only [go_sem,sevalprocAttr,e5])
     ·repeat' (first|omega|(try apply yaa);simp only [go_sem,sevalprocAttr,e0,e2]|apply yab<;>(intro h_;(try simp only [h_]);revert h_)|apply And.intro|with_reducible intro h_|trivial|simp only [go_sem,la2];omega)
      ·have hcut:cutM m c (4*k+x)=m.getD (4*k+x) 0-4:=by unfold cutM;rw [if_pos (by omega)]
       refine ⟨_,_,_,?_,?_,⟨x+1,by omega,rfl,rfl, .inr rfl⟩⟩
       ·omega
       ·refine Wk.sub ?_ ?_<;>(simp only [go_sem,sevalprocAttr,eW,hcut,List.length_append])
      ·have hcut:cutM m c (4*k+x)=m.getD (4*k+x) 0:=by unfold cutM;rw [if_neg (by omega)]
       refine ⟨_,_,_,?_,?_,⟨x+1,by omega,rfl,rfl, .inr rfl⟩⟩
       ·omega
       ·refine Wk.sub ?_ ?_<;>(simp only [go_sem,sevalprocAttr,eW,hcut,List.length_append])
    ·obtain rfl:x=4:=by omega
     rcases hin with ⟨h4,_⟩|rfl
     ·omega
     ·repeat' (first|omega|(try apply yaa);simp only [go_sem,sevalprocAttr]|apply yab<;>(intro h_;(try simp only [h_]);revert h_)|apply And.intro|with_reducible intro h_|trivial|simp only [go_sem,la2];omega)
      refine ⟨_,_,_,?_,?_,⟨k+1,by omega,rfl,rfl, .inr rfl⟩⟩
      ·omega
      ·refine Wk.sub ?_ ?_<;>(simp only [go_sem,sevalprocAttr,ek.1,ek.2,List.length_append])
 ·obtain rfl:k=s.length:=by omega
  rcases hcase with ⟨hn1,hn2,rfl⟩|rfl
  ·repeat' (first|omega|(try apply yaa);simp only [go_sem,sevalprocAttr]|apply yab<;>(intro h_;(try simp only [h_]);revert h_)|apply And.intro|with_reducible intro h_|trivial|simp only [go_sem,la2];omega)
   rw [hn1,hn2]
   exact LeA.aggL (.cons (LeA.nils (by omega) rfl) (.cons (LeA.nils (by omega) rfl) (.cons (LeA.refl _) .nil)))
  ·repeat' (first|omega|(try apply yaa);simp only [go_sem,sevalprocAttr]|apply yab<;>(intro h_;(try simp only [h_]);revert h_)|apply And.intro|with_reducible intro h_|trivial|simp only [go_sem,la2];omega)
   exact LeA.of (by rw [List.take_of_length_le (by omega),List.take_of_length_le (by omega)])
end Go.Proofs.YtbblgobamoabkaaGreatDoor
