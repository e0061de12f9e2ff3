/- Layer 6: a crossing is left out; copies. -/
import Derived.Test.YtbblgobamoabkaaGreatDoorZl
set_option linter.unusedSimpArgs false
set_option linter.unusedVariables false
namespace Go.Proofs.YtbblgobamoabkaaGreatDoor
open Go Go.RowKit
set_option maxRecDepth 100000
set_option maxHeartbeats 4000000
theorem yu4 (s m:List Int) (c:Nat) (L:Int) (hs:s.length<=1000) (hm:ybn m s.length):Fn Tryz.prog 108 [roI s,roI m,I c,I L] (dgA (woS s c s.length) (woM m c s.length) L):=by
 have hml:=hm.1
 refine Fn.introL [.cell 8 24] Tryz.func108 rfl rfl (by decide) (by simp [Tryz.ntmps108]) ?_;rw [Tryz.ntmps108]
 repeat' (first|omega|(try apply yaa);simp only [go_sem,sevalprocAttr]|apply yab<;>(intro h_;(try simp only [h_]);revert h_)|apply And.intro|with_reducible intro h_|trivial|simp only [go_sem,la2];omega)
 refine yaj.intro (fun n fr H=> ∃k:Nat,k<=s.length/\n=s.length-k/\fr=[(18,I k),(17,I s.length),(16,roI s),(9, .ptr 1 0),(8, .ptr 0 0),(1,roI m),(2,I c)]/\((woS s c k=[]/\woM m c k=[]/\H=[(1, .cells 24 (.lst [.nils, .nils,I L])),(0, .cells 24 (.lst [.nils, .nils,I 0]))])\/H=[(5, .cells 3 (.ints (woM m c k))),(3, .cells 3 (.ints (woS s c k))),(1, .cells 24 (.lst [.sl 1 3 0 (woS s c k).length, .sl 1 5 0 (woM m c k).length,I L])),(0, .cells 24 (.lst [.nils, .nils,I 0]))])) ?_ ?_
 ·refine ⟨_,_,_,?_,0,by omega,rfl,rfl, .inl ⟨rfl,rfl,rfl⟩⟩
  refine Wk.sub ?_ ?_<;>simp only [go_sem,sevalprocAttr]
 rintro n fr H ⟨k,hk,rfl,rfl,hcase⟩
 have wl1:=ym5 s c k
 have wl2:=ym6 m c k
 by_cases hkl:k<s.length
 ·rcases hcase with ⟨hn1,hn2,rfl⟩|rfl
  ·repeat' (first|omega|(try apply yaa);simp only [go_sem,sevalprocAttr]|apply yab<;>(intro h_;(try simp only [h_]);revert h_)|apply And.intro|with_reducible intro h_|trivial|simp only [go_sem,la2];omega)
   ·have ek:woS s c (k+1)=woS s c k/\woM m c (k+1)=woM m c k:=by
     have:k=c:=by omega
     simp [woS,woM,this]
    refine ⟨_,_,_,?_,?_,⟨k+1,by omega,rfl,rfl, .inl ⟨by rw [ek.1];exact hn1,by rw [ek.2];exact hn2,rfl⟩⟩⟩
    ·omega
    ·refine Wk.sub ?_ ?_<;>simp only [go_sem,sevalprocAttr]
     all_goals simp_all
   ·have hkc:k≠c:=by omega
    have ek:woS s c (k+1)=woS s c k++[s.getD k 0]/\woM m c (k+1)=woM4 m c k (woM m c k) 4:=by
     simp [woS,woM,hkc]
    refine yaj.intro (fun j fr H=> ∃x:Nat,x<=4/\j=4-x/\fr=[(32,I x),(10,I k),(18,I k),(17,I s.length),(16,roI s),(9, .ptr 1 0),(8, .ptr 0 0),(1,roI m),(2,I c)]/\((x=0/\woM m c k=[]/\H=[(3, .cells 3 (.ints (woS s c k++[s.getD k 0]))),(1, .cells 24 (.lst [.sl 1 3 0 (woS s c k++[s.getD k 0]).length, .nils,I L])),(0, .cells 24 (.lst [.nils, .nils,I 0]))])\/H=[(5, .cells 3 (.ints (woM4 m c k (woM m c k) x))),(3, .cells 3 (.ints (woS s c k++[s.getD k 0]))),(1, .cells 24 (.lst [.sl 1 3 0 (woS s c k++[s.getD k 0]).length, .sl 1 5 0 (woM4 m c k (woM m c k) x).length,I L])),(0, .cells 24 (.lst [.nils, .nils,I 0]))])) ?_ ?_
    ·refine ⟨_,_,_,?_,0,by omega,rfl,rfl, .inl ⟨rfl,hn2,rfl⟩⟩
     refine Wk.sub ?_ ?_<;>simp only [go_sem,sevalprocAttr]
     all_goals simp_all [woM4]
    rintro j fr H ⟨x,hx,rfl,rfl,hin⟩
    have wl4:=yez m c k (woM m c k) x
    by_cases hx4:x<4
    ·have hmr:=hm.2 (4*k+x) (by omega)
     have e0:(4*(k:Int)+x).toNat=4*k+x:=by omega
     have e2:(m.getD (4*k+x) 0).tdiv 4=m.getD (4*k+x) 0/4:=ybe hmr.1
     have eW:woM4 m c k (woM m c k) (x+1)=woM4 m c k (woM m c k) x++[cutM m c (4*k+x)]:=rfl
     rcases hin with ⟨rfl,hwn,rfl⟩|rfl
     ·have hmr0:=hm.2 (4*k) (by omega)
      have e3:(4*(k:Int)).toNat=4*k:=by omega
      have e4:(m.getD (4*k) 0).tdiv 4=m.getD (4*k) 0/4:=ybe hmr0.1
      repeat' (first|omega|(try apply yaa);simp only [go_sem,sevalprocAttr,e3,e4]|apply yab<;>(intro h_;(try simp only [h_]);revert h_)|apply And.intro|with_reducible intro h_|trivial|simp only [go_sem,la2];omega)
      ·have hcut:cutM m c (4*k)=m.getD (4*k) 0-4:=by unfold cutM;rw [if_pos (by omega)]
       have e5:woM4 m c k (woM m c k) 1=[m.getD (4*k) 0-4]:=by simp only [woM4,hwn,Nat.add_zero,hcut,List.nil_append]
       refine ⟨_,_,_,?_,?_,⟨1,by omega,rfl,rfl, .inr rfl⟩⟩
       ·omega
       ·refine Wk.sub ?_ ?_<;>(simp only [go_sem,sevalprocAttr,e5])
      ·have hcut:cutM m c (4*k)=m.getD (4*k) 0:=by unfold cutM;rw [if_neg (by omega)]
       have e5:woM4 m c k (woM m c k) 1=[m.getD (4*k) 0]:=by simp only [woM4,hwn,Nat.add_zero,hcut,List.nil_append]
       refine ⟨_,_,_,?_,?_,⟨1,by omega,rfl,rfl, .inr rfl⟩⟩
       ·omega
       ·refine Wk.sub ?_ ?_<;>(simp only [go_sem,sevalprocAttr,e5])
     ·repeat' (first|omega|(try apply yaa);simp only [go_sem,sevalprocAttr,e0,e2]|apply yab<;>(intro h_;(try simp only [h_]);revert h_)|apply And.intro|with_reducible intro h_|trivial|simp only [go_sem,la2];omega)
      ·have hcut:cutM m c (4*k+x)=m.getD (4*k+x) 0-4:=by unfold cutM;rw [if_pos (by omega)]
       refine ⟨_,_,_,?_,?_,⟨x+1,by omega,rfl,rfl, .inr rfl⟩⟩
       ·omega
       ·refine Wk.sub ?_ ?_<;>(simp only [go_sem,sevalprocAttr,eW,hcut,List.length_append])
      ·have hcut:cutM m c (4*k+x)=m.getD (4*k+x) 0:=by unfold cutM;rw [if_neg (by omega)]
       refine ⟨_,_,_,?_,?_,⟨x+1,by omega,rfl,rfl, .inr rfl⟩⟩
       ·omega
       ·refine Wk.sub ?_ ?_<;>(simp only [go_sem,sevalprocAttr,eW,hcut,List.length_append])
    ·obtain rfl:x=4:=by omega
     rcases hin with ⟨h4,_⟩|rfl
     ·omega
     ·repeat' (first|omega|(try apply yaa);simp only [go_sem,sevalprocAttr]|apply yab<;>(intro h_;(try simp only [h_]);revert h_)|apply And.intro|with_reducible intro h_|trivial|simp only [go_sem,la2];omega)
      refine ⟨_,_,_,?_,?_,⟨k+1,by omega,rfl,rfl, .inr rfl⟩⟩
      ·omega
      ·refine Wk.sub ?_ ?_<;>(simp only [go_sem,sevalprocAttr,ek.1,ek.2,List.length_append])
  ·repeat' (first|omega|(try apply yaa);simp only [go_sem,sevalprocAttr]|apply yab<;>(intro h_;(try simp only [h_]);revert h_)|apply And.intro|with_reducible intro h_|trivial|simp only [go_sem,la2];omega)
   ·have ek:woS s c (k+1)=woS s c k/\woM m c (k+1)=woM m c k:=by
     have:k=c:=by omega
     simp [woS,woM,this]
    refine ⟨_,_,_,?_,?_,⟨k+1,by omega,rfl,rfl, .inr rfl⟩⟩
    ·omega
    ·refine Wk.sub ?_ ?_<;>simp only [go_sem,sevalprocAttr]
     all_goals simp_all
   ·have hkc:k≠c:=by omega
    have ek:woS s c (k+1)=woS s c k++[s.getD k 0]/\woM m c (k+1)=woM4 m c k (woM m c k) 4:=by
     simp [woS,woM,hkc]
    refine yaj.intro (fun j fr H=> ∃x:Nat,x<=4/\j=4-x/\fr=[(32,I x),(10,I k),(18,I k),(17,I s.length),(16,roI s),(9, .ptr 1 0),(8, .ptr 0 0),(1,roI m),(2,I c)]/\((x=0/\woM m c k=[]/\H=[(3, .cells 3 (.ints (woS s c k++[s.getD k 0]))),(1, .cells 24 (.lst [.sl 1 3 0 (woS s c k++[s.getD k 0]).length, .nils,I L])),(0, .cells 24 (.lst [.nils, .nils,I 0]))])\/H=[(5, .cells 3 (.ints (woM4 m c k (woM m c k) x))),(3, .cells 3 (.ints (woS s c k++[s.getD k 0]))),(1, .cells 24 (.lst [.sl 1 3 0 (woS s c k++[s.getD k 0]).length, .sl 1 5 0 (woM4 m c k (woM m c k) x).length,I L])),(0, .cells 24 (.lst [.nils, .nils,I 0]))])) ?_ ?_
    ·refine ⟨_,_,_,?_,0,by omega,rfl,rfl, .inr rfl⟩
     refine Wk.sub ?_ ?_<;>simp only [go_sem,sevalprocAttr]
     all_goals simp_all [woM4]
    rintro j fr H ⟨x,hx,rfl,rfl,hin⟩
    have wl4:=yez m c k (woM m c k) x
    by_cases hx4:x<4
    ·have hmr:=hm.2 (4*k+x) (by omega)
     have e0:(4*(k:Int)+x).toNat=4*k+x:=by omega
     have e2:(m.getD (4*k+x) 0).tdiv 4=m.getD (4*k+x) 0/4:=ybe hmr.1
     have eW:woM4 m c k (woM m c k) (x+1)=woM4 m c k (woM m c k) x++[cutM m c (4*k+x)]:=rfl
     rcases hin with ⟨rfl,hwn,rfl⟩|rfl
     ·have hmr0:=hm.2 (4*k) (by omega)
      have e3:(4*(k:Int)).toNat=4*k:=by omega
      have e4:(m.getD (4*k) 0).tdiv 4=m.getD (4*k) 0/4:=ybe hmr0.1
      repeat' (first|omega|(try apply yaa);simp only [go_sem,sevalprocAttr,e3,e4]|apply yab<;>(intro h_;(try simp only [h_]);revert h_)|apply And.intro|with_reducible intro h_|trivial|simp only [go_sem,la2];omega)
      ·have hcut:cutM m c (4*k)=m.getD (4*k) 0-4:=by unfold cutM;rw [if_pos (by omega)]
       have e5:woM4 m c k (woM m c k) 1=[m.getD (4*k) 0-4]:=by simp only [woM4,hwn,Nat.add_zero,hcut,List.nil_append]
       refine ⟨_,_,_,?_,?_,⟨1,by omega,rfl,rfl, .inr rfl⟩⟩
       ·omega
       ·refine Wk.sub ?_ ?_<;>(simp only [go_sem,sevalprocAttr,e5])
      ·have hcut:cutM m c (4*k)=m.getD (4*k) 0:=by unfold cutM;rw [if_neg (by omega)]
       have e5:woM4 m c k (woM m c k) 1=[m.getD (4*k) 0]:=by simp only [woM4,hwn,Nat.add_zero,hcut,List.nil_append]
       refine ⟨_,_,_,?_,?_,⟨1,by omega,rfl,rfl, .inr rfl⟩⟩
       ·omega
       ·refine Wk.sub ?_ ?_<;>(simp only [go_sem,sevalprocAttr,e5])
     ·repeat' (first|omega|(try apply yaa);simp only [go_sem,sevalprocAttr,e0,e2]|apply yab<;>(intro h_;(try simp only [h_]);revert h_)|apply And.intro|with_reducible intro h_|trivial|simp only [go_sem,la2];omega)
      ·have hcut:cutM m c (4*k+x)=m.getD (4*k+x) 0-4:=by unfold cutM;rw [if_pos (by omega)]
       refine ⟨_,_,_,?_,?_,⟨x+1,by omega,rfl,rfl, .inr rfl⟩⟩
       ·omega
       ·refine Wk.sub ?_ ?_<;>(simp only [go_sem,sevalprocAttr,eW,hcut,List.length_append])
      ·have hcut:cutM m c (4*k+x)=m.getD (4*k+x) 0:=by unfold cutM;rw [if_neg (by omega)]
       refine ⟨_,_,_,?_,?_,⟨x+1,by omega,rfl,rfl, .inr rfl⟩⟩
       ·omega
       ·refine Wk.sub ?_ ?_<;>(simp only [go_sem,sevalprocAttr,eW,hcut,List.length_append])
    ·obtain rfl:x=4:=by omega
     rcases hin with ⟨h4,_⟩|rfl
     ·omega
     ·repeat' (first|omega|(try apply yaa);simp only [go_sem,sevalprocAttr]|apply yab<;>(intro h_;(try simp only [h_]);revert h_)|apply And.intro|with_reducible intro h_|trivial|simp only [go_sem,la2];omega)
      refine ⟨_,_,_,?_,?_,⟨k+1,by omega,rfl,rfl, .inr rfl⟩⟩
      ·omega
      ·refine Wk.sub ?_ ?_<;>(simp only [go_sem,sevalprocAttr,ek.1,ek.2,List.length_append])
 ·obtain rfl:k=s.length:=by omega
  rcases hcase with ⟨hn1,hn2,rfl⟩|rfl
  ·repeat' (first|omega|(try apply yaa);simp only [go_sem,sevalprocAttr]|apply yab<;>(intro h_;(try simp only [h_]);revert h_)|apply And.intro|with_reducible intro h_|trivial|simp only [go_sem,la2];omega)
   rw [hn1,hn2]
   exact LeA.aggL (.cons (LeA.nils (by omega) rfl) (.cons (LeA.nils (by omega) rfl) (.cons (LeA.refl _) .nil)))
  ·repeat' (first|omega|(try apply yaa);simp only [go_sem,sevalprocAttr]|apply yab<;>(intro h_;(try simp only [h_]);revert h_)|apply And.intro|with_reducible intro h_|trivial|simp only [go_sem,la2];omega)
   exact LeA.of (by rw [List.take_of_length_le (by omega),List.take_of_length_le (by omega)])
end Go.Proofs.YtbblgobamoabkaaGreatDoor
