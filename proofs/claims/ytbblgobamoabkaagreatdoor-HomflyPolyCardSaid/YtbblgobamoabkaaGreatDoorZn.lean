/- Layer 1: cycles, strands. -/
import Derived.Test.YtbblgobamoabkaaGreatDoorZm
import Derived.Test.YtbblgobamoabkaaGreatDoorZk
import Derived.Test.YtbblgobamoabkaaGreatDoorPl
set_option linter.unusedSimpArgs false
set_option linter.unusedVariables false
namespace Go.Proofs.YtbblgobamoabkaaGreatDoor
open Go Go.RowKit
set_option maxRecDepth 100000
set_option maxHeartbeats 4000000
theorem yrz (h:Int) (h0:0<=h) (h1:h<=100000):Fn Tryz.prog 114 [I h] (I (yar h 2)):=by
 refine Fn.intro [.tmp 2] Tryz.func114 rfl rfl (by decide) (by simp [Tryz.ntmps114]) ?_;rw [Tryz.ntmps114]
 repeat' (first|omega|(try apply yaa);simp only [go_sem,sevalprocAttr]|apply yab<;>(intro h_;(try simp only [h_]);revert h_)|apply And.intro|with_reducible intro h_|trivial|simp only [go_sem,la2];omega)
 refine ⟨yae.fn rfl (ynj h 2 h0 h1) ?_⟩
 repeat' (first|omega|(try apply yaa);simp only [go_sem,sevalprocAttr]|apply yab<;>(intro h_;(try simp only [h_]);revert h_)|apply And.intro|with_reducible intro h_|trivial|simp only [go_sem,la2];omega)
theorem yor (s m:List Int) (L h:Int) (h0:0<=h) (h1:h<4*s.length) (hs:s.length<=1000):Fn Tryz.prog 111 [I h, .rp (dgC s m L) 0] (.bool (outB s h)):=by
 refine Fn.intro [.tmp 3] Tryz.func111 rfl rfl (by decide) (by simp [Tryz.ntmps111]) ?_;rw [Tryz.ntmps111]
 repeat' (first|omega|(try apply yaa);simp only [go_sem,sevalprocAttr]|apply yab<;>(intro h_;(try simp only [h_]);revert h_)|apply And.intro|with_reducible intro h_|trivial|simp only [go_sem,la2];omega)
 refine ⟨yae.fn rfl (yhh s m L h h0 h1 hs) ?_⟩
 repeat' (first|omega|(try apply yaa);simp only [go_sem,sevalprocAttr]|apply yab<;>(intro h_;(try simp only [h_]);revert h_)|apply And.intro|with_reducible intro h_|trivial|simp only [go_sem,la2];omega)
theorem ynk (s m:List Int) (L h:Int) (h0:0<=h) (h1:h<m.length) (g0:0<=m.getD h.toNat 0) (g1:m.getD h.toNat 0<=100000):Fn Tryz.prog 113 [I h, .rp (dgC s m L) 0] (I (yar (m.getD h.toNat 0) 2)):=by
 refine Fn.intro [.tmp 3] Tryz.func113 rfl rfl (by decide) (by simp [Tryz.ntmps113]) ?_;rw [Tryz.ntmps113]
 repeat' (first|omega|(try apply yaa);simp only [go_sem,sevalprocAttr]|apply yab<;>(intro h_;(try simp only [h_]);revert h_)|apply And.intro|with_reducible intro h_|trivial|simp only [go_sem,la2];omega)
 refine ⟨yae.fn rfl (yrz _ g0 g1) ?_⟩
 repeat' (first|omega|(try apply yaa);simp only [go_sem,sevalprocAttr]|apply yab<;>(intro h_;(try simp only [h_]);revert h_)|apply And.intro|with_reducible intro h_|trivial|simp only [go_sem,la2];omega)
theorem yyc (N:Nat) (w g:Nat) (c:Cs) (want:Int->Bool) (orb:Int->List Int) (hN:N<=10000) (hw: ∀h:Nat,h<N->Fn Tryz.prog w [I h, .rp c 0] (.bool (want h)))
  (ho: ∀h:Nat,h<N->want h=true->(orb h).length<=N/\(∀x∈orb h,0<=x/\x<N)/\Fn Tryz.prog 144 [I h, .fn g [.rp c 0]] (roI (orb h))):
  Fn Tryz.prog 112 [I N, .fn w [.rp c 0], .fn g [.rp c 0]] (roLL (cysN N want orb N).1):=by
 refine Fn.introL [.tmp 6] Tryz.func112 rfl rfl (by decide) (by simp [Tryz.ntmps112]) ?_;rw [Tryz.ntmps112]
 repeat' (first|omega|(try apply yaa);simp only [go_sem,sevalprocAttr]|apply yab<;>(intro h_;(try simp only [h_]);revert h_)|apply And.intro|with_reducible intro h_|trivial|simp only [go_sem,la2];omega)
 refine yaj.intro (fun n fr H=> ∃h:Nat,h<=N/\n=N-h/\(((cysN N want orb h).1=[]/\fr=[(16,I h),(15,I N),(8, .sl 1 0 0 N),(7, .nils),(1, .fn w [.rp c 0]),(2, .fn g [.rp c 0])]/\H=[(0, .cells 4 (.bools (cysN N want orb h).2))])\/
  (fr=[(16,I h),(15,I N),(8, .sl 1 0 0 N),(7, .sl 1 2 0 (cysN N want orb h).1.length),(1, .fn w [.rp c 0]),(2, .fn g [.rp c 0])]/\H=[(2, .cells 22 (.lst ((cysN N want orb h).1.map roF))),(0, .cells 4 (.bools (cysN N want orb h).2))]))) ?_ ?_
 ·refine ⟨_,_,_,?_,0,by omega,rfl, .inl ⟨rfl,rfl,rfl⟩⟩
  refine Wk.sub ?_ ?_<;>simp only [go_sem,sevalprocAttr]
  rfl
 rintro n fr H ⟨h,hh,rfl,hcase⟩
 obtain ⟨e1,e2⟩:=yih N want orb h
 rcases hcase with ⟨hnil,rfl,rfl⟩|⟨rfl,rfl⟩
 ·by_cases hlt:h<N
  ·have hwf:=hw h hlt
   repeat' (first|omega|(try apply yaa);simp only [go_sem,sevalprocAttr]|apply yab<;>(intro h_;(try simp only [h_]);revert h_)|apply And.intro|with_reducible intro h_|trivial|simp only [go_sem,la2];omega)
   ·refine ⟨yae.fn rfl hwf ?_⟩
    repeat' (first|omega|(try apply yaa);simp only [go_sem,sevalprocAttr]|apply yab<;>(intro h_;(try simp only [h_]);revert h_)|apply And.intro|with_reducible intro h_|trivial|simp only [go_sem,la2];omega)
    ·have hwt:want h=false:=by assumption
     have eS:cysN N want orb (h+1)=cysN N want orb h:=by simp only [cysN,cys1];rw [if_pos (by rw [hwt];simp)]
     refine ⟨_,_,_,?_,?_,⟨h+1,by omega,rfl, .inl ⟨by rw [eS];exact hnil,rfl,rfl⟩⟩⟩
     ·omega
     ·refine Wk.sub ?_ ?_<;>(simp only [go_sem,sevalprocAttr];try rw [eS];try simp only [yep,and_self])
    ·have hwt:want h=true:=by assumption
     have hsf:(cysN N want orb h).2.getD h false=false:=by assumption
     have eS:cysN N want orb (h+1)=((cysN N want orb h).1++[orb h],ybt (cysN N want orb h).2 (orb h)):=by simp only [cysN,cys1];rw [if_neg (by rw [hwt,hsf];simp)]
     obtain ⟨o1,o2,o3⟩:=ho h hlt hwt
     refine ⟨yae.fn rfl o3 ?_⟩
     repeat' (first|omega|(try apply yaa);simp only [go_sem,sevalprocAttr]|apply yab<;>(intro h_;(try simp only [h_]);revert h_)|apply And.intro|with_reducible intro h_|trivial|simp only [go_sem,la2];omega)
     generalize (cysN N want orb h).2=seen0 at*
     refine yaj.intro (fun n fr H=> ∃k:Nat,k<=(orb h).length/\n=(orb h).length-k/\fr=[(34,I k),(33,I (orb h).length),(32,roI (orb h)),(10,roI (orb h)),(16,I h),(15,I N),(8, .sl 1 0 0 N),(7, .nils),(1, .fn w [.rp c 0]),(2, .fn g [.rp c 0])]/\
      H=[(0, .cells 4 (.bools (ybt seen0 ((orb h).take k))))]) ?_ ?_
     ·refine ⟨_,_,_,?_,0,by omega,rfl,rfl,rfl⟩
      refine Wk.sub ?_ ?_<;>simp only [go_sem,sevalprocAttr]
      all_goals simp [ybt]
     rintro n fr H ⟨k,hk,rfl,rfl,rfl⟩
     have ml:=yfk ((orb h).take k) seen0
     by_cases hkl:k<(orb h).length
     ·have hr:=o2 ((orb h).getD k 0) (by simp [hkl])
      repeat' (first|omega|(try apply yaa);simp only [go_sem,sevalprocAttr]|apply yab<;>(intro h_;(try simp only [h_]);revert h_)|apply And.intro|with_reducible intro h_|trivial|simp only [go_sem,la2];omega)
      refine ⟨_,_,_,?_,?_,⟨k+1,by omega,rfl,rfl,rfl⟩⟩
      ·omega
      ·refine Wk.sub ?_ ?_<;>simp only [go_sem,sevalprocAttr]
       rw [List.take_succ_eq_append_getElem hkl,ygo]
       simp [ybt,hkl]
     ·obtain rfl:k=(orb h).length:=by omega
      rw [List.take_of_length_le (Nat.le_refl _)]
      repeat' (first|omega|(try apply yaa);simp only [go_sem,sevalprocAttr]|apply yab<;>(intro h_;(try simp only [h_]);revert h_)|apply And.intro|with_reducible intro h_|trivial|simp only [go_sem,la2];omega)
      refine ⟨_,_,_,?_,?_,⟨h+1,by omega,rfl, .inr ⟨rfl,rfl⟩⟩⟩
      ·omega
      ·refine Wk.sub ?_ ?_<;>(simp only [go_sem,sevalprocAttr];rw [eS];simp only [go_sem,sevalprocAttr])
       all_goals simp_all [roF]
   ·have hst:(cysN N want orb h).2.getD h false=true:=by assumption
    have eS:cysN N want orb (h+1)=cysN N want orb h:=by simp only [cysN,cys1];rw [if_pos (by rw [hst];simp)]
    refine ⟨_,_,_,?_,?_,⟨h+1,by omega,rfl, .inl ⟨by rw [eS];exact hnil,rfl,rfl⟩⟩⟩
    ·omega
    ·refine Wk.sub ?_ ?_<;>(simp only [go_sem,sevalprocAttr];try rw [eS];try simp only [yep,and_self])
  ·obtain rfl:h=N:=by omega
   repeat' (first|omega|(try apply yaa);simp only [go_sem,sevalprocAttr]|apply yab<;>(intro h_;(try simp only [h_]);revert h_)|apply And.intro|with_reducible intro h_|trivial|simp only [go_sem,la2];omega)
   all_goals first|(rw [hnil];exact LeA.nils (by omega) rfl)|(exact yck _ _ _ _ ‹_›)|exact LeA.of (by rw [List.take_of_length_le (by simp)])
 ·by_cases hlt:h<N
  ·have hwf:=hw h hlt
   repeat' (first|omega|(try apply yaa);simp only [go_sem,sevalprocAttr]|apply yab<;>(intro h_;(try simp only [h_]);revert h_)|apply And.intro|with_reducible intro h_|trivial|simp only [go_sem,la2];omega)
   ·refine ⟨yae.fn rfl hwf ?_⟩
    repeat' (first|omega|(try apply yaa);simp only [go_sem,sevalprocAttr]|apply yab<;>(intro h_;(try simp only [h_]);revert h_)|apply And.intro|with_reducible intro h_|trivial|simp only [go_sem,la2];omega)
    ·have hwt:want h=false:=by assumption
     have eS:cysN N want orb (h+1)=cysN N want orb h:=by simp only [cysN,cys1];rw [if_pos (by rw [hwt];simp)]
     refine ⟨_,_,_,?_,?_,⟨h+1,by omega,rfl, .inr ⟨rfl,rfl⟩⟩⟩
     ·omega
     ·refine Wk.sub ?_ ?_<;>(simp only [go_sem,sevalprocAttr];try rw [eS];try simp only [yep,and_self])
    ·have hwt:want h=true:=by assumption
     have hsf:(cysN N want orb h).2.getD h false=false:=by assumption
     have eS:cysN N want orb (h+1)=((cysN N want orb h).1++[orb h],ybt (cysN N want orb h).2 (orb h)):=by simp only [cysN,cys1];rw [if_neg (by rw [hwt,hsf];simp)]
     obtain ⟨o1,o2,o3⟩:=ho h hlt hwt
     refine ⟨yae.fn rfl o3 ?_⟩
     repeat' (first|omega|(try apply yaa);simp only [go_sem,sevalprocAttr]|apply yab<;>(intro h_;(try simp only [h_]);revert h_)|apply And.intro|with_reducible intro h_|trivial|simp only [go_sem,la2];omega)
     generalize (cysN N want orb h).2=seen0 at*
     refine yaj.intro (fun n fr H=> ∃k:Nat,k<=(orb h).length/\n=(orb h).length-k/\fr=[(34,I k),(33,I (orb h).length),(32,roI (orb h)),(10,roI (orb h)),(16,I h),(15,I N),(8, .sl 1 0 0 N),(7, .sl 1 2 0 (cysN N want orb h).1.length),(1, .fn w [.rp c 0]),(2, .fn g [.rp c 0])]/\
      H=[(2, .cells 22 (.lst ((cysN N want orb h).1.map roF))),(0, .cells 4 (.bools (ybt seen0 ((orb h).take k))))]) ?_ ?_
     ·refine ⟨_,_,_,?_,0,by omega,rfl,rfl,rfl⟩
      refine Wk.sub ?_ ?_<;>simp only [go_sem,sevalprocAttr]
      all_goals simp [ybt]
     rintro n fr H ⟨k,hk,rfl,rfl,rfl⟩
     have ml:=yfk ((orb h).take k) seen0
     by_cases hkl:k<(orb h).length
     ·have hr:=o2 ((orb h).getD k 0) (by simp [hkl])
      repeat' (first|omega|(try apply yaa);simp only [go_sem,sevalprocAttr]|apply yab<;>(intro h_;(try simp only [h_]);revert h_)|apply And.intro|with_reducible intro h_|trivial|simp only [go_sem,la2];omega)
      refine ⟨_,_,_,?_,?_,⟨k+1,by omega,rfl,rfl,rfl⟩⟩
      ·omega
      ·refine Wk.sub ?_ ?_<;>simp only [go_sem,sevalprocAttr]
       rw [List.take_succ_eq_append_getElem hkl,ygo]
       simp [ybt,hkl]
     ·obtain rfl:k=(orb h).length:=by omega
      rw [List.take_of_length_le (Nat.le_refl _)]
      repeat' (first|omega|(try apply yaa);simp only [go_sem,sevalprocAttr]|apply yab<;>(intro h_;(try simp only [h_]);revert h_)|apply And.intro|with_reducible intro h_|trivial|simp only [go_sem,la2];omega)
      refine ⟨_,_,_,?_,?_,⟨h+1,by omega,rfl, .inr ⟨rfl,rfl⟩⟩⟩
      ·omega
      ·refine Wk.sub ?_ ?_<;>(simp only [go_sem,sevalprocAttr];rw [eS];simp only [go_sem,sevalprocAttr])
       all_goals simp_all [roF]
   ·have hst:(cysN N want orb h).2.getD h false=true:=by assumption
    have eS:cysN N want orb (h+1)=cysN N want orb h:=by simp only [cysN,cys1];rw [if_pos (by rw [hst];simp)]
    refine ⟨_,_,_,?_,?_,⟨h+1,by omega,rfl, .inr ⟨rfl,rfl⟩⟩⟩
    ·omega
    ·refine Wk.sub ?_ ?_<;>(simp only [go_sem,sevalprocAttr];try rw [eS];try simp only [yep,and_self])
  ·obtain rfl:h=N:=by omega
   repeat' (first|omega|(try apply yaa);simp only [go_sem,sevalprocAttr]|apply yab<;>(intro h_;(try simp only [h_]);revert h_)|apply And.intro|with_reducible intro h_|trivial|simp only [go_sem,la2];omega)
   all_goals first|(rw [hnil];exact LeA.nils (by omega) rfl)|(exact yck _ _ _ _ ‹_›)|exact LeA.of (by rw [List.take_of_length_le (by simp)])
end Go.Proofs.YtbblgobamoabkaaGreatDoor
set_option linter.unusedSimpArgs false
set_option linter.unusedVariables false
namespace Go.Proofs.YtbblgobamoabkaaGreatDoor
open Go Go.RowKit
set_option maxRecDepth 100000
set_option maxHeartbeats 4000000
def yyd:Tr:= .node [(0, .node [(1, .node [(2,trD [3,4,5,6]),(3, .node [(2,trD [4,5,6]),(4,trD [2,5,6])])]),(3, .node [(1, .node [(2,trD [4,5,6]),(4,trD [2,5,6])]),(4,trD [1,2,5,6])])]),(3, .node [(0, .node [(1, .node [(2,trD [4,5,6]),(4,trD [2,5,6])]),(4,trD [1,2,5,6])]),(4,trD [0,1,2,5,6])])]
def ygv (s m:List Int) (L:Int):List (List Int):=if yap s m L then yam s m else []
theorem y37 (s m:List Int) (L:Int) (hv:ybx s m L) (h:Nat) (hh:h<4*s.length):(orbF (yah m) m.length h).length<=m.length/\(∀x∈orbF (yah m) m.length h,0<=x/\x<m.length)/\
  Fn Tryz.prog 144 [I h, .fn 113 [.rp (dgC s m L) 0]] (roI (orbF (yah m) m.length h)):=by
 have hR:InR s.length (h:Int):=by unfold InR;omega
 have hl:=hv.len
 have h64:=hv.s64
 have hof:=ydm (ye0 hv.prd) hR
 rw [←hl] at hof
 obtain ⟨_,o2,_,_,_,o6,_,k,hk,hper,e⟩:=hof
 refine ⟨o6,fun x hx=>by have:=o2 x hx;unfold InR at this;omega,?_⟩
 rw [e]
 refine y1c _ _ (yah m) h k hper (by omega) fun j hj=>?_
 have hr:=(ye0 hv.prd).it hR j
 have hr2:=hv.prd.rng hr
 unfold InR at hr hr2
 exact ynk s m L _ hr.1 (by omega) hr2.1 (by omega)
theorem ymo (s m:List Int) (L:Int):Fn Tryz.prog 70 [dgA s m L] (roLL (ygv s m L)):=by
 refine Fn.introL [.tmp 2] Tryz.func70 rfl rfl (by decide) (by simp [Tryz.ntmps70]) ?_;rw [Tryz.ntmps70]
 repeat' (first|omega|(try apply yaa);simp only [go_sem,sevalprocAttr]|apply yab<;>(intro h_;(try simp only [h_]);revert h_)|apply And.intro|with_reducible intro h_|trivial|simp only [go_sem,la2];omega)
 refine ⟨yae.fn rfl (yc5 s m L) ?_⟩
 cases hv:yap s m L with
 |false=>
  repeat' (first|omega|(try apply yaa);simp only [go_sem,sevalprocAttr]|apply yab<;>(intro h_;(try simp only [h_]);revert h_)|apply And.intro|with_reducible intro h_|trivial|simp only [go_sem,la2];omega)
  unfold ygv
  rw [hv]
  exact LeA.nils (by omega) rfl
 |true=>
  have v1:=ya1 hv
  have h64:=v1.s64
  have hl:=v1.len
  repeat' (first|omega|(try apply yaa);simp only [go_sem,sevalprocAttr]|apply yab<;>(intro h_;(try simp only [h_]);revert h_)|apply And.intro|with_reducible intro h_|trivial|simp only [go_sem,la2];omega)
  refine ⟨yae.frz [0] rfl (by simp only [go_sem,sevalprocAttr]) (by simp only [go_sem,sevalprocAttr]) (by simp only [go_sem,sevalprocAttr]) (by simp only [go_sem,sevalprocAttr]) rfl rfl rfl (yae.fn rfl (yyc m.length _ _ (dgC s m L) (outB s) (orbF (yah m) m.length) (by omega) (fun h hh=>yor s m L h (by omega) (by omega) (by omega)) (fun h hh _=>y37 s m L v1 h (by omega))) ?_)⟩
  repeat' (first|omega|(try apply yaa);simp only [go_sem,sevalprocAttr]|apply yab<;>(intro h_;(try simp only [h_]);revert h_)|apply And.intro|with_reducible intro h_|trivial|simp only [go_sem,la2];omega)
  unfold ygv yam
  rw [hv]
  exact LeA.refl _
theorem yos (s m:List Int) (L:Int):Fn Tryz.prog 32 [dgA s m L] (I (if yap s m L then (yam s m).length+L else 0)):=by
 refine Fn.intro [.tmp 2] Tryz.func32 rfl rfl (by decide) (by simp [Tryz.ntmps32]) ?_;rw [Tryz.ntmps32]
 repeat' (first|omega|(try apply yaa);simp only [go_sem,sevalprocAttr]|apply yab<;>(intro h_;(try simp only [h_]);revert h_)|apply And.intro|with_reducible intro h_|trivial|simp only [go_sem,la2];omega)
 refine ⟨yae.fn rfl (yc5 s m L) ?_⟩
 have hS:=ymo s m L
 unfold ygv at hS
 have hsl:=yby s m
 cases hv:yap s m L with
 |false=>
  repeat' (first|omega|(try apply yaa);simp only [go_sem,sevalprocAttr]|apply yab<;>(intro h_;(try simp only [h_]);revert h_)|apply And.intro|with_reducible intro h_|trivial|simp only [go_sem,la2];omega)
 |true=>
  rw [hv,if_pos rfl] at hS
  have v1:=ya1 hv
  have h64:=v1.s64
  have hl:=v1.len
  have h0:=v1.l0
  have h1:=v1.l64
  repeat' (first|omega|(first|apply yaa|(refine yac.intro (id:=3) [[9,10],[9,10],[9,10],[6,7,8],[6,7,8],[],[]] [[],[],[],[0,1,2],[0,1,2],[],[]] (by decide+kernel) mixed ?_)|(refine yac.introT (id:=3) (yyd) (by decide+kernel) mixed ?_)|skip);simp only [go_sem,sevalprocAttr,↓reduceIte,reduceCtorEq,yyd]|apply yab<;>(intro h_;(try simp only [h_]);revert h_)|apply And.intro|with_reducible intro h_|trivial|simp only [go_sem,la2];omega)
  refine ⟨yai.fn rfl hS ?_⟩
  repeat' (first|omega|(try apply yaa);simp only [go_sem,sevalprocAttr]|apply yab<;>(intro h_;(try simp only [h_]);revert h_)|apply And.intro|with_reducible intro h_|trivial|simp only [go_sem,la2];omega)
end Go.Proofs.YtbblgobamoabkaaGreatDoor
set_option linter.unusedSimpArgs false
set_option linter.unusedVariables false
namespace Go.Proofs.YtbblgobamoabkaaGreatDoor
open Go Go.RowKit
set_option maxRecDepth 100000
set_option maxHeartbeats 4000000
def yo1 (s m:List Int) (L:Int):Int×Bool:=if yap s m L then (match badO s m with|some c=>(c,false)|none=>(-1,true)) else (-1,false)
theorem yfo {α:Type} (l:List α) (k:Nat) (d:α) (h:k<l.length):l.drop k=l.getD k d::l.drop (k+1):=by
 rw [List.drop_eq_getElem_cons h];simp [h]
theorem yot (s m:List Int) (L:Int):Fn Tryz.prog 67 [dgA s m L] (.tup [I (yo1 s m L).1, .bool (yo1 s m L).2]):=by
 refine Fn.intro [.tmp 2, .tmp 3] Tryz.func67 rfl rfl (by decide) (by simp [Tryz.ntmps67]) ?_;rw [Tryz.ntmps67]
 repeat' (first|omega|(try apply yaa);simp only [go_sem,sevalprocAttr]|apply yab<;>(intro h_;(try simp only [h_]);revert h_)|apply And.intro|with_reducible intro h_|trivial|simp only [go_sem,la2];omega)
 refine ⟨yae.fn rfl (yc5 s m L) ?_⟩
 have hS:=ymo s m L
 unfold ygv at hS
 have hsl:=yby s m
 unfold yo1
 cases hv:yap s m L with
 |false=>
  repeat' (first|omega|(try apply yaa);simp only [go_sem,sevalprocAttr]|apply yab<;>(intro h_;(try simp only [h_]);revert h_)|apply And.intro|with_reducible intro h_|trivial|simp only [go_sem,la2];omega)
 |true=>
  rw [hv,if_pos rfl] at hS
  have v1:=ya1 hv
  have h64:=v1.s64
  have hl:=v1.len
  have hmem:=fun l (hl:l∈yam s m)=>yeo v1.prd hl
  unfold badO
  repeat' (first|omega|(try apply yaa);simp only [go_sem,sevalprocAttr]|apply yab<;>(intro h_;(try simp only [h_]);revert h_)|apply And.intro|with_reducible intro h_|trivial|simp only [go_sem,la2];omega)
  refine ⟨yae.fn rfl hS ?_⟩
  repeat' (first|omega|(try apply yaa);simp only [go_sem,sevalprocAttr]|apply yab<;>(intro h_;(try simp only [h_]);revert h_)|apply And.intro|with_reducible intro h_|trivial|simp only [go_sem,la2];omega)
  generalize yam s m=ls at*
  refine yaj.intro (fun n fr H=> ∃(i:Nat) (v:List Bool),i<=ls.length/\n=ls.length-i/\v.length=s.length/\yct v (ls.drop i)=yct (List.replicate s.length false) ls/\fr=[(19,I i),(18,I ls.length),(17,roLL ls),(4, .sl 1 1 0 s.length)]/\H=[(1, .cells 4 (.bools v))]) ?_ ?_
  ·refine ⟨_,_,_,?_,0,List.replicate s.length false,by omega,rfl,by simp,rfl,rfl,rfl⟩
   refine Wk.sub ?_ ?_<;>simp only [go_sem,sevalprocAttr]
  rintro n fr H ⟨i,v,hi,rfl,hvl,hbad,rfl,rfl⟩
  by_cases hil:i<ls.length
  ·have hg:=ylc ls i hil
   have hme:=hmem (ls.getD i []) (by simp [hil])
   rw [yfo ls i [] hil] at hbad
   generalize ls.getD i []=l at*
   repeat' (first|omega|(try apply yaa);simp only [go_sem,sevalprocAttr,hg]|apply yab<;>(intro h_;(try simp only [h_]);revert h_)|apply And.intro|with_reducible intro h_|trivial|simp only [go_sem,la2];omega)
   refine yaj.intro (fun n fr H=> ∃(k:Nat) (v':List Bool),k<=l.length/\n=l.length-k/\v'.length=s.length/\badS v' (l.drop k)=badS v l/\fr=[(25,I k),(24,I l.length),(23,roI l),(19,I i),(18,I ls.length),(17,roLL ls),(4, .sl 1 1 0 s.length)]/\H=[(1, .cells 4 (.bools v'))]) ?_ ?_
   ·refine ⟨_,_,_,?_,0,v,by omega,rfl,hvl,rfl,rfl,rfl⟩
    refine Wk.sub ?_ ?_<;>simp only [go_sem,sevalprocAttr]
   rintro n fr H ⟨k,v',hk,rfl,hvl',hbs,rfl,rfl⟩
   by_cases hkl:k<l.length
   ·have hx:=hme.2 (l.getD k 0) (by simp [hkl])
    rw [yfo l k 0 hkl] at hbs
    have e1:(l.getD k 0).tdiv 4=l.getD k 0/4:=ybe hx.1
    have e2:(l.getD k 0).tmod 2=l.getD k 0 % 2:=yde hx.1
    have hstep: ¬(v'.getD (l.getD k 0/4).toNat false=false/\l.getD k 0 % 2=0)->badS (v'.set (l.getD k 0/4).toNat true) (l.drop (k+1))=badS v l:=fun hn=>by
     rw [←hbs];simp only [badS];rw [if_neg hn]
    have hhit:(v'.getD (l.getD k 0/4).toNat false=false/\l.getD k 0 % 2=0)->yct (List.replicate s.length false) ls=some (l.getD k 0/4):=fun hn=>by
     rw [←hbad]
     simp only [badS] at hbs
     rw [if_pos hn] at hbs
     simp only [yct,←hbs]
    repeat' (first|omega|(try apply yaa);simp only [go_sem,sevalprocAttr,e1,e2]|apply yab<;>(intro h_;(try simp only [h_]);revert h_)|apply And.intro|with_reducible intro h_|trivial|simp only [go_sem,la2];omega)
    ·rw [hhit ⟨by assumption,by assumption⟩]
    ·rw [hhit ⟨by assumption,by assumption⟩]
    all_goals refine ⟨_,_,_,?_,?_,⟨k+1,v'.set (l.getD k 0/4).toNat true,by omega,rfl,by simp [hvl'],hstep (by simp_all),rfl,rfl⟩⟩
    all_goals first|omega|refine Wk.sub ?_ ?_<;>simp only [go_sem,sevalprocAttr]
   ·obtain rfl:k=l.length:=by omega
    rw [List.drop_length] at hbs
    repeat' (first|omega|(try apply yaa);simp only [go_sem,sevalprocAttr]|apply yab<;>(intro h_;(try simp only [h_]);revert h_)|apply And.intro|with_reducible intro h_|trivial|simp only [go_sem,la2];omega)
    refine ⟨_,_,_,?_,?_,⟨i+1,v',by omega,rfl,hvl',?_,rfl,rfl⟩⟩
    ·omega
    ·refine Wk.sub ?_ ?_<;>simp only [go_sem,sevalprocAttr]
    ·rw [←hbad];simp only [yct,←hbs,badS]
  ·obtain rfl:i=ls.length:=by omega
   rw [List.drop_length] at hbad
   rw [←hbad]
   repeat' (first|omega|(try apply yaa);simp only [go_sem,sevalprocAttr]|apply yab<;>(intro h_;(try simp only [h_]);revert h_)|apply And.intro|with_reducible intro h_|trivial|simp only [go_sem,la2];omega)
end Go.Proofs.YtbblgobamoabkaaGreatDoor
