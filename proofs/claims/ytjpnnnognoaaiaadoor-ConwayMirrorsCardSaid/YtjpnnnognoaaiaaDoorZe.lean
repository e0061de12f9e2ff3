/- Layer 1: cycles, strands. -/
import Derived.Test.YtjpnnnognoaaiaaDoorZd
import Derived.Test.YtjpnnnognoaaiaaDoorZb
import Derived.Test.YtjpnnnognoaaiaaDoorPl
set_option linter.unusedSimpArgs false
set_option linter.unusedVariables false
namespace Go.Proofs.YtjpnnnognoaaiaaDoor
open Go Go.RowKit
set_option maxRecDepth 100000
set_option maxHeartbeats 4000000
theorem ysr (h:Int) (h0:0<=h) (h1:h<=100000):Fn Tryd.prog 58 [I h] (I (yao h 2)):=by
 refine Fn.intro [.tmp 2] Tryd.func58 rfl rfl (by decide) (by simp [Tryd.ntmps58]) ?_;rw [Tryd.ntmps58]
 repeat' (first|omega|(try apply yaa);simp only [go_sem,sevalprocAttr]|apply yab<;>(intro h_;(try simp only [h_]);revert h_)|apply And.intro|with_reducible intro h_|trivial|simp only [go_sem,la2];omega)
 refine ⟨yae.fn rfl (ynv h 2 h0 h1) ?_⟩
 repeat' (first|omega|(try apply yaa);simp only [go_sem,sevalprocAttr]|apply yab<;>(intro h_;(try simp only [h_]);revert h_)|apply And.intro|with_reducible intro h_|trivial|simp only [go_sem,la2];omega)
theorem yo9 (s m:List Int) (L h:Int) (h0:0<=h) (h1:h<4*s.length) (hs:s.length<=1000):Fn Tryd.prog 55 [I h, .rp (dgC s m L) 0] (.bool (outB s h)):=by
 refine Fn.intro [.tmp 3] Tryd.func55 rfl rfl (by decide) (by simp [Tryd.ntmps55]) ?_;rw [Tryd.ntmps55]
 repeat' (first|omega|(try apply yaa);simp only [go_sem,sevalprocAttr]|apply yab<;>(intro h_;(try simp only [h_]);revert h_)|apply And.intro|with_reducible intro h_|trivial|simp only [go_sem,la2];omega)
 refine ⟨yae.fn rfl (yhn s m L h h0 h1 hs) ?_⟩
 repeat' (first|omega|(try apply yaa);simp only [go_sem,sevalprocAttr]|apply yab<;>(intro h_;(try simp only [h_]);revert h_)|apply And.intro|with_reducible intro h_|trivial|simp only [go_sem,la2];omega)
theorem ynx (s m:List Int) (L h:Int) (h0:0<=h) (h1:h<m.length) (g0:0<=m.getD h.toNat 0) (g1:m.getD h.toNat 0<=100000):Fn Tryd.prog 57 [I h, .rp (dgC s m L) 0] (I (yao (m.getD h.toNat 0) 2)):=by
 refine Fn.intro [.tmp 3] Tryd.func57 rfl rfl (by decide) (by simp [Tryd.ntmps57]) ?_;rw [Tryd.ntmps57]
 repeat' (first|omega|(try apply yaa);simp only [go_sem,sevalprocAttr]|apply yab<;>(intro h_;(try simp only [h_]);revert h_)|apply And.intro|with_reducible intro h_|trivial|simp only [go_sem,la2];omega)
 refine ⟨yae.fn rfl (ysr _ g0 g1) ?_⟩
 repeat' (first|omega|(try apply yaa);simp only [go_sem,sevalprocAttr]|apply yab<;>(intro h_;(try simp only [h_]);revert h_)|apply And.intro|with_reducible intro h_|trivial|simp only [go_sem,la2];omega)
theorem yx8 (N:Nat) (w g:Nat) (c:Cs) (want:Int->Bool) (orb:Int->List Int) (hN:N<=10000) (hw: ∀h:Nat,h<N->Fn Tryd.prog w [I h, .rp c 0] (.bool (want h)))
  (ho: ∀h:Nat,h<N->want h=true->(orb h).length<=N/\(∀x∈orb h,0<=x/\x<N)/\Fn Tryd.prog 68 [I h, .fn g [.rp c 0]] (roI (orb h))):
  Fn Tryd.prog 56 [I N, .fn w [.rp c 0], .fn g [.rp c 0]] (roLL (cysN N want orb N).1):=by
 refine Fn.introL [.tmp 6] Tryd.func56 rfl rfl (by decide) (by simp [Tryd.ntmps56]) ?_;rw [Tryd.ntmps56]
 repeat' (first|omega|(try apply yaa);simp only [go_sem,sevalprocAttr]|apply yab<;>(intro h_;(try simp only [h_]);revert h_)|apply And.intro|with_reducible intro h_|trivial|simp only [go_sem,la2];omega)
 refine ya0.intro (fun n fr H=> ∃h:Nat,h<=N/\n=N-h/\(((cysN N want orb h).1=[]/\fr=[(16,I h),(15,I N),(8, .sl 1 0 0 N),(7, .nils),(1, .fn w [.rp c 0]),(2, .fn g [.rp c 0])]/\H=[(0, .cells 4 (.bools (cysN N want orb h).2))])\/
  (fr=[(16,I h),(15,I N),(8, .sl 1 0 0 N),(7, .sl 1 2 0 (cysN N want orb h).1.length),(1, .fn w [.rp c 0]),(2, .fn g [.rp c 0])]/\H=[(2, .cells 22 (.lst ((cysN N want orb h).1.map roF))),(0, .cells 4 (.bools (cysN N want orb h).2))]))) ?_ ?_
 ·refine ⟨_,_,_,?_,0,by omega,rfl, .inl ⟨rfl,rfl,rfl⟩⟩
  refine Wk.sub ?_ ?_<;>simp only [go_sem,sevalprocAttr]
  rfl
 rintro n fr H ⟨h,hh,rfl,hcase⟩
 obtain ⟨e1,e2⟩:=yit N want orb h
 rcases hcase with ⟨hnil,rfl,rfl⟩|⟨rfl,rfl⟩
 ·by_cases hlt:h<N
  ·have hwf:=hw h hlt
   repeat' (first|omega|(try apply yaa);simp only [go_sem,sevalprocAttr]|apply yab<;>(intro h_;(try simp only [h_]);revert h_)|apply And.intro|with_reducible intro h_|trivial|simp only [go_sem,la2];omega)
   ·refine ⟨yae.fn rfl hwf ?_⟩
    repeat' (first|omega|(try apply yaa);simp only [go_sem,sevalprocAttr]|apply yab<;>(intro h_;(try simp only [h_]);revert h_)|apply And.intro|with_reducible intro h_|trivial|simp only [go_sem,la2];omega)
    ·have hwt:want h=false:=by assumption
     have eS:cysN N want orb (h+1)=cysN N want orb h:=by simp only [cysN,cys1];rw [if_pos (by rw [hwt];simp)]
     refine ⟨_,_,_,?_,?_,⟨h+1,by omega,rfl, .inl ⟨by rw [eS];exact hnil,rfl,rfl⟩⟩⟩
     ·omega
     ·refine Wk.sub ?_ ?_<;>(simp only [go_sem,sevalprocAttr];try rw [eS];try simp only [yfa,and_self])
    ·have hwt:want h=true:=by assumption
     have hsf:(cysN N want orb h).2.getD h false=false:=by assumption
     have eS:cysN N want orb (h+1)=((cysN N want orb h).1++[orb h],ybx (cysN N want orb h).2 (orb h)):=by simp only [cysN,cys1];rw [if_neg (by rw [hwt,hsf];simp)]
     obtain ⟨o1,o2,o3⟩:=ho h hlt hwt
     refine ⟨yae.fn rfl o3 ?_⟩
     repeat' (first|omega|(try apply yaa);simp only [go_sem,sevalprocAttr]|apply yab<;>(intro h_;(try simp only [h_]);revert h_)|apply And.intro|with_reducible intro h_|trivial|simp only [go_sem,la2];omega)
     generalize (cysN N want orb h).2=seen0 at*
     refine ya0.intro (fun n fr H=> ∃k:Nat,k<=(orb h).length/\n=(orb h).length-k/\fr=[(34,I k),(33,I (orb h).length),(32,roI (orb h)),(10,roI (orb h)),(16,I h),(15,I N),(8, .sl 1 0 0 N),(7, .nils),(1, .fn w [.rp c 0]),(2, .fn g [.rp c 0])]/\
      H=[(0, .cells 4 (.bools (ybx seen0 ((orb h).take k))))]) ?_ ?_
     ·refine ⟨_,_,_,?_,0,by omega,rfl,rfl,rfl⟩
      refine Wk.sub ?_ ?_<;>simp only [go_sem,sevalprocAttr]
      all_goals simp [ybx]
     rintro n fr H ⟨k,hk,rfl,rfl,rfl⟩
     have ml:=yf1 ((orb h).take k) seen0
     by_cases hkl:k<(orb h).length
     ·have hr:=o2 ((orb h).getD k 0) (by simp [hkl])
      repeat' (first|omega|(try apply yaa);simp only [go_sem,sevalprocAttr]|apply yab<;>(intro h_;(try simp only [h_]);revert h_)|apply And.intro|with_reducible intro h_|trivial|simp only [go_sem,la2];omega)
      refine ⟨_,_,_,?_,?_,⟨k+1,by omega,rfl,rfl,rfl⟩⟩
      ·omega
      ·refine Wk.sub ?_ ?_<;>simp only [go_sem,sevalprocAttr]
       rw [List.take_succ_eq_append_getElem hkl,ygv]
       simp [ybx,hkl]
     ·obtain rfl:k=(orb h).length:=by omega
      rw [List.take_of_length_le (Nat.le_refl _)]
      repeat' (first|omega|(try apply yaa);simp only [go_sem,sevalprocAttr]|apply yab<;>(intro h_;(try simp only [h_]);revert h_)|apply And.intro|with_reducible intro h_|trivial|simp only [go_sem,la2];omega)
      refine ⟨_,_,_,?_,?_,⟨h+1,by omega,rfl, .inr ⟨rfl,rfl⟩⟩⟩
      ·omega
      ·refine Wk.sub ?_ ?_<;>(simp only [go_sem,sevalprocAttr];rw [eS];simp only [go_sem,sevalprocAttr])
       all_goals simp_all [roF]
   ·have hst:(cysN N want orb h).2.getD h false=true:=by assumption
    have eS:cysN N want orb (h+1)=cysN N want orb h:=by simp only [cysN,cys1];rw [if_pos (by rw [hst];simp)]
    refine ⟨_,_,_,?_,?_,⟨h+1,by omega,rfl, .inl ⟨by rw [eS];exact hnil,rfl,rfl⟩⟩⟩
    ·omega
    ·refine Wk.sub ?_ ?_<;>(simp only [go_sem,sevalprocAttr];try rw [eS];try simp only [yfa,and_self])
  ·obtain rfl:h=N:=by omega
   repeat' (first|omega|(try apply yaa);simp only [go_sem,sevalprocAttr]|apply yab<;>(intro h_;(try simp only [h_]);revert h_)|apply And.intro|with_reducible intro h_|trivial|simp only [go_sem,la2];omega)
   all_goals first|(rw [hnil];exact LeA.nils (by omega) rfl)|(exact you _ _ _ _ ‹_›)|exact LeA.of (by rw [List.take_of_length_le (by simp)])
 ·by_cases hlt:h<N
  ·have hwf:=hw h hlt
   repeat' (first|omega|(try apply yaa);simp only [go_sem,sevalprocAttr]|apply yab<;>(intro h_;(try simp only [h_]);revert h_)|apply And.intro|with_reducible intro h_|trivial|simp only [go_sem,la2];omega)
   ·refine ⟨yae.fn rfl hwf ?_⟩
    repeat' (first|omega|(try apply yaa);simp only [go_sem,sevalprocAttr]|apply yab<;>(intro h_;(try simp only [h_]);revert h_)|apply And.intro|with_reducible intro h_|trivial|simp only [go_sem,la2];omega)
    ·have hwt:want h=false:=by assumption
     have eS:cysN N want orb (h+1)=cysN N want orb h:=by simp only [cysN,cys1];rw [if_pos (by rw [hwt];simp)]
     refine ⟨_,_,_,?_,?_,⟨h+1,by omega,rfl, .inr ⟨rfl,rfl⟩⟩⟩
     ·omega
     ·refine Wk.sub ?_ ?_<;>(simp only [go_sem,sevalprocAttr];try rw [eS];try simp only [yfa,and_self])
    ·have hwt:want h=true:=by assumption
     have hsf:(cysN N want orb h).2.getD h false=false:=by assumption
     have eS:cysN N want orb (h+1)=((cysN N want orb h).1++[orb h],ybx (cysN N want orb h).2 (orb h)):=by simp only [cysN,cys1];rw [if_neg (by rw [hwt,hsf];simp)]
     obtain ⟨o1,o2,o3⟩:=ho h hlt hwt
     refine ⟨yae.fn rfl o3 ?_⟩
     repeat' (first|omega|(try apply yaa);simp only [go_sem,sevalprocAttr]|apply yab<;>(intro h_;(try simp only [h_]);revert h_)|apply And.intro|with_reducible intro h_|trivial|simp only [go_sem,la2];omega)
     generalize (cysN N want orb h).2=seen0 at*
     refine ya0.intro (fun n fr H=> ∃k:Nat,k<=(orb h).length/\n=(orb h).length-k/\fr=[(34,I k),(33,I (orb h).length),(32,roI (orb h)),(10,roI (orb h)),(16,I h),(15,I N),(8, .sl 1 0 0 N),(7, .sl 1 2 0 (cysN N want orb h).1.length),(1, .fn w [.rp c 0]),(2, .fn g [.rp c 0])]/\
      H=[(2, .cells 22 (.lst ((cysN N want orb h).1.map roF))),(0, .cells 4 (.bools (ybx seen0 ((orb h).take k))))]) ?_ ?_
     ·refine ⟨_,_,_,?_,0,by omega,rfl,rfl,rfl⟩
      refine Wk.sub ?_ ?_<;>simp only [go_sem,sevalprocAttr]
      all_goals simp [ybx]
     rintro n fr H ⟨k,hk,rfl,rfl,rfl⟩
     have ml:=yf1 ((orb h).take k) seen0
     by_cases hkl:k<(orb h).length
     ·have hr:=o2 ((orb h).getD k 0) (by simp [hkl])
      repeat' (first|omega|(try apply yaa);simp only [go_sem,sevalprocAttr]|apply yab<;>(intro h_;(try simp only [h_]);revert h_)|apply And.intro|with_reducible intro h_|trivial|simp only [go_sem,la2];omega)
      refine ⟨_,_,_,?_,?_,⟨k+1,by omega,rfl,rfl,rfl⟩⟩
      ·omega
      ·refine Wk.sub ?_ ?_<;>simp only [go_sem,sevalprocAttr]
       rw [List.take_succ_eq_append_getElem hkl,ygv]
       simp [ybx,hkl]
     ·obtain rfl:k=(orb h).length:=by omega
      rw [List.take_of_length_le (Nat.le_refl _)]
      repeat' (first|omega|(try apply yaa);simp only [go_sem,sevalprocAttr]|apply yab<;>(intro h_;(try simp only [h_]);revert h_)|apply And.intro|with_reducible intro h_|trivial|simp only [go_sem,la2];omega)
      refine ⟨_,_,_,?_,?_,⟨h+1,by omega,rfl, .inr ⟨rfl,rfl⟩⟩⟩
      ·omega
      ·refine Wk.sub ?_ ?_<;>(simp only [go_sem,sevalprocAttr];rw [eS];simp only [go_sem,sevalprocAttr])
       all_goals simp_all [roF]
   ·have hst:(cysN N want orb h).2.getD h false=true:=by assumption
    have eS:cysN N want orb (h+1)=cysN N want orb h:=by simp only [cysN,cys1];rw [if_pos (by rw [hst];simp)]
    refine ⟨_,_,_,?_,?_,⟨h+1,by omega,rfl, .inr ⟨rfl,rfl⟩⟩⟩
    ·omega
    ·refine Wk.sub ?_ ?_<;>(simp only [go_sem,sevalprocAttr];try rw [eS];try simp only [yfa,and_self])
  ·obtain rfl:h=N:=by omega
   repeat' (first|omega|(try apply yaa);simp only [go_sem,sevalprocAttr]|apply yab<;>(intro h_;(try simp only [h_]);revert h_)|apply And.intro|with_reducible intro h_|trivial|simp only [go_sem,la2];omega)
   all_goals first|(rw [hnil];exact LeA.nils (by omega) rfl)|(exact you _ _ _ _ ‹_›)|exact LeA.of (by rw [List.take_of_length_le (by simp)])
end Go.Proofs.YtjpnnnognoaaiaaDoor
set_option linter.unusedSimpArgs false
set_option linter.unusedVariables false
namespace Go.Proofs.YtjpnnnognoaaiaaDoor
open Go Go.RowKit
set_option maxRecDepth 100000
set_option maxHeartbeats 4000000
def yx9:Tr:= .node [(0, .node [(1, .node [(2,trD [3,4,5,6]),(3, .node [(2,trD [4,5,6]),(4,trD [2,5,6])])]),(3, .node [(1, .node [(2,trD [4,5,6]),(4,trD [2,5,6])]),(4,trD [1,2,5,6])])]),(3, .node [(0, .node [(1, .node [(2,trD [4,5,6]),(4,trD [2,5,6])]),(4,trD [1,2,5,6])]),(4,trD [0,1,2,5,6])])]
def ygz (s m:List Int) (L:Int):List (List Int):=if yag s m L then yak s m else []
theorem y4z (s m:List Int) (L:Int) (hv:ybf s m L) (h:Nat) (hh:h<4*s.length):(orbF (yal m) m.length h).length<=m.length/\(∀x∈orbF (yal m) m.length h,0<=x/\x<m.length)/\
  Fn Tryd.prog 68 [I h, .fn 57 [.rp (dgC s m L) 0]] (roI (orbF (yal m) m.length h)):=by
 have hR:InR s.length (h:Int):=by unfold InR;omega
 have hl:=hv.len
 have h64:=hv.s64
 have hof:=ydw (yfk hv.prd) hR
 rw [←hl] at hof
 obtain ⟨_,o2,_,_,_,o6,_,k,hk,hper,e⟩:=hof
 refine ⟨o6,fun x hx=>by have:=o2 x hx;unfold InR at this;omega,?_⟩
 rw [e]
 refine y1n _ _ (yal m) h k hper (by omega) fun j hj=>?_
 have hr:=(yfk hv.prd).it hR j
 have hr2:=hv.prd.rng hr
 unfold InR at hr hr2
 exact ynx s m L _ hr.1 (by omega) hr2.1 (by omega)
theorem ym0 (s m:List Int) (L:Int):Fn Tryd.prog 36 [dgA s m L] (roLL (ygz s m L)):=by
 refine Fn.introL [.tmp 2] Tryd.func36 rfl rfl (by decide) (by simp [Tryd.ntmps36]) ?_;rw [Tryd.ntmps36]
 repeat' (first|omega|(try apply yaa);simp only [go_sem,sevalprocAttr]|apply yab<;>(intro h_;(try simp only [h_]);revert h_)|apply And.intro|with_reducible intro h_|trivial|simp only [go_sem,la2];omega)
 refine ⟨yae.fn rfl (ybs s m L) ?_⟩
 cases hv:yag s m L with
 |false=>
  repeat' (first|omega|(try apply yaa);simp only [go_sem,sevalprocAttr]|apply yab<;>(intro h_;(try simp only [h_]);revert h_)|apply And.intro|with_reducible intro h_|trivial|simp only [go_sem,la2];omega)
  unfold ygz
  rw [hv]
  exact LeA.nils (by omega) rfl
 |true=>
  have v1:=yan hv
  have h64:=v1.s64
  have hl:=v1.len
  repeat' (first|omega|(try apply yaa);simp only [go_sem,sevalprocAttr]|apply yab<;>(intro h_;(try simp only [h_]);revert h_)|apply And.intro|with_reducible intro h_|trivial|simp only [go_sem,la2];omega)
  refine ⟨yae.frz [0] rfl (by simp only [go_sem,sevalprocAttr]) (by simp only [go_sem,sevalprocAttr]) (by simp only [go_sem,sevalprocAttr]) (by simp only [go_sem,sevalprocAttr]) rfl rfl rfl (yae.fn rfl (yx8 m.length _ _ (dgC s m L) (outB s) (orbF (yal m) m.length) (by omega) (fun h hh=>yo9 s m L h (by omega) (by omega) (by omega)) (fun h hh _=>y4z s m L v1 h (by omega))) ?_)⟩
  repeat' (first|omega|(try apply yaa);simp only [go_sem,sevalprocAttr]|apply yab<;>(intro h_;(try simp only [h_]);revert h_)|apply And.intro|with_reducible intro h_|trivial|simp only [go_sem,la2];omega)
  unfold ygz yak
  rw [hv]
  exact LeA.refl _
theorem ypa (s m:List Int) (L:Int):Fn Tryd.prog 44 [dgA s m L] (I (if yag s m L then (yak s m).length+L else 0)):=by
 refine Fn.intro [.tmp 2] Tryd.func44 rfl rfl (by decide) (by simp [Tryd.ntmps44]) ?_;rw [Tryd.ntmps44]
 repeat' (first|omega|(try apply yaa);simp only [go_sem,sevalprocAttr]|apply yab<;>(intro h_;(try simp only [h_]);revert h_)|apply And.intro|with_reducible intro h_|trivial|simp only [go_sem,la2];omega)
 refine ⟨yae.fn rfl (ybs s m L) ?_⟩
 have hS:=ym0 s m L
 unfold ygz at hS
 have hsl:=yjt s m
 cases hv:yag s m L with
 |false=>
  repeat' (first|omega|(try apply yaa);simp only [go_sem,sevalprocAttr]|apply yab<;>(intro h_;(try simp only [h_]);revert h_)|apply And.intro|with_reducible intro h_|trivial|simp only [go_sem,la2];omega)
 |true=>
  rw [hv,if_pos rfl] at hS
  have v1:=yan hv
  have h64:=v1.s64
  have hl:=v1.len
  have h0:=v1.l0
  have h1:=v1.l64
  repeat' (first|omega|(first|apply yaa|(refine yac.intro (id:=3) [[9,10],[9,10],[9,10],[6,7,8],[6,7,8],[],[]] [[],[],[],[0,1,2],[0,1,2],[],[]] (by decide+kernel) mixed ?_)|(refine yac.introT (id:=3) (yx9) (by decide+kernel) mixed ?_)|skip);simp only [go_sem,sevalprocAttr,↓reduceIte,reduceCtorEq,yx9]|apply yab<;>(intro h_;(try simp only [h_]);revert h_)|apply And.intro|with_reducible intro h_|trivial|simp only [go_sem,la2];omega)
  refine ⟨ya6.fn rfl hS ?_⟩
  repeat' (first|omega|(try apply yaa);simp only [go_sem,sevalprocAttr]|apply yab<;>(intro h_;(try simp only [h_]);revert h_)|apply And.intro|with_reducible intro h_|trivial|simp only [go_sem,la2];omega)
end Go.Proofs.YtjpnnnognoaaiaaDoor
