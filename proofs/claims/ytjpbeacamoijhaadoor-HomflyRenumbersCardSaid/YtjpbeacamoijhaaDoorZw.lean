/- Layer 1: cycles, strands. -/
import Derived.Test.YtjpbeacamoijhaaDoorZv
import Derived.Test.YtjpbeacamoijhaaDoorZu
import Derived.Test.YtjpbeacamoijhaaDoorPl
set_option linter.unusedSimpArgs false
set_option linter.unusedVariables false
namespace Go.Proofs.YtjpbeacamoijhaaDoor
open Go Go.RowKit
set_option maxRecDepth 100000
set_option maxHeartbeats 4000000
theorem yti (h:Int) (h0:0<=h) (h1:h<=100000):Fn Tryd.prog 67 [I h] (I (ybb h 2)):=by
 refine Fn.intro [.tmp 2] Tryd.func67 rfl rfl (by decide) (by simp [Tryd.ntmps67]) ?_;rw [Tryd.ntmps67]
 repeat' (first|omega|(try apply yaa);simp only [go_sem,sevalprocAttr]|apply yab<;>(intro h_;(try simp only [h_]);revert h_)|apply And.intro|with_reducible intro h_|trivial|simp only [go_sem,la2];omega)
 refine ⟨yad.fn rfl (yoh h 2 h0 h1) ?_⟩
 repeat' (first|omega|(try apply yaa);simp only [go_sem,sevalprocAttr]|apply yab<;>(intro h_;(try simp only [h_]);revert h_)|apply And.intro|with_reducible intro h_|trivial|simp only [go_sem,la2];omega)
theorem ypq (s m:List Int) (L h:Int) (h0:0<=h) (h1:h<4*s.length) (hs:s.length<=1000):Fn Tryd.prog 64 [I h, .rp (dgC s m L) 0] (.bool (outB s h)):=by
 refine Fn.intro [.tmp 3] Tryd.func64 rfl rfl (by decide) (by simp [Tryd.ntmps64]) ?_;rw [Tryd.ntmps64]
 repeat' (first|omega|(try apply yaa);simp only [go_sem,sevalprocAttr]|apply yab<;>(intro h_;(try simp only [h_]);revert h_)|apply And.intro|with_reducible intro h_|trivial|simp only [go_sem,la2];omega)
 refine ⟨yad.fn rfl (yhl s m L h h0 h1 hs) ?_⟩
 repeat' (first|omega|(try apply yaa);simp only [go_sem,sevalprocAttr]|apply yab<;>(intro h_;(try simp only [h_]);revert h_)|apply And.intro|with_reducible intro h_|trivial|simp only [go_sem,la2];omega)
theorem yoi (s m:List Int) (L h:Int) (h0:0<=h) (h1:h<m.length) (g0:0<=m.getD h.toNat 0) (g1:m.getD h.toNat 0<=100000):Fn Tryd.prog 66 [I h, .rp (dgC s m L) 0] (I (ybb (m.getD h.toNat 0) 2)):=by
 refine Fn.intro [.tmp 3] Tryd.func66 rfl rfl (by decide) (by simp [Tryd.ntmps66]) ?_;rw [Tryd.ntmps66]
 repeat' (first|omega|(try apply yaa);simp only [go_sem,sevalprocAttr]|apply yab<;>(intro h_;(try simp only [h_]);revert h_)|apply And.intro|with_reducible intro h_|trivial|simp only [go_sem,la2];omega)
 refine ⟨yad.fn rfl (yti _ g0 g1) ?_⟩
 repeat' (first|omega|(try apply yaa);simp only [go_sem,sevalprocAttr]|apply yab<;>(intro h_;(try simp only [h_]);revert h_)|apply And.intro|with_reducible intro h_|trivial|simp only [go_sem,la2];omega)
theorem y0i (N:Nat) (w g:Nat) (c:Cs) (want:Int->Bool) (orb:Int->List Int) (hN:N<=10000) (hw: ∀h:Nat,h<N->Fn Tryd.prog w [I h, .rp c 0] (.bool (want h)))
  (ho: ∀h:Nat,h<N->want h=true->(orb h).length<=N/\(∀x∈orb h,0<=x/\x<N)/\Fn Tryd.prog 74 [I h, .fn g [.rp c 0]] (roI (orb h))):
  Fn Tryd.prog 65 [I N, .fn w [.rp c 0], .fn g [.rp c 0]] (roLL (cysN N want orb N).1):=by
 refine Fn.introL [.tmp 6] Tryd.func65 rfl rfl (by decide) (by simp [Tryd.ntmps65]) ?_;rw [Tryd.ntmps65]
 repeat' (first|omega|(try apply yaa);simp only [go_sem,sevalprocAttr]|apply yab<;>(intro h_;(try simp only [h_]);revert h_)|apply And.intro|with_reducible intro h_|trivial|simp only [go_sem,la2];omega)
 refine yat.intro (fun n fr H=> ∃h:Nat,h<=N/\n=N-h/\(((cysN N want orb h).1=[]/\fr=[(16,I h),(15,I N),(8, .sl 1 0 0 N),(7, .nils),(1, .fn w [.rp c 0]),(2, .fn g [.rp c 0])]/\H=[(0, .cells 4 (.bools (cysN N want orb h).2))])\/
  (fr=[(16,I h),(15,I N),(8, .sl 1 0 0 N),(7, .sl 1 2 0 (cysN N want orb h).1.length),(1, .fn w [.rp c 0]),(2, .fn g [.rp c 0])]/\H=[(2, .cells 22 (.lst ((cysN N want orb h).1.map roF))),(0, .cells 4 (.bools (cysN N want orb h).2))]))) ?_ ?_
 ·refine ⟨_,_,_,?_,0,by omega,rfl, .inl ⟨rfl,rfl,rfl⟩⟩
  refine Wk.sub ?_ ?_<;>simp only [go_sem,sevalprocAttr]
  rfl
 rintro n fr H ⟨h,hh,rfl,hcase⟩
 obtain ⟨e1,e2⟩:=yip N want orb h
 rcases hcase with ⟨hnil,rfl,rfl⟩|⟨rfl,rfl⟩
 ·by_cases hlt:h<N
  ·have hwf:=hw h hlt
   repeat' (first|omega|(try apply yaa);simp only [go_sem,sevalprocAttr]|apply yab<;>(intro h_;(try simp only [h_]);revert h_)|apply And.intro|with_reducible intro h_|trivial|simp only [go_sem,la2];omega)
   ·refine ⟨yad.fn rfl hwf ?_⟩
    repeat' (first|omega|(try apply yaa);simp only [go_sem,sevalprocAttr]|apply yab<;>(intro h_;(try simp only [h_]);revert h_)|apply And.intro|with_reducible intro h_|trivial|simp only [go_sem,la2];omega)
    ·have hwt:want h=false:=by assumption
     have eS:cysN N want orb (h+1)=cysN N want orb h:=by simp only [cysN,cys1];rw [if_pos (by rw [hwt];simp)]
     refine ⟨_,_,_,?_,?_,⟨h+1,by omega,rfl, .inl ⟨by rw [eS];exact hnil,rfl,rfl⟩⟩⟩
     ·omega
     ·refine Wk.sub ?_ ?_<;>(simp only [go_sem,sevalprocAttr];try rw [eS];try simp only [yfc,and_self])
    ·have hwt:want h=true:=by assumption
     have hsf:(cysN N want orb h).2.getD h false=false:=by assumption
     have eS:cysN N want orb (h+1)=((cysN N want orb h).1++[orb h],yby (cysN N want orb h).2 (orb h)):=by simp only [cysN,cys1];rw [if_neg (by rw [hwt,hsf];simp)]
     obtain ⟨o1,o2,o3⟩:=ho h hlt hwt
     refine ⟨yad.fn rfl o3 ?_⟩
     repeat' (first|omega|(try apply yaa);simp only [go_sem,sevalprocAttr]|apply yab<;>(intro h_;(try simp only [h_]);revert h_)|apply And.intro|with_reducible intro h_|trivial|simp only [go_sem,la2];omega)
     generalize (cysN N want orb h).2=seen0 at*
     refine yat.intro (fun n fr H=> ∃k:Nat,k<=(orb h).length/\n=(orb h).length-k/\fr=[(34,I k),(33,I (orb h).length),(32,roI (orb h)),(10,roI (orb h)),(16,I h),(15,I N),(8, .sl 1 0 0 N),(7, .nils),(1, .fn w [.rp c 0]),(2, .fn g [.rp c 0])]/\
      H=[(0, .cells 4 (.bools (yby seen0 ((orb h).take k))))]) ?_ ?_
     ·refine ⟨_,_,_,?_,0,by omega,rfl,rfl,rfl⟩
      refine Wk.sub ?_ ?_<;>simp only [go_sem,sevalprocAttr]
      all_goals simp [yby]
     rintro n fr H ⟨k,hk,rfl,rfl,rfl⟩
     have ml:=yf3 ((orb h).take k) seen0
     by_cases hkl:k<(orb h).length
     ·have hr:=o2 ((orb h).getD k 0) (by simp [hkl])
      repeat' (first|omega|(try apply yaa);simp only [go_sem,sevalprocAttr]|apply yab<;>(intro h_;(try simp only [h_]);revert h_)|apply And.intro|with_reducible intro h_|trivial|simp only [go_sem,la2];omega)
      refine ⟨_,_,_,?_,?_,⟨k+1,by omega,rfl,rfl,rfl⟩⟩
      ·omega
      ·refine Wk.sub ?_ ?_<;>simp only [go_sem,sevalprocAttr]
       rw [List.take_succ_eq_append_getElem hkl,ygx]
       simp [yby,hkl]
     ·obtain rfl:k=(orb h).length:=by omega
      rw [List.take_of_length_le (Nat.le_refl _)]
      repeat' (first|omega|(try apply yaa);simp only [go_sem,sevalprocAttr]|apply yab<;>(intro h_;(try simp only [h_]);revert h_)|apply And.intro|with_reducible intro h_|trivial|simp only [go_sem,la2];omega)
      refine ⟨_,_,_,?_,?_,⟨h+1,by omega,rfl, .inr ⟨rfl,rfl⟩⟩⟩
      ·omega
      ·refine Wk.sub ?_ ?_<;>(simp only [go_sem,sevalprocAttr];rw [eS];simp only [go_sem,sevalprocAttr])
       all_goals simp_all [roF]
   ·have hst:(cysN N want orb h).2.getD h false=true:=by assumption
    have eS:cysN N want orb (h+1)=cysN N want orb h:=by simp only [cysN,cys1];rw [if_pos (by rw [hst];simp)]
    refine ⟨_,_,_,?_,?_,⟨h+1,by omega,rfl, .inl ⟨by rw [eS];exact hnil,rfl,rfl⟩⟩⟩
    ·omega
    ·refine Wk.sub ?_ ?_<;>(simp only [go_sem,sevalprocAttr];try rw [eS];try simp only [yfc,and_self])
  ·obtain rfl:h=N:=by omega
   repeat' (first|omega|(try apply yaa);simp only [go_sem,sevalprocAttr]|apply yab<;>(intro h_;(try simp only [h_]);revert h_)|apply And.intro|with_reducible intro h_|trivial|simp only [go_sem,la2];omega)
   all_goals first|(rw [hnil];exact LeA.nils (by omega) rfl)|(exact ye0 _ _ _ _ ‹_›)|exact LeA.of (by rw [List.take_of_length_le (by simp)])
 ·by_cases hlt:h<N
  ·have hwf:=hw h hlt
   repeat' (first|omega|(try apply yaa);simp only [go_sem,sevalprocAttr]|apply yab<;>(intro h_;(try simp only [h_]);revert h_)|apply And.intro|with_reducible intro h_|trivial|simp only [go_sem,la2];omega)
   ·refine ⟨yad.fn rfl hwf ?_⟩
    repeat' (first|omega|(try apply yaa);simp only [go_sem,sevalprocAttr]|apply yab<;>(intro h_;(try simp only [h_]);revert h_)|apply And.intro|with_reducible intro h_|trivial|simp only [go_sem,la2];omega)
    ·have hwt:want h=false:=by assumption
     have eS:cysN N want orb (h+1)=cysN N want orb h:=by simp only [cysN,cys1];rw [if_pos (by rw [hwt];simp)]
     refine ⟨_,_,_,?_,?_,⟨h+1,by omega,rfl, .inr ⟨rfl,rfl⟩⟩⟩
     ·omega
     ·refine Wk.sub ?_ ?_<;>(simp only [go_sem,sevalprocAttr];try rw [eS];try simp only [yfc,and_self])
    ·have hwt:want h=true:=by assumption
     have hsf:(cysN N want orb h).2.getD h false=false:=by assumption
     have eS:cysN N want orb (h+1)=((cysN N want orb h).1++[orb h],yby (cysN N want orb h).2 (orb h)):=by simp only [cysN,cys1];rw [if_neg (by rw [hwt,hsf];simp)]
     obtain ⟨o1,o2,o3⟩:=ho h hlt hwt
     refine ⟨yad.fn rfl o3 ?_⟩
     repeat' (first|omega|(try apply yaa);simp only [go_sem,sevalprocAttr]|apply yab<;>(intro h_;(try simp only [h_]);revert h_)|apply And.intro|with_reducible intro h_|trivial|simp only [go_sem,la2];omega)
     generalize (cysN N want orb h).2=seen0 at*
     refine yat.intro (fun n fr H=> ∃k:Nat,k<=(orb h).length/\n=(orb h).length-k/\fr=[(34,I k),(33,I (orb h).length),(32,roI (orb h)),(10,roI (orb h)),(16,I h),(15,I N),(8, .sl 1 0 0 N),(7, .sl 1 2 0 (cysN N want orb h).1.length),(1, .fn w [.rp c 0]),(2, .fn g [.rp c 0])]/\
      H=[(2, .cells 22 (.lst ((cysN N want orb h).1.map roF))),(0, .cells 4 (.bools (yby seen0 ((orb h).take k))))]) ?_ ?_
     ·refine ⟨_,_,_,?_,0,by omega,rfl,rfl,rfl⟩
      refine Wk.sub ?_ ?_<;>simp only [go_sem,sevalprocAttr]
      all_goals simp [yby]
     rintro n fr H ⟨k,hk,rfl,rfl,rfl⟩
     have ml:=yf3 ((orb h).take k) seen0
     by_cases hkl:k<(orb h).length
     ·have hr:=o2 ((orb h).getD k 0) (by simp [hkl])
      repeat' (first|omega|(try apply yaa);simp only [go_sem,sevalprocAttr]|apply yab<;>(intro h_;(try simp only [h_]);revert h_)|apply And.intro|with_reducible intro h_|trivial|simp only [go_sem,la2];omega)
      refine ⟨_,_,_,?_,?_,⟨k+1,by omega,rfl,rfl,rfl⟩⟩
      ·omega
      ·refine Wk.sub ?_ ?_<;>simp only [go_sem,sevalprocAttr]
       rw [List.take_succ_eq_append_getElem hkl,ygx]
       simp [yby,hkl]
     ·obtain rfl:k=(orb h).length:=by omega
      rw [List.take_of_length_le (Nat.le_refl _)]
      repeat' (first|omega|(try apply yaa);simp only [go_sem,sevalprocAttr]|apply yab<;>(intro h_;(try simp only [h_]);revert h_)|apply And.intro|with_reducible intro h_|trivial|simp only [go_sem,la2];omega)
      refine ⟨_,_,_,?_,?_,⟨h+1,by omega,rfl, .inr ⟨rfl,rfl⟩⟩⟩
      ·omega
      ·refine Wk.sub ?_ ?_<;>(simp only [go_sem,sevalprocAttr];rw [eS];simp only [go_sem,sevalprocAttr])
       all_goals simp_all [roF]
   ·have hst:(cysN N want orb h).2.getD h false=true:=by assumption
    have eS:cysN N want orb (h+1)=cysN N want orb h:=by simp only [cysN,cys1];rw [if_pos (by rw [hst];simp)]
    refine ⟨_,_,_,?_,?_,⟨h+1,by omega,rfl, .inr ⟨rfl,rfl⟩⟩⟩
    ·omega
    ·refine Wk.sub ?_ ?_<;>(simp only [go_sem,sevalprocAttr];try rw [eS];try simp only [yfc,and_self])
  ·obtain rfl:h=N:=by omega
   repeat' (first|omega|(try apply yaa);simp only [go_sem,sevalprocAttr]|apply yab<;>(intro h_;(try simp only [h_]);revert h_)|apply And.intro|with_reducible intro h_|trivial|simp only [go_sem,la2];omega)
   all_goals first|(rw [hnil];exact LeA.nils (by omega) rfl)|(exact ye0 _ _ _ _ ‹_›)|exact LeA.of (by rw [List.take_of_length_le (by simp)])
end Go.Proofs.YtjpbeacamoijhaaDoor
set_option linter.unusedSimpArgs false
set_option linter.unusedVariables false
namespace Go.Proofs.YtjpbeacamoijhaaDoor
open Go Go.RowKit
set_option maxRecDepth 100000
set_option maxHeartbeats 4000000
def y0j:Tr:= .node [(0, .node [(1, .node [(2,trD [3,4,5,6]),(3, .node [(2,trD [4,5,6]),(4,trD [2,5,6])])]),(3, .node [(1, .node [(2,trD [4,5,6]),(4,trD [2,5,6])]),(4,trD [1,2,5,6])])]),(3, .node [(0, .node [(1, .node [(2,trD [4,5,6]),(4,trD [2,5,6])]),(4,trD [1,2,5,6])]),(4,trD [0,1,2,5,6])])]
def yg5 (s m:List Int) (L:Int):List (List Int):=if yai s m L then yak s m else []
theorem y6s (s m:List Int) (L:Int) (hv:ybd s m L) (h:Nat) (hh:h<4*s.length):(orbF (yam m) m.length h).length<=m.length/\(∀x∈orbF (yam m) m.length h,0<=x/\x<m.length)/\
  Fn Tryd.prog 74 [I h, .fn 66 [.rp (dgC s m L) 0]] (roI (orbF (yam m) m.length h)):=by
 have hR:InR s.length (h:Int):=by unfold InR;omega
 have hl:=hv.len
 have h64:=hv.s64
 have hof:=ydv (yfo hv.prd) hR
 rw [←hl] at hof
 obtain ⟨_,o2,_,_,_,o6,_,k,hk,hper,e⟩:=hof
 refine ⟨o6,fun x hx=>by have:=o2 x hx;unfold InR at this;omega,?_⟩
 rw [e]
 refine y3b _ _ (yam m) h k hper (by omega) fun j hj=>?_
 have hr:=(yfo hv.prd).it hR j
 have hr2:=hv.prd.rng hr
 unfold InR at hr hr2
 exact yoi s m L _ hr.1 (by omega) hr2.1 (by omega)
theorem ynm (s m:List Int) (L:Int):Fn Tryd.prog 50 [dgA s m L] (roLL (yg5 s m L)):=by
 refine Fn.introL [.tmp 2] Tryd.func50 rfl rfl (by decide) (by simp [Tryd.ntmps50]) ?_;rw [Tryd.ntmps50]
 repeat' (first|omega|(try apply yaa);simp only [go_sem,sevalprocAttr]|apply yab<;>(intro h_;(try simp only [h_]);revert h_)|apply And.intro|with_reducible intro h_|trivial|simp only [go_sem,la2];omega)
 refine ⟨yad.fn rfl (yeu s m L) ?_⟩
 cases hv:yai s m L with
 |false=>
  repeat' (first|omega|(try apply yaa);simp only [go_sem,sevalprocAttr]|apply yab<;>(intro h_;(try simp only [h_]);revert h_)|apply And.intro|with_reducible intro h_|trivial|simp only [go_sem,la2];omega)
  unfold yg5
  rw [hv]
  exact LeA.nils (by omega) rfl
 |true=>
  have v1:=yal hv
  have h64:=v1.s64
  have hl:=v1.len
  repeat' (first|omega|(try apply yaa);simp only [go_sem,sevalprocAttr]|apply yab<;>(intro h_;(try simp only [h_]);revert h_)|apply And.intro|with_reducible intro h_|trivial|simp only [go_sem,la2];omega)
  refine ⟨yad.frz [0] rfl (by simp only [go_sem,sevalprocAttr]) (by simp only [go_sem,sevalprocAttr]) (by simp only [go_sem,sevalprocAttr]) (by simp only [go_sem,sevalprocAttr]) rfl rfl rfl (yad.fn rfl (y0i m.length _ _ (dgC s m L) (outB s) (orbF (yam m) m.length) (by omega) (fun h hh=>ypq s m L h (by omega) (by omega) (by omega)) (fun h hh _=>y6s s m L v1 h (by omega))) ?_)⟩
  repeat' (first|omega|(try apply yaa);simp only [go_sem,sevalprocAttr]|apply yab<;>(intro h_;(try simp only [h_]);revert h_)|apply And.intro|with_reducible intro h_|trivial|simp only [go_sem,la2];omega)
  unfold yg5 yak
  rw [hv]
  exact LeA.refl _
theorem ypr (s m:List Int) (L:Int):Fn Tryd.prog 33 [dgA s m L] (I (if yai s m L then (yak s m).length+L else 0)):=by
 refine Fn.intro [.tmp 2] Tryd.func33 rfl rfl (by decide) (by simp [Tryd.ntmps33]) ?_;rw [Tryd.ntmps33]
 repeat' (first|omega|(try apply yaa);simp only [go_sem,sevalprocAttr]|apply yab<;>(intro h_;(try simp only [h_]);revert h_)|apply And.intro|with_reducible intro h_|trivial|simp only [go_sem,la2];omega)
 refine ⟨yad.fn rfl (yeu s m L) ?_⟩
 have hS:=ynm s m L
 unfold yg5 at hS
 have hsl:=yfb s m
 cases hv:yai s m L with
 |false=>
  repeat' (first|omega|(try apply yaa);simp only [go_sem,sevalprocAttr]|apply yab<;>(intro h_;(try simp only [h_]);revert h_)|apply And.intro|with_reducible intro h_|trivial|simp only [go_sem,la2];omega)
 |true=>
  rw [hv,if_pos rfl] at hS
  have v1:=yal hv
  have h64:=v1.s64
  have hl:=v1.len
  have h0:=v1.l0
  have h1:=v1.l64
  repeat' (first|omega|(first|apply yaa|(refine yaf.intro (id:=3) [[9,10],[9,10],[9,10],[6,7,8],[6,7,8],[],[]] [[],[],[],[0,1,2],[0,1,2],[],[]] (by decide+kernel) mixed ?_)|(refine yaf.introT (id:=3) (y0j) (by decide+kernel) mixed ?_)|skip);simp only [go_sem,sevalprocAttr,↓reduceIte,reduceCtorEq,y0j]|apply yab<;>(intro h_;(try simp only [h_]);revert h_)|apply And.intro|with_reducible intro h_|trivial|simp only [go_sem,la2];omega)
  refine ⟨yan.fn rfl hS ?_⟩
  repeat' (first|omega|(try apply yaa);simp only [go_sem,sevalprocAttr]|apply yab<;>(intro h_;(try simp only [h_]);revert h_)|apply And.intro|with_reducible intro h_|trivial|simp only [go_sem,la2];omega)
end Go.Proofs.YtjpbeacamoijhaaDoor
set_option linter.unusedSimpArgs false
set_option linter.unusedVariables false
namespace Go.Proofs.YtjpbeacamoijhaaDoor
open Go Go.RowKit
set_option maxRecDepth 100000
set_option maxHeartbeats 4000000
def yp5 (s m:List Int) (L:Int):Int×Bool:=if yai s m L then (match badO s m with|some c=>(c,false)|none=>(-1,true)) else (-1,false)
theorem yph {α:Type} (l:List α) (k:Nat) (d:α) (h:k<l.length):l.drop k=l.getD k d::l.drop (k+1):=by
 rw [List.drop_eq_getElem_cons h];simp [h]
theorem yps (s m:List Int) (L:Int):Fn Tryd.prog 49 [dgA s m L] (.tup [I (yp5 s m L).1, .bool (yp5 s m L).2]):=by
 refine Fn.intro [.tmp 2, .tmp 3] Tryd.func49 rfl rfl (by decide) (by simp [Tryd.ntmps49]) ?_;rw [Tryd.ntmps49]
 repeat' (first|omega|(try apply yaa);simp only [go_sem,sevalprocAttr]|apply yab<;>(intro h_;(try simp only [h_]);revert h_)|apply And.intro|with_reducible intro h_|trivial|simp only [go_sem,la2];omega)
 refine ⟨yad.fn rfl (yeu s m L) ?_⟩
 have hS:=ynm s m L
 unfold yg5 at hS
 have hsl:=yfb s m
 unfold yp5
 cases hv:yai s m L with
 |false=>
  repeat' (first|omega|(try apply yaa);simp only [go_sem,sevalprocAttr]|apply yab<;>(intro h_;(try simp only [h_]);revert h_)|apply And.intro|with_reducible intro h_|trivial|simp only [go_sem,la2];omega)
 |true=>
  rw [hv,if_pos rfl] at hS
  have v1:=yal hv
  have h64:=v1.s64
  have hl:=v1.len
  have hmem:=fun l (hl:l∈yak s m)=>yg0 v1.prd hl
  unfold badO
  repeat' (first|omega|(try apply yaa);simp only [go_sem,sevalprocAttr]|apply yab<;>(intro h_;(try simp only [h_]);revert h_)|apply And.intro|with_reducible intro h_|trivial|simp only [go_sem,la2];omega)
  refine ⟨yad.fn rfl hS ?_⟩
  repeat' (first|omega|(try apply yaa);simp only [go_sem,sevalprocAttr]|apply yab<;>(intro h_;(try simp only [h_]);revert h_)|apply And.intro|with_reducible intro h_|trivial|simp only [go_sem,la2];omega)
  generalize yak s m=ls at*
  refine yat.intro (fun n fr H=> ∃(i:Nat) (v:List Bool),i<=ls.length/\n=ls.length-i/\v.length=s.length/\ydr v (ls.drop i)=ydr (List.replicate s.length false) ls/\fr=[(19,I i),(18,I ls.length),(17,roLL ls),(4, .sl 1 1 0 s.length)]/\H=[(1, .cells 4 (.bools v))]) ?_ ?_
  ·refine ⟨_,_,_,?_,0,List.replicate s.length false,by omega,rfl,by simp,rfl,rfl,rfl⟩
   refine Wk.sub ?_ ?_<;>simp only [go_sem,sevalprocAttr]
  rintro n fr H ⟨i,v,hi,rfl,hvl,hbad,rfl,rfl⟩
  by_cases hil:i<ls.length
  ·have hg:=yqz ls i hil
   have hme:=hmem (ls.getD i []) (by simp [hil])
   rw [yph ls i [] hil] at hbad
   generalize ls.getD i []=l at*
   repeat' (first|omega|(try apply yaa);simp only [go_sem,sevalprocAttr,hg]|apply yab<;>(intro h_;(try simp only [h_]);revert h_)|apply And.intro|with_reducible intro h_|trivial|simp only [go_sem,la2];omega)
   refine yat.intro (fun n fr H=> ∃(k:Nat) (v':List Bool),k<=l.length/\n=l.length-k/\v'.length=s.length/\badS v' (l.drop k)=badS v l/\fr=[(25,I k),(24,I l.length),(23,roI l),(19,I i),(18,I ls.length),(17,roLL ls),(4, .sl 1 1 0 s.length)]/\H=[(1, .cells 4 (.bools v'))]) ?_ ?_
   ·refine ⟨_,_,_,?_,0,v,by omega,rfl,hvl,rfl,rfl,rfl⟩
    refine Wk.sub ?_ ?_<;>simp only [go_sem,sevalprocAttr]
   rintro n fr H ⟨k,v',hk,rfl,hvl',hbs,rfl,rfl⟩
   by_cases hkl:k<l.length
   ·have hx:=hme.2 (l.getD k 0) (by simp [hkl])
    rw [yph l k 0 hkl] at hbs
    have e1:(l.getD k 0).tdiv 4=l.getD k 0/4:=yb9 hx.1
    have e2:(l.getD k 0).tmod 2=l.getD k 0 % 2:=yny hx.1
    have hstep: ¬(v'.getD (l.getD k 0/4).toNat false=false/\l.getD k 0 % 2=0)->badS (v'.set (l.getD k 0/4).toNat true) (l.drop (k+1))=badS v l:=fun hn=>by
     rw [←hbs];simp only [badS];rw [if_neg hn]
    have hhit:(v'.getD (l.getD k 0/4).toNat false=false/\l.getD k 0 % 2=0)->ydr (List.replicate s.length false) ls=some (l.getD k 0/4):=fun hn=>by
     rw [←hbad]
     simp only [badS] at hbs
     rw [if_pos hn] at hbs
     simp only [ydr,←hbs]
    repeat' (first|omega|(try apply yaa);simp only [go_sem,sevalprocAttr,e1,e2]|apply yab<;>(intro h_;(try simp only [h_]);revert h_)|apply And.intro|with_reducible intro h_|trivial|simp only [go_sem,la2];omega)
    ·rw [hhit ⟨by assumption,by assumption⟩]
    ·rw [hhit ⟨by assumption,by assumption⟩]
    all_goals refine ⟨_,_,_,?_,?_,⟨k+1,v'.set (l.getD k 0/4).toNat true,by omega,rfl,by simp [hvl'],hstep (by simp_all),rfl,rfl⟩⟩
    all_goals first|omega|refine Wk.sub ?_ ?_<;>simp only [go_sem,sevalprocAttr]
   ·obtain rfl:k=l.length:=by omega
    rw [List.drop_length] at hbs
    repeat' (first|omega|(try apply yaa);simp only [go_sem,sevalprocAttr]|apply yab<;>(intro h_;(try simp only [h_]);revert h_)|apply And.intro|with_reducible intro h_|trivial|simp only [go_sem,la2];omega)
    refine ⟨_,_,_,?_,?_,⟨i+1,v',by omega,rfl,hvl',?_,rfl,rfl⟩⟩
    ·omega
    ·refine Wk.sub ?_ ?_<;>simp only [go_sem,sevalprocAttr]
    ·rw [←hbad];simp only [ydr,←hbs,badS]
  ·obtain rfl:i=ls.length:=by omega
   rw [List.drop_length] at hbad
   rw [←hbad]
   repeat' (first|omega|(try apply yaa);simp only [go_sem,sevalprocAttr]|apply yab<;>(intro h_;(try simp only [h_]);revert h_)|apply And.intro|with_reducible intro h_|trivial|simp only [go_sem,la2];omega)
end Go.Proofs.YtjpbeacamoijhaaDoor
