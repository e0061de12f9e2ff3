/- Layer 1: the faces of a diagram. -/
import Derived.Test.YtngegnonblbdhaaDoorZp
set_option linter.unusedSimpArgs false
set_option linter.unusedVariables false
namespace Go.Proofs.YtngegnonblbdhaaDoor
open Go Go.RowKit
set_option maxRecDepth 100000
set_option maxHeartbeats 4000000
theorem yr4 (N:Nat) (w g:Nat) (c:Cs) (want:Int->Bool) (orb:Int->List Int) (hN:N<=10000) (hw: ∀h:Nat,h<N->Fn Tryd.prog w [I h] (.bool (want h)))
  (ho: ∀h:Nat,h<N->want h=true->(orb h).length<=N/\(∀x∈orb h,0<=x/\x<N)/\Fn Tryd.prog 84 [I h, .fn g [.rp c 0]] (roI (orb h))):
  Fn Tryd.prog 62 [I N, .fn w [], .fn g [.rp c 0]] (roLL (cysN N want orb N).1):=by
 refine Fn.introL [.tmp 6] Tryd.func62 rfl rfl (by decide) (by simp [Tryd.ntmps62]) ?_;rw [Tryd.ntmps62]
 repeat' (first|omega|(try apply yaa);simp only [go_sem,sevalprocAttr]|apply yab<;>(intro h_;(try simp only [h_]);revert h_)|apply And.intro|with_reducible intro h_|trivial|simp only [go_sem,la2];omega)
 refine yak.intro (fun n fr H=> ∃h:Nat,h<=N/\n=N-h/\(((cysN N want orb h).1=[]/\fr=[(16,I h),(15,I N),(8, .sl 1 0 0 N),(7, .nils),(1, .fn w []),(2, .fn g [.rp c 0])]/\H=[(0, .cells 4 (.bools (cysN N want orb h).2))])\/
  (fr=[(16,I h),(15,I N),(8, .sl 1 0 0 N),(7, .sl 1 2 0 (cysN N want orb h).1.length),(1, .fn w []),(2, .fn g [.rp c 0])]/\H=[(2, .cells 22 (.lst ((cysN N want orb h).1.map roF))),(0, .cells 4 (.bools (cysN N want orb h).2))]))) ?_ ?_
 ·refine ⟨_,_,_,?_,0,by omega,rfl, .inl ⟨rfl,rfl,rfl⟩⟩
  refine Wk.sub ?_ ?_<;>simp only [go_sem,sevalprocAttr]
  rfl
 rintro n fr H ⟨h,hh,rfl,hcase⟩
 obtain ⟨e1,e2⟩:=yji N want orb h
 rcases hcase with ⟨hnil,rfl,rfl⟩|⟨rfl,rfl⟩
 ·by_cases hlt:h<N
  ·have hwf:=hw h hlt
   repeat' (first|omega|(try apply yaa);simp only [go_sem,sevalprocAttr]|apply yab<;>(intro h_;(try simp only [h_]);revert h_)|apply And.intro|with_reducible intro h_|trivial|simp only [go_sem,la2];omega)
   ·refine ⟨yad.fn rfl hwf ?_⟩
    repeat' (first|omega|(try apply yaa);simp only [go_sem,sevalprocAttr]|apply yab<;>(intro h_;(try simp only [h_]);revert h_)|apply And.intro|with_reducible intro h_|trivial|simp only [go_sem,la2];omega)
    ·have hwt:want h=false:=by assumption
     have eS:cysN N want orb (h+1)=cysN N want orb h:=by simp only [cysN,cys1];rw [if_pos (by rw [hwt];simp)]
     refine ⟨_,_,_,?_,?_,⟨h+1,by omega,rfl, .inl ⟨by rw [eS];exact hnil,rfl,rfl⟩⟩⟩
     ·omega
     ·refine Wk.sub ?_ ?_<;>(simp only [go_sem,sevalprocAttr];try rw [eS];try simp only [yd2,and_self])
    ·have hwt:want h=true:=by assumption
     have hsf:(cysN N want orb h).2.getD h false=false:=by assumption
     have eS:cysN N want orb (h+1)=((cysN N want orb h).1++[orb h],ybc (cysN N want orb h).2 (orb h)):=by simp only [cysN,cys1];rw [if_neg (by rw [hwt,hsf];simp)]
     obtain ⟨o1,o2,o3⟩:=ho h hlt hwt
     refine ⟨yad.fn rfl o3 ?_⟩
     repeat' (first|omega|(try apply yaa);simp only [go_sem,sevalprocAttr]|apply yab<;>(intro h_;(try simp only [h_]);revert h_)|apply And.intro|with_reducible intro h_|trivial|simp only [go_sem,la2];omega)
     generalize (cysN N want orb h).2=seen0 at*
     refine yak.intro (fun n fr H=> ∃k:Nat,k<=(orb h).length/\n=(orb h).length-k/\fr=[(34,I k),(33,I (orb h).length),(32,roI (orb h)),(10,roI (orb h)),(16,I h),(15,I N),(8, .sl 1 0 0 N),(7, .nils),(1, .fn w []),(2, .fn g [.rp c 0])]/\
      H=[(0, .cells 4 (.bools (ybc seen0 ((orb h).take k))))]) ?_ ?_
     ·refine ⟨_,_,_,?_,0,by omega,rfl,rfl,rfl⟩
      refine Wk.sub ?_ ?_<;>simp only [go_sem,sevalprocAttr]
      all_goals simp [ybc]
     rintro n fr H ⟨k,hk,rfl,rfl,rfl⟩
     have ml:=yho ((orb h).take k) seen0
     by_cases hkl:k<(orb h).length
     ·have hr:=o2 ((orb h).getD k 0) (by simp [hkl])
      repeat' (first|omega|(try apply yaa);simp only [go_sem,sevalprocAttr]|apply yab<;>(intro h_;(try simp only [h_]);revert h_)|apply And.intro|with_reducible intro h_|trivial|simp only [go_sem,la2];omega)
      refine ⟨_,_,_,?_,?_,⟨k+1,by omega,rfl,rfl,rfl⟩⟩
      ·omega
      ·refine Wk.sub ?_ ?_<;>simp only [go_sem,sevalprocAttr]
       rw [List.take_succ_eq_append_getElem hkl,yfi]
       simp [ybc,hkl]
     ·obtain rfl:k=(orb h).length:=by omega
      rw [List.take_of_length_le (Nat.le_refl _)]
      repeat' (first|omega|(try apply yaa);simp only [go_sem,sevalprocAttr]|apply yab<;>(intro h_;(try simp only [h_]);revert h_)|apply And.intro|with_reducible intro h_|trivial|simp only [go_sem,la2];omega)
      refine ⟨_,_,_,?_,?_,⟨h+1,by omega,rfl, .inr ⟨rfl,rfl⟩⟩⟩
      ·omega
      ·refine Wk.sub ?_ ?_<;>(simp only [go_sem,sevalprocAttr];rw [eS];simp only [go_sem,sevalprocAttr])
       all_goals simp_all [roF]
   ·have hst:(cysN N want orb h).2.getD h false=true:=by assumption
    have eS:cysN N want orb (h+1)=cysN N want orb h:=by simp only [cysN,cys1];rw [if_pos (by rw [hst];simp)]
    refine ⟨_,_,_,?_,?_,⟨h+1,by omega,rfl, .inl ⟨by rw [eS];exact hnil,rfl,rfl⟩⟩⟩
    ·omega
    ·refine Wk.sub ?_ ?_<;>(simp only [go_sem,sevalprocAttr];try rw [eS];try simp only [yd2,and_self])
  ·obtain rfl:h=N:=by omega
   repeat' (first|omega|(try apply yaa);simp only [go_sem,sevalprocAttr]|apply yab<;>(intro h_;(try simp only [h_]);revert h_)|apply And.intro|with_reducible intro h_|trivial|simp only [go_sem,la2];omega)
   all_goals first|(rw [hnil];exact LeA.nils (by omega) rfl)|(exact yl5 _ _ _ _ ‹_›)|exact LeA.of (by rw [List.take_of_length_le (by simp)])
 ·by_cases hlt:h<N
  ·have hwf:=hw h hlt
   repeat' (first|omega|(try apply yaa);simp only [go_sem,sevalprocAttr]|apply yab<;>(intro h_;(try simp only [h_]);revert h_)|apply And.intro|with_reducible intro h_|trivial|simp only [go_sem,la2];omega)
   ·refine ⟨yad.fn rfl hwf ?_⟩
    repeat' (first|omega|(try apply yaa);simp only [go_sem,sevalprocAttr]|apply yab<;>(intro h_;(try simp only [h_]);revert h_)|apply And.intro|with_reducible intro h_|trivial|simp only [go_sem,la2];omega)
    ·have hwt:want h=false:=by assumption
     have eS:cysN N want orb (h+1)=cysN N want orb h:=by simp only [cysN,cys1];rw [if_pos (by rw [hwt];simp)]
     refine ⟨_,_,_,?_,?_,⟨h+1,by omega,rfl, .inr ⟨rfl,rfl⟩⟩⟩
     ·omega
     ·refine Wk.sub ?_ ?_<;>(simp only [go_sem,sevalprocAttr];try rw [eS];try simp only [yd2,and_self])
    ·have hwt:want h=true:=by assumption
     have hsf:(cysN N want orb h).2.getD h false=false:=by assumption
     have eS:cysN N want orb (h+1)=((cysN N want orb h).1++[orb h],ybc (cysN N want orb h).2 (orb h)):=by simp only [cysN,cys1];rw [if_neg (by rw [hwt,hsf];simp)]
     obtain ⟨o1,o2,o3⟩:=ho h hlt hwt
     refine ⟨yad.fn rfl o3 ?_⟩
     repeat' (first|omega|(try apply yaa);simp only [go_sem,sevalprocAttr]|apply yab<;>(intro h_;(try simp only [h_]);revert h_)|apply And.intro|with_reducible intro h_|trivial|simp only [go_sem,la2];omega)
     generalize (cysN N want orb h).2=seen0 at*
     refine yak.intro (fun n fr H=> ∃k:Nat,k<=(orb h).length/\n=(orb h).length-k/\fr=[(34,I k),(33,I (orb h).length),(32,roI (orb h)),(10,roI (orb h)),(16,I h),(15,I N),(8, .sl 1 0 0 N),(7, .sl 1 2 0 (cysN N want orb h).1.length),(1, .fn w []),(2, .fn g [.rp c 0])]/\
      H=[(2, .cells 22 (.lst ((cysN N want orb h).1.map roF))),(0, .cells 4 (.bools (ybc seen0 ((orb h).take k))))]) ?_ ?_
     ·refine ⟨_,_,_,?_,0,by omega,rfl,rfl,rfl⟩
      refine Wk.sub ?_ ?_<;>simp only [go_sem,sevalprocAttr]
      all_goals simp [ybc]
     rintro n fr H ⟨k,hk,rfl,rfl,rfl⟩
     have ml:=yho ((orb h).take k) seen0
     by_cases hkl:k<(orb h).length
     ·have hr:=o2 ((orb h).getD k 0) (by simp [hkl])
      repeat' (first|omega|(try apply yaa);simp only [go_sem,sevalprocAttr]|apply yab<;>(intro h_;(try simp only [h_]);revert h_)|apply And.intro|with_reducible intro h_|trivial|simp only [go_sem,la2];omega)
      refine ⟨_,_,_,?_,?_,⟨k+1,by omega,rfl,rfl,rfl⟩⟩
      ·omega
      ·refine Wk.sub ?_ ?_<;>simp only [go_sem,sevalprocAttr]
       rw [List.take_succ_eq_append_getElem hkl,yfi]
       simp [ybc,hkl]
     ·obtain rfl:k=(orb h).length:=by omega
      rw [List.take_of_length_le (Nat.le_refl _)]
      repeat' (first|omega|(try apply yaa);simp only [go_sem,sevalprocAttr]|apply yab<;>(intro h_;(try simp only [h_]);revert h_)|apply And.intro|with_reducible intro h_|trivial|simp only [go_sem,la2];omega)
      refine ⟨_,_,_,?_,?_,⟨h+1,by omega,rfl, .inr ⟨rfl,rfl⟩⟩⟩
      ·omega
      ·refine Wk.sub ?_ ?_<;>(simp only [go_sem,sevalprocAttr];rw [eS];simp only [go_sem,sevalprocAttr])
       all_goals simp_all [roF]
   ·have hst:(cysN N want orb h).2.getD h false=true:=by assumption
    have eS:cysN N want orb (h+1)=cysN N want orb h:=by simp only [cysN,cys1];rw [if_pos (by rw [hst];simp)]
    refine ⟨_,_,_,?_,?_,⟨h+1,by omega,rfl, .inr ⟨rfl,rfl⟩⟩⟩
    ·omega
    ·refine Wk.sub ?_ ?_<;>(simp only [go_sem,sevalprocAttr];try rw [eS];try simp only [yd2,and_self])
  ·obtain rfl:h=N:=by omega
   repeat' (first|omega|(try apply yaa);simp only [go_sem,sevalprocAttr]|apply yab<;>(intro h_;(try simp only [h_]);revert h_)|apply And.intro|with_reducible intro h_|trivial|simp only [go_sem,la2];omega)
   all_goals first|(rw [hnil];exact LeA.nils (by omega) rfl)|(exact yl5 _ _ _ _ ‹_›)|exact LeA.of (by rw [List.take_of_length_le (by simp)])
def ykw (s m:List Int) (L:Int):List (List Int):=if yao s m L then yb0 m else []
theorem yph (h:Int):Fn Tryd.prog 61 [I h] (.bool true):=by
 refine Fn.intro [.tmp 2] Tryd.func61 rfl rfl (by decide) (by simp [Tryd.ntmps61]) ?_;rw [Tryd.ntmps61]
 repeat' (first|omega|(try apply yaa);simp only [go_sem,sevalprocAttr]|apply yab<;>(intro h_;(try simp only [h_]);revert h_)|apply And.intro|with_reducible intro h_|trivial|simp only [go_sem,la2];omega)
theorem yoz (s m:List Int) (L h:Int) (h0:0<=h) (h1:h<m.length) (g0:0<=m.getD h.toNat 0) (g1:m.getD h.toNat 0<=100000):Fn Tryd.prog 63 [I h, .rp (dgC s m L) 0] (I (ybu (m.getD h.toNat 0) (-1))):=by
 refine Fn.intro [.tmp 3] Tryd.func63 rfl rfl (by decide) (by simp [Tryd.ntmps63]) ?_;rw [Tryd.ntmps63]
 repeat' (first|omega|(try apply yaa);simp only [go_sem,sevalprocAttr]|apply yab<;>(intro h_;(try simp only [h_]);revert h_)|apply And.intro|with_reducible intro h_|trivial|simp only [go_sem,la2];omega)
 refine ⟨yad.fn rfl (yp2 _ (-1) g0 g1) ?_⟩
 repeat' (first|omega|(try apply yaa);simp only [go_sem,sevalprocAttr]|apply yab<;>(intro h_;(try simp only [h_]);revert h_)|apply And.intro|with_reducible intro h_|trivial|simp only [go_sem,la2];omega)
theorem y00 (s m:List Int) (L:Int) (hv:yhq s m L) (h:Nat) (hh:h<4*s.length):(orbF (yau m) m.length h).length<=m.length/\(∀x∈orbF (yau m) m.length h,0<=x/\x<m.length)/\
  Fn Tryd.prog 84 [I h, .fn 63 [.rp (dgC s m L) 0]] (roI (orbF (yau m) m.length h)):=by
 have hR:InR s.length (h:Int):=by unfold InR;omega
 have hl:=hv.len
 have h64:=hv.s64
 have hof:=yep (ycx hv.prd) hR
 rw [←hl] at hof
 obtain ⟨_,o2,_,_,_,o6,_,k,hk,hper,e⟩:=hof
 refine ⟨o6,fun x hx=>by have:=o2 x hx;unfold InR at this;omega,?_⟩
 rw [e]
 refine yxm _ _ (yau m) h k hper (by omega) fun j hj=>?_
 have hr:=(ycx hv.prd).it hR j
 have hr2:=hv.prd.rng hr
 unfold InR at hr hr2
 exact yoz s m L _ hr.1 (by omega) hr2.1 (by omega)
theorem yxn (s m:List Int) (L:Int):Fn Tryd.prog 49 [dgA s m L] (roLL (ykw s m L)):=by
 refine Fn.introL [.tmp 2] Tryd.func49 rfl rfl (by decide) (by simp [Tryd.ntmps49]) ?_;rw [Tryd.ntmps49]
 repeat' (first|omega|(try apply yaa);simp only [go_sem,sevalprocAttr]|apply yab<;>(intro h_;(try simp only [h_]);revert h_)|apply And.intro|with_reducible intro h_|trivial|simp only [go_sem,la2];omega)
 refine ⟨yad.fn rfl (ych s m L) ?_⟩
 cases hv:yao s m L with
 |false=>
  repeat' (first|omega|(try apply yaa);simp only [go_sem,sevalprocAttr]|apply yab<;>(intro h_;(try simp only [h_]);revert h_)|apply And.intro|with_reducible intro h_|trivial|simp only [go_sem,la2];omega)
  unfold ykw
  rw [hv]
  exact LeA.nils (by omega) rfl
 |true=>
  have v1:=yb8 hv
  have h64:=v1.s64
  have hl:=v1.len
  repeat' (first|omega|(try apply yaa);simp only [go_sem,sevalprocAttr]|apply yab<;>(intro h_;(try simp only [h_]);revert h_)|apply And.intro|with_reducible intro h_|trivial|simp only [go_sem,la2];omega)
  refine ⟨yad.frz [0] rfl (by simp only [go_sem,sevalprocAttr]) (by simp only [go_sem,sevalprocAttr]) (by simp only [go_sem,sevalprocAttr]) (by simp only [go_sem,sevalprocAttr]) rfl rfl rfl (yad.fn rfl (yr4 m.length _ _ (dgC s m L) (fun _=>true) (orbF (yau m) m.length) (by omega) (fun h hh=>yph h) (fun h hh _=>y00 s m L v1 h (by omega))) ?_)⟩
  repeat' (first|omega|(try apply yaa);simp only [go_sem,sevalprocAttr]|apply yab<;>(intro h_;(try simp only [h_]);revert h_)|apply And.intro|with_reducible intro h_|trivial|simp only [go_sem,la2];omega)
  unfold ykw yb0
  rw [hv]
  exact LeA.refl _
end Go.Proofs.YtngegnonblbdhaaDoor
