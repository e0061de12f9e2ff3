/- Layer 1: one cycle. -/
import Derived.Test.YtjpbeacamoijhaaGreatDoorZx
import Derived.Test.YtjpbeacamoijhaaGreatDoorPl
set_option linter.unusedSimpArgs false
set_option linter.unusedVariables false
namespace Go.Proofs.YtjpbeacamoijhaaGreatDoor
open Go Go.RowKit
set_option maxRecDepth 100000
set_option maxHeartbeats 4000000
theorem y4v (g:Nat) (c:Cs) (nx:Int->Int) (x:Int) (k:Nat) (hk:uv nx x k) (hb:k<=100000) (hf: ∀j,j<k->Fn Tryz.prog g [I (it nx j x), .rp c 0] (I (it nx (j+1) x))):
  Fn Tryz.prog 172 [I x, .fn g [.rp c 0]] (roI (its nx x k)):=by
 have k0:=hk.pos;refine Fn.intro [.tmp 4] Tryz.func172 rfl rfl (by decide) (by simp [Tryz.ntmps172]) ?_;rw [Tryz.ntmps172]
 repeat' (first|omega|(try apply ah);simp only [go_sem,sevalprocAttr]|apply ag<;>(intro h_;(try simp only [h_]);revert h_)|apply And.intro|with_reducible intro h_|trivial|simp only [go_sem,ai];omega)
 refine ⟨aO.fn rfl (hf 0 k0) ?_⟩
 repeat' (first|omega|(try apply ah);simp only [go_sem,sevalprocAttr]|apply ag<;>(intro h_;(try simp only [h_]);revert h_)|apply And.intro|with_reducible intro h_|trivial|simp only [go_sem,ai];omega)
 refine dn.intro (fun n fr H=> ∃j:Nat,0<j/\j<=k/\n=k-j/\fr=[(6,I (it nx j x)),(5, .sl 1 0 0 j),(1, .fn g [.rp c 0]),(0,I x)]/\H=[(0, .cells 3 (.ints (its nx x j)))]) ?_ ?_
 ·refine ⟨_,_,_,?_,1,by omega,by omega,rfl,rfl,rfl⟩;refine Wk.sub ?_ ?_<;>simp only [go_sem,sevalprocAttr];rfl
 rintro n fr H ⟨j,hj,wU,rfl,rfl,rfl⟩;have e1:=Lr nx x j;have e2:=Lr nx x k;by_cases mV:j<k
 ·have ax:=hk.first j hj mV
  repeat' (first|omega|(try apply ah);simp only [go_sem,sevalprocAttr]|apply ag<;>(intro h_;(try simp only [h_]);revert h_)|apply And.intro|with_reducible intro h_|trivial|simp only [go_sem,ai];omega)
  refine ⟨aO.fn rfl (hf j mV) ?_⟩
  repeat' (first|omega|(try apply ah);simp only [go_sem,sevalprocAttr]|apply ag<;>(intro h_;(try simp only [h_]);revert h_)|apply And.intro|with_reducible intro h_|trivial|simp only [go_sem,ai];omega)
  refine ⟨_,_,_,?_,?_,⟨j+1,by omega,by omega,rfl,rfl,rfl⟩⟩
  ·omega
  ·refine Wk.sub ?_ ?_<;>simp only [go_sem,sevalprocAttr];exact (R9 nx x j).symm
 ·obtain rfl:j=k:=by omega
  have ax:=hk.back
  repeat' (first|omega|(try apply ah);simp only [go_sem,sevalprocAttr]|apply ag<;>(intro h_;(try simp only [h_]);revert h_)|apply And.intro|with_reducible intro h_|trivial|simp only [go_sem,ai];omega)
  exact List.take_of_length_le (by omega)
theorem YG (h:Int) (h0:0<=h) (h1:h<=100000):Fn Tryz.prog 147 [I h] (I (cd h 2)):=by
 refine Fn.intro [.tmp 2] Tryz.func147 rfl rfl (by decide) (by simp [Tryz.ntmps147]) ?_;rw [Tryz.ntmps147]
 repeat' (first|omega|(try apply ah);simp only [go_sem,sevalprocAttr]|apply ag<;>(intro h_;(try simp only [h_]);revert h_)|apply And.intro|with_reducible intro h_|trivial|simp only [go_sem,ai];omega)
 refine ⟨aO.fn rfl (Lz h 2 h0 h1) ?_⟩
 repeat' (first|omega|(try apply ah);simp only [go_sem,sevalprocAttr]|apply ag<;>(intro h_;(try simp only [h_]);revert h_)|apply And.intro|with_reducible intro h_|trivial|simp only [go_sem,ai];omega)
theorem YV (s m:List Int) (L h:Int) (h0:0<=h) (h1:h<4*s.length) (hs:s.length<=1000):Fn Tryz.prog 144 [I h, .rp (dgC s m L) 0] (.bool (ak s h)):=by
 refine Fn.intro [.tmp 3] Tryz.func144 rfl rfl (by decide) (by simp [Tryz.ntmps144]) ?_;rw [Tryz.ntmps144]
 repeat' (first|omega|(try apply ah);simp only [go_sem,sevalprocAttr]|apply ag<;>(intro h_;(try simp only [h_]);revert h_)|apply And.intro|with_reducible intro h_|trivial|simp only [go_sem,ai];omega)
 refine ⟨aO.fn rfl (Mt s m L h h0 h1 hs) ?_⟩
 repeat' (first|omega|(try apply ah);simp only [go_sem,sevalprocAttr]|apply ag<;>(intro h_;(try simp only [h_]);revert h_)|apply And.intro|with_reducible intro h_|trivial|simp only [go_sem,ai];omega)
theorem Y2 (s m:List Int) (L h:Int) (h0:0<=h) (h1:h<m.length) (g0:0<=m.getD h.toNat 0) (g1:m.getD h.toNat 0<=100000):Fn Tryz.prog 146 [I h, .rp (dgC s m L) 0] (I (cd (m.getD h.toNat 0) 2)):=by
 refine Fn.intro [.tmp 3] Tryz.func146 rfl rfl (by decide) (by simp [Tryz.ntmps146]) ?_;rw [Tryz.ntmps146]
 repeat' (first|omega|(try apply ah);simp only [go_sem,sevalprocAttr]|apply ag<;>(intro h_;(try simp only [h_]);revert h_)|apply And.intro|with_reducible intro h_|trivial|simp only [go_sem,ai];omega)
 refine ⟨aO.fn rfl (YG _ g0 g1) ?_⟩
 repeat' (first|omega|(try apply ah);simp only [go_sem,sevalprocAttr]|apply ag<;>(intro h_;(try simp only [h_]);revert h_)|apply And.intro|with_reducible intro h_|trivial|simp only [go_sem,ai];omega)
theorem y1x (N:Nat) (w g:Nat) (c:Cs) (want:Int->Bool) (orb:Int->List Int) (hN:N<=10000) (hw: ∀h:Nat,h<N->Fn Tryz.prog w [I h, .rp c 0] (.bool (want h)))
  (ho: ∀h:Nat,h<N->want h=true->(orb h).length<=N/\(∀x∈orb h,0<=x/\x<N)/\Fn Tryz.prog 172 [I h, .fn g [.rp c 0]] (roI (orb h))):
  Fn Tryz.prog 145 [I N, .fn w [.rp c 0], .fn g [.rp c 0]] (qi (aL N want orb N).1):=by
 refine Fn.aH [.tmp 6] Tryz.func145 rfl rfl (by decide) (by simp [Tryz.ntmps145]) ?_;rw [Tryz.ntmps145]
 repeat' (first|omega|(try apply ah);simp only [go_sem,sevalprocAttr]|apply ag<;>(intro h_;(try simp only [h_]);revert h_)|apply And.intro|with_reducible intro h_|trivial|simp only [go_sem,ai];omega)
 refine dn.intro (fun n fr H=> ∃h:Nat,h<=N/\n=N-h/\(((aL N want orb h).1=[]/\fr=[(16,I h),(15,I N),(8, .sl 1 0 0 N),(7, .nils),(1, .fn w [.rp c 0]),(2, .fn g [.rp c 0])]/\H=[(0, .cells 4 (.bools (aL N want orb h).2))])\/
  (fr=[(16,I h),(15,I N),(8, .sl 1 0 0 N),(7, .sl 1 2 0 (aL N want orb h).1.length),(1, .fn w [.rp c 0]),(2, .fn g [.rp c 0])]/\H=[(2, .cells 22 (.lst ((aL N want orb h).1.map ph))),(0, .cells 4 (.bools (aL N want orb h).2))]))) ?_ ?_
 ·refine ⟨_,_,_,?_,0,by omega,rfl, .inl ⟨rfl,rfl,rfl⟩⟩;refine Wk.sub ?_ ?_<;>simp only [go_sem,sevalprocAttr];rfl
 rintro n fr H ⟨h,hh,rfl,nh⟩;obtain ⟨e1,e2⟩:=I5 N want orb h;rcases nh with ⟨gZ,rfl,rfl⟩|⟨rfl,rfl⟩
 ·by_cases ay:h<N
  ·have NB:=hw h ay
   repeat' (first|omega|(try apply ah);simp only [go_sem,sevalprocAttr]|apply ag<;>(intro h_;(try simp only [h_]);revert h_)|apply And.intro|with_reducible intro h_|trivial|simp only [go_sem,ai];omega)
   ·refine ⟨aO.fn rfl NB ?_⟩
    repeat' (first|omega|(try apply ah);simp only [go_sem,sevalprocAttr]|apply ag<;>(intro h_;(try simp only [h_]);revert h_)|apply And.intro|with_reducible intro h_|trivial|simp only [go_sem,ai];omega)
    ·have hwt:want h=false:=by assumption
     have eS:aL N want orb (h+1)=aL N want orb h:=by simp only [aL,jg];rw [if_pos (by rw [hwt];simp)]
     refine ⟨_,_,_,?_,?_,⟨h+1,by omega,rfl, .inl ⟨by rw [eS];exact gZ,rfl,rfl⟩⟩⟩
     ·omega
     ·refine Wk.sub ?_ ?_<;>(simp only [go_sem,sevalprocAttr];try rw [eS];try simp only [yfi,and_self])
    ·have hwt:want h=true:=by assumption
     have F9:(aL N want orb h).2.getD h false=false:=by assumption
     have eS:aL N want orb (h+1)=((aL N want orb h).1++[orb h],nP (aL N want orb h).2 (orb h)):=by simp only [aL,jg];rw [if_neg (by rw [hwt,F9];simp)]
     obtain ⟨o1,o2,o3⟩:=ho h ay hwt;refine ⟨aO.fn rfl o3 ?_⟩
     repeat' (first|omega|(try apply ah);simp only [go_sem,sevalprocAttr]|apply ag<;>(intro h_;(try simp only [h_]);revert h_)|apply And.intro|with_reducible intro h_|trivial|simp only [go_sem,ai];omega)
     generalize (aL N want orb h).2=lD at*
     refine dn.intro (fun n fr H=> ∃k:Nat,k<=(orb h).length/\n=(orb h).length-k/\fr=[(34,I k),(33,I (orb h).length),(32,roI (orb h)),(10,roI (orb h)),(16,I h),(15,I N),(8, .sl 1 0 0 N),(7, .nils),(1, .fn w [.rp c 0]),(2, .fn g [.rp c 0])]/\
      H=[(0, .cells 4 (.bools (nP lD ((orb h).take k))))]) ?_ ?_
     ·refine ⟨_,_,_,?_,0,by omega,rfl,rfl,rfl⟩;refine Wk.sub ?_ ?_<;>simp only [go_sem,sevalprocAttr]
      all_goals simp [nP]
     rintro n fr H ⟨k,hk,rfl,rfl,rfl⟩;have ml:=EE ((orb h).take k) lD;by_cases cT:k<(orb h).length
     ·have hr:=o2 ((orb h).getD k 0) (by simp [cT])
      repeat' (first|omega|(try apply ah);simp only [go_sem,sevalprocAttr]|apply ag<;>(intro h_;(try simp only [h_]);revert h_)|apply And.intro|with_reducible intro h_|trivial|simp only [go_sem,ai];omega)
      refine ⟨_,_,_,?_,?_,⟨k+1,by omega,rfl,rfl,rfl⟩⟩
      ·omega
      ·refine Wk.sub ?_ ?_<;>simp only [go_sem,sevalprocAttr];rw [List.take_succ_eq_append_getElem cT,Mr];simp [nP,cT]
     ·obtain rfl:k=(orb h).length:=by omega
      rw [List.take_of_length_le (Nat.le_refl _)]
      repeat' (first|omega|(try apply ah);simp only [go_sem,sevalprocAttr]|apply ag<;>(intro h_;(try simp only [h_]);revert h_)|apply And.intro|with_reducible intro h_|trivial|simp only [go_sem,ai];omega)
      refine ⟨_,_,_,?_,?_,⟨h+1,by omega,rfl, .inr ⟨rfl,rfl⟩⟩⟩
      ·omega
      ·refine Wk.sub ?_ ?_<;>(simp only [go_sem,sevalprocAttr];rw [eS];simp only [go_sem,sevalprocAttr])
       all_goals simp_all [ph]
   ·have aR:(aL N want orb h).2.getD h false=true:=by assumption
    have eS:aL N want orb (h+1)=aL N want orb h:=by simp only [aL,jg];rw [if_pos (by rw [aR];simp)]
    refine ⟨_,_,_,?_,?_,⟨h+1,by omega,rfl, .inl ⟨by rw [eS];exact gZ,rfl,rfl⟩⟩⟩
    ·omega
    ·refine Wk.sub ?_ ?_<;>(simp only [go_sem,sevalprocAttr];try rw [eS];try simp only [yfi,and_self])
  ·obtain rfl:h=N:=by omega
   repeat' (first|omega|(try apply ah);simp only [go_sem,sevalprocAttr]|apply ag<;>(intro h_;(try simp only [h_]);revert h_)|apply And.intro|with_reducible intro h_|trivial|simp only [go_sem,ai];omega)
   all_goals first|(rw [gZ];exact ca.nils (by omega) rfl)|(exact ye _ _ _ _ ‹_›)|exact ca.of (by rw [List.take_of_length_le (by simp)])
 ·by_cases ay:h<N
  ·have NB:=hw h ay
   repeat' (first|omega|(try apply ah);simp only [go_sem,sevalprocAttr]|apply ag<;>(intro h_;(try simp only [h_]);revert h_)|apply And.intro|with_reducible intro h_|trivial|simp only [go_sem,ai];omega)
   ·refine ⟨aO.fn rfl NB ?_⟩
    repeat' (first|omega|(try apply ah);simp only [go_sem,sevalprocAttr]|apply ag<;>(intro h_;(try simp only [h_]);revert h_)|apply And.intro|with_reducible intro h_|trivial|simp only [go_sem,ai];omega)
    ·have hwt:want h=false:=by assumption
     have eS:aL N want orb (h+1)=aL N want orb h:=by simp only [aL,jg];rw [if_pos (by rw [hwt];simp)]
     refine ⟨_,_,_,?_,?_,⟨h+1,by omega,rfl, .inr ⟨rfl,rfl⟩⟩⟩
     ·omega
     ·refine Wk.sub ?_ ?_<;>(simp only [go_sem,sevalprocAttr];try rw [eS];try simp only [yfi,and_self])
    ·have hwt:want h=true:=by assumption
     have F9:(aL N want orb h).2.getD h false=false:=by assumption
     have eS:aL N want orb (h+1)=((aL N want orb h).1++[orb h],nP (aL N want orb h).2 (orb h)):=by simp only [aL,jg];rw [if_neg (by rw [hwt,F9];simp)]
     obtain ⟨o1,o2,o3⟩:=ho h ay hwt;refine ⟨aO.fn rfl o3 ?_⟩
     repeat' (first|omega|(try apply ah);simp only [go_sem,sevalprocAttr]|apply ag<;>(intro h_;(try simp only [h_]);revert h_)|apply And.intro|with_reducible intro h_|trivial|simp only [go_sem,ai];omega)
     generalize (aL N want orb h).2=lD at*
     refine dn.intro (fun n fr H=> ∃k:Nat,k<=(orb h).length/\n=(orb h).length-k/\fr=[(34,I k),(33,I (orb h).length),(32,roI (orb h)),(10,roI (orb h)),(16,I h),(15,I N),(8, .sl 1 0 0 N),(7, .sl 1 2 0 (aL N want orb h).1.length),(1, .fn w [.rp c 0]),(2, .fn g [.rp c 0])]/\
      H=[(2, .cells 22 (.lst ((aL N want orb h).1.map ph))),(0, .cells 4 (.bools (nP lD ((orb h).take k))))]) ?_ ?_
     ·refine ⟨_,_,_,?_,0,by omega,rfl,rfl,rfl⟩;refine Wk.sub ?_ ?_<;>simp only [go_sem,sevalprocAttr]
      all_goals simp [nP]
     rintro n fr H ⟨k,hk,rfl,rfl,rfl⟩;have ml:=EE ((orb h).take k) lD;by_cases cT:k<(orb h).length
     ·have hr:=o2 ((orb h).getD k 0) (by simp [cT])
      repeat' (first|omega|(try apply ah);simp only [go_sem,sevalprocAttr]|apply ag<;>(intro h_;(try simp only [h_]);revert h_)|apply And.intro|with_reducible intro h_|trivial|simp only [go_sem,ai];omega)
      refine ⟨_,_,_,?_,?_,⟨k+1,by omega,rfl,rfl,rfl⟩⟩
      ·omega
      ·refine Wk.sub ?_ ?_<;>simp only [go_sem,sevalprocAttr];rw [List.take_succ_eq_append_getElem cT,Mr];simp [nP,cT]
     ·obtain rfl:k=(orb h).length:=by omega
      rw [List.take_of_length_le (Nat.le_refl _)]
      repeat' (first|omega|(try apply ah);simp only [go_sem,sevalprocAttr]|apply ag<;>(intro h_;(try simp only [h_]);revert h_)|apply And.intro|with_reducible intro h_|trivial|simp only [go_sem,ai];omega)
      refine ⟨_,_,_,?_,?_,⟨h+1,by omega,rfl, .inr ⟨rfl,rfl⟩⟩⟩
      ·omega
      ·refine Wk.sub ?_ ?_<;>(simp only [go_sem,sevalprocAttr];rw [eS];simp only [go_sem,sevalprocAttr])
       all_goals simp_all [ph]
   ·have aR:(aL N want orb h).2.getD h false=true:=by assumption
    have eS:aL N want orb (h+1)=aL N want orb h:=by simp only [aL,jg];rw [if_pos (by rw [aR];simp)]
    refine ⟨_,_,_,?_,?_,⟨h+1,by omega,rfl, .inr ⟨rfl,rfl⟩⟩⟩
    ·omega
    ·refine Wk.sub ?_ ?_<;>(simp only [go_sem,sevalprocAttr];try rw [eS];try simp only [yfi,and_self])
  ·obtain rfl:h=N:=by omega
   repeat' (first|omega|(try apply ah);simp only [go_sem,sevalprocAttr]|apply ag<;>(intro h_;(try simp only [h_]);revert h_)|apply And.intro|with_reducible intro h_|trivial|simp only [go_sem,ai];omega)
   all_goals first|(rw [gZ];exact ca.nils (by omega) rfl)|(exact ye _ _ _ _ ‹_›)|exact ca.of (by rw [List.take_of_length_le (by simp)])
def UG:Tr:= .node [(0, .node [(1, .node [(2,trD [3,4,5,6]),(3, .node [(2,trD [4,5,6]),(4,trD [2,5,6])])]),(3, .node [(1, .node [(2,trD [4,5,6]),(4,trD [2,5,6])]),(4,trD [1,2,5,6])])]),(3, .node [(0, .node [(1, .node [(2,trD [4,5,6]),(4,trD [2,5,6])]),(4,trD [1,2,5,6])]),(4,trD [0,1,2,5,6])])]
def Ew (s m:List Int) (L:Int):List (List Int):=if bI s m L then dt s m else []
theorem ZL (s m:List Int) (L:Int) (hv:jP s m L) (h:Nat) (hh:h<4*s.length):(af (aK m) m.length h).length<=m.length/\(∀x∈af (aK m) m.length h,0<=x/\x<m.length)/\
  Fn Tryz.prog 172 [I h, .fn 146 [.rp (dgC s m L) 0]] (roI (af (aK m) m.length h)):=by
 have hR:aA s.length (h:Int):=by unfold aA;omega
 have hl:=hv.len;have yC:=hv.s64;have rz:=Ac (Ai hv.dB) hR;rw [←hl] at rz;obtain ⟨_,o2,_,_,_,o6,_,k,hk,uS,e⟩:=rz;refine ⟨o6,fun x hx=>by have:=o2 x hx;unfold aA at this;omega,?_⟩;rw [e];refine y4v _ _ (aK m) h k uS (by omega) fun j hj=>?_;have hr:=(Ai hv.dB).it hR j;have sV:=hv.dB.iV hr;unfold aA at hr sV;exact Y2 s m L _ hr.1 (by omega) sV.1 (by omega)
theorem Tl (s m:List Int) (L:Int):Fn Tryz.prog 97 [dgA s m L] (qi (Ew s m L)):=by
 refine Fn.aH [.tmp 2] Tryz.func97 rfl rfl (by decide) (by simp [Tryz.ntmps97]) ?_;rw [Tryz.ntmps97]
 repeat' (first|omega|(try apply ah);simp only [go_sem,sevalprocAttr]|apply ag<;>(intro h_;(try simp only [h_]);revert h_)|apply And.intro|with_reducible intro h_|trivial|simp only [go_sem,ai];omega)
 refine ⟨aO.fn rfl (yP s m L) ?_⟩;cases hv:bI s m L with
 |false=>
  repeat' (first|omega|(try apply ah);simp only [go_sem,sevalprocAttr]|apply ag<;>(intro h_;(try simp only [h_]);revert h_)|apply And.intro|with_reducible intro h_|trivial|simp only [go_sem,ai];omega)
  unfold Ew;rw [hv];exact ca.nils (by omega) rfl
 |true=>
  have v1:=dr hv;have yC:=v1.s64;have hl:=v1.len
  repeat' (first|omega|(try apply ah);simp only [go_sem,sevalprocAttr]|apply ag<;>(intro h_;(try simp only [h_]);revert h_)|apply And.intro|with_reducible intro h_|trivial|simp only [go_sem,ai];omega)
  refine ⟨aO.Ki [0] rfl (by simp only [go_sem,sevalprocAttr]) (by simp only [go_sem,sevalprocAttr]) (by simp only [go_sem,sevalprocAttr]) (by simp only [go_sem,sevalprocAttr]) rfl rfl rfl (aO.fn rfl (y1x m.length _ _ (dgC s m L) (ak s) (af (aK m) m.length) (by omega) (fun h hh=>YV s m L h (by omega) (by omega) (by omega)) (fun h hh _=>ZL s m L v1 h (by omega))) ?_)⟩
  repeat' (first|omega|(try apply ah);simp only [go_sem,sevalprocAttr]|apply ag<;>(intro h_;(try simp only [h_]);revert h_)|apply And.intro|with_reducible intro h_|trivial|simp only [go_sem,ai];omega)
  unfold Ew dt;rw [hv];exact ca.refl _
theorem YU (s m:List Int) (L:Int):Fn Tryz.prog 44 [dgA s m L] (I (if bI s m L then (dt s m).length+L else 0)):=by
 refine Fn.intro [.tmp 2] Tryz.func44 rfl rfl (by decide) (by simp [Tryz.ntmps44]) ?_;rw [Tryz.ntmps44]
 repeat' (first|omega|(try apply ah);simp only [go_sem,sevalprocAttr]|apply ag<;>(intro h_;(try simp only [h_]);revert h_)|apply And.intro|with_reducible intro h_|trivial|simp only [go_sem,ai];omega)
 refine ⟨aO.fn rfl (yP s m L) ?_⟩;have hS:=Tl s m L;unfold Ew at hS;have jY:=EO s m;cases hv:bI s m L with
 |false=>
  repeat' (first|omega|(try apply ah);simp only [go_sem,sevalprocAttr]|apply ag<;>(intro h_;(try simp only [h_]);revert h_)|apply And.intro|with_reducible intro h_|trivial|simp only [go_sem,ai];omega)
 |true=>
  rw [hv,if_pos rfl] at hS;have v1:=dr hv;have yC:=v1.s64;have hl:=v1.len;have h0:=v1.l0;have h1:=v1.l64
  repeat' (first|omega|(first|apply ah|(refine bd.intro (id:=3) [[9,10],[9,10],[9,10],[6,7,8],[6,7,8],[],[]] [[],[],[],[0,1,2],[0,1,2],[],[]] (by decide+kernel) mixed ?_)|(refine bd.bY (id:=3) (UG) (by decide+kernel) mixed ?_)|skip);simp only [go_sem,sevalprocAttr,↓reduceIte,reduceCtorEq,UG]|apply ag<;>(intro h_;(try simp only [h_]);revert h_)|apply And.intro|with_reducible intro h_|trivial|simp only [go_sem,ai];omega)
  refine ⟨c8.fn rfl hS ?_⟩
  repeat' (first|omega|(try apply ah);simp only [go_sem,sevalprocAttr]|apply ag<;>(intro h_;(try simp only [h_]);revert h_)|apply And.intro|with_reducible intro h_|trivial|simp only [go_sem,ai];omega)
def HA (s m:List Int) (L:Int):Int×Bool:=if bI s m L then (match mN s m with|some c=>(c,false)|none=>(-1,true)) else (-1,false)
theorem Sz {α:Type} (l:List α) (k:Nat) (d:α) (h:k<l.length):l.drop k=l.getD k d::l.drop (k+1):=by
 rw [List.drop_eq_getElem_cons h];simp [h]
theorem YT (s m:List Int) (L:Int):Fn Tryz.prog 94 [dgA s m L] (.tup [I (HA s m L).1, .bool (HA s m L).2]):=by
 refine Fn.intro [.tmp 2, .tmp 3] Tryz.func94 rfl rfl (by decide) (by simp [Tryz.ntmps94]) ?_;rw [Tryz.ntmps94]
 repeat' (first|omega|(try apply ah);simp only [go_sem,sevalprocAttr]|apply ag<;>(intro h_;(try simp only [h_]);revert h_)|apply And.intro|with_reducible intro h_|trivial|simp only [go_sem,ai];omega)
 refine ⟨aO.fn rfl (yP s m L) ?_⟩;have hS:=Tl s m L;unfold Ew at hS;have jY:=EO s m;unfold HA;cases hv:bI s m L with
 |false=>
  repeat' (first|omega|(try apply ah);simp only [go_sem,sevalprocAttr]|apply ag<;>(intro h_;(try simp only [h_]);revert h_)|apply And.intro|with_reducible intro h_|trivial|simp only [go_sem,ai];omega)
 |true=>
  rw [hv,if_pos rfl] at hS;have v1:=dr hv;have yC:=v1.s64;have hl:=v1.len;have mI:=fun l (hl:l∈dt s m)=>Mq v1.dB hl;unfold mN
  repeat' (first|omega|(try apply ah);simp only [go_sem,sevalprocAttr]|apply ag<;>(intro h_;(try simp only [h_]);revert h_)|apply And.intro|with_reducible intro h_|trivial|simp only [go_sem,ai];omega)
  refine ⟨aO.fn rfl hS ?_⟩
  repeat' (first|omega|(try apply ah);simp only [go_sem,sevalprocAttr]|apply ag<;>(intro h_;(try simp only [h_]);revert h_)|apply And.intro|with_reducible intro h_|trivial|simp only [go_sem,ai];omega)
  generalize dt s m=ls at*;refine dn.intro (fun n fr H=> ∃(i:Nat) (v:List Bool),i<=ls.length/\n=ls.length-i/\v.length=s.length/\tJ v (ls.drop i)=tJ (List.replicate s.length false) ls/\fr=[(19,I i),(18,I ls.length),(17,qi ls),(4, .sl 1 1 0 s.length)]/\H=[(1, .cells 4 (.bools v))]) ?_ ?_
  ·refine ⟨_,_,_,?_,0,List.replicate s.length false,by omega,rfl,by simp,rfl,rfl,rfl⟩;refine Wk.sub ?_ ?_<;>simp only [go_sem,sevalprocAttr]
  rintro n fr H ⟨i,v,hi,rfl,vG,xb,rfl,rfl⟩;by_cases pb:i<ls.length
  ·have hg:=R6 ls i pb;have hme:=mI (ls.getD i []) (by simp [pb]);rw [Sz ls i [] pb] at xb;generalize ls.getD i []=l at*
   repeat' (first|omega|(try apply ah);simp only [go_sem,sevalprocAttr,hg]|apply ag<;>(intro h_;(try simp only [h_]);revert h_)|apply And.intro|with_reducible intro h_|trivial|simp only [go_sem,ai];omega)
   refine dn.intro (fun n fr H=> ∃(k:Nat) (v':List Bool),k<=l.length/\n=l.length-k/\v'.length=s.length/\dy v' (l.drop k)=dy v l/\fr=[(25,I k),(24,I l.length),(23,roI l),(19,I i),(18,I ls.length),(17,qi ls),(4, .sl 1 1 0 s.length)]/\H=[(1, .cells 4 (.bools v'))]) ?_ ?_
   ·refine ⟨_,_,_,?_,0,v,by omega,rfl,vG,rfl,rfl,rfl⟩;refine Wk.sub ?_ ?_<;>simp only [go_sem,sevalprocAttr]
   rintro n fr H ⟨k,v',hk,rfl,FV,oI,rfl,rfl⟩;by_cases cT:k<l.length
   ·have hx:=hme.2 (l.getD k 0) (by simp [cT]);rw [Sz l k 0 cT] at oI;have e1:(l.getD k 0).tdiv 4=l.getD k 0/4:=tN hx.1;have e2:(l.getD k 0).tmod 2=l.getD k 0 % 2:=QS hx.1;have wC: ¬(v'.getD (l.getD k 0/4).toNat false=false/\l.getD k 0 % 2=0)->dy (v'.set (l.getD k 0/4).toNat true) (l.drop (k+1))=dy v l:=fun hn=>by
     rw [←oI];simp only [dy];rw [if_neg hn]
    have Gq:(v'.getD (l.getD k 0/4).toNat false=false/\l.getD k 0 % 2=0)->tJ (List.replicate s.length false) ls=some (l.getD k 0/4):=fun hn=>by
     rw [←xb];simp only [dy] at oI;rw [if_pos hn] at oI;simp only [tJ,←oI]
    repeat' (first|omega|(try apply ah);simp only [go_sem,sevalprocAttr,e1,e2]|apply ag<;>(intro h_;(try simp only [h_]);revert h_)|apply And.intro|with_reducible intro h_|trivial|simp only [go_sem,ai];omega)
    ·rw [Gq ⟨by assumption,by assumption⟩]
    ·rw [Gq ⟨by assumption,by assumption⟩]
    all_goals refine ⟨_,_,_,?_,?_,⟨k+1,v'.set (l.getD k 0/4).toNat true,by omega,rfl,by simp [FV],wC (by simp_all),rfl,rfl⟩⟩
    all_goals first|omega|refine Wk.sub ?_ ?_<;>simp only [go_sem,sevalprocAttr]
   ·obtain rfl:k=l.length:=by omega
    rw [List.drop_length] at oI
    repeat' (first|omega|(try apply ah);simp only [go_sem,sevalprocAttr]|apply ag<;>(intro h_;(try simp only [h_]);revert h_)|apply And.intro|with_reducible intro h_|trivial|simp only [go_sem,ai];omega)
    refine ⟨_,_,_,?_,?_,⟨i+1,v',by omega,rfl,FV,?_,rfl,rfl⟩⟩
    ·omega
    ·refine Wk.sub ?_ ?_<;>simp only [go_sem,sevalprocAttr]
    ·rw [←xb];simp only [tJ,←oI,dy]
  ·obtain rfl:i=ls.length:=by omega
   rw [List.drop_length] at xb;rw [←xb]
   repeat' (first|omega|(try apply ah);simp only [go_sem,sevalprocAttr]|apply ag<;>(intro h_;(try simp only [h_]);revert h_)|apply And.intro|with_reducible intro h_|trivial|simp only [go_sem,ai];omega)
end Go.Proofs.YtjpbeacamoijhaaGreatDoor
