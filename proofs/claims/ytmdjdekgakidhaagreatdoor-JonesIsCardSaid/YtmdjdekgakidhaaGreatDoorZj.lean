/- Layer 1: cycles, strands. -/
import Derived.Test.YtmdjdekgakidhaaGreatDoorZh
import Derived.Test.YtmdjdekgakidhaaGreatDoorPl
import Derived.Test.YtmdjdekgakidhaaGreatDoorGc
import Derived.Laws.IdiomRangeMap
import Derived.Laws.BytesString
import Derived.Test.YtmdjdekgakidhaaGreatDoorZe
set_option linter.unusedSimpArgs false
set_option linter.unusedVariables false
namespace Go.Proofs.YtmdjdekgakidhaaGreatDoor
open Go Go.RowKit
set_option maxRecDepth 100000
set_option maxHeartbeats 4000000
theorem Us (h:Int) (h0:0<=h) (h1:h<=100000):Fn Tryz.prog 135 [I h] (I (fC h 2)):=by
 refine Fn.intro [.tmp 2] Tryz.func135 rfl rfl (by decide) (by simp [Tryz.ntmps135]) ?_;rw [Tryz.ntmps135]
 repeat' (first|omega|(try apply ag);simp only [go_sem,sevalprocAttr]|apply ae<;>(intro h_;(try simp only [h_]);revert h_)|apply And.intro|with_reducible intro h_|trivial|simp only [go_sem,ah];omega)
 refine ⟨au.fn rfl (NK h 2 h0 h1) ?_⟩
 repeat' (first|omega|(try apply ag);simp only [go_sem,sevalprocAttr]|apply ae<;>(intro h_;(try simp only [h_]);revert h_)|apply And.intro|with_reducible intro h_|trivial|simp only [go_sem,ah];omega)
theorem UR (s m:List Int) (L h:Int) (h0:0<=h) (h1:h<4*s.length) (hs:s.length<=1000):Fn Tryz.prog 132 [I h, .rp (dgC s m L) 0] (.bool (aB s h)):=by
 refine Fn.intro [.tmp 3] Tryz.func132 rfl rfl (by decide) (by simp [Tryz.ntmps132]) ?_;rw [Tryz.ntmps132]
 repeat' (first|omega|(try apply ag);simp only [go_sem,sevalprocAttr]|apply ae<;>(intro h_;(try simp only [h_]);revert h_)|apply And.intro|with_reducible intro h_|trivial|simp only [go_sem,ah];omega)
 refine ⟨au.fn rfl (Ij s m L h h0 h1 hs) ?_⟩
 repeat' (first|omega|(try apply ag);simp only [go_sem,sevalprocAttr]|apply ae<;>(intro h_;(try simp only [h_]);revert h_)|apply And.intro|with_reducible intro h_|trivial|simp only [go_sem,ah];omega)
theorem U4 (s m:List Int) (L h:Int) (h0:0<=h) (h1:h<m.length) (g0:0<=m.getD h.toNat 0) (g1:m.getD h.toNat 0<=100000):Fn Tryz.prog 134 [I h, .rp (dgC s m L) 0] (I (fC (m.getD h.toNat 0) 2)):=by
 refine Fn.intro [.tmp 3] Tryz.func134 rfl rfl (by decide) (by simp [Tryz.ntmps134]) ?_;rw [Tryz.ntmps134]
 repeat' (first|omega|(try apply ag);simp only [go_sem,sevalprocAttr]|apply ae<;>(intro h_;(try simp only [h_]);revert h_)|apply And.intro|with_reducible intro h_|trivial|simp only [go_sem,ah];omega)
 refine ⟨au.fn rfl (Us _ g0 g1) ?_⟩
 repeat' (first|omega|(try apply ag);simp only [go_sem,sevalprocAttr]|apply ae<;>(intro h_;(try simp only [h_]);revert h_)|apply And.intro|with_reducible intro h_|trivial|simp only [go_sem,ah];omega)
theorem Vq (g:Nat) (c:Cs) (nx:Int->Int) (x:Int) (k:Nat) (hk:qG nx x k) (hb:k<=100000) (hf: ∀j,j<k->Fn Tryz.prog g [I (it nx j x), .rp c 0] (I (it nx (j+1) x))):
  Fn Tryz.prog 150 [I x, .fn g [.rp c 0]] (roI (its nx x k)):=by
 have k0:=hk.pos;refine Fn.intro [.tmp 4] Tryz.func150 rfl rfl (by decide) (by simp [Tryz.ntmps150]) ?_;rw [Tryz.ntmps150]
 repeat' (first|omega|(try apply ag);simp only [go_sem,sevalprocAttr]|apply ae<;>(intro h_;(try simp only [h_]);revert h_)|apply And.intro|with_reducible intro h_|trivial|simp only [go_sem,ah];omega)
 refine ⟨au.fn rfl (hf 0 k0) ?_⟩
 repeat' (first|omega|(try apply ag);simp only [go_sem,sevalprocAttr]|apply ae<;>(intro h_;(try simp only [h_]);revert h_)|apply And.intro|with_reducible intro h_|trivial|simp only [go_sem,ah];omega)
 refine aR.intro (fun n fr H=> ∃j:Nat,0<j/\j<=k/\n=k-j/\fr=[(6,I (it nx j x)),(5, .sl 1 0 0 j),(1, .fn g [.rp c 0]),(0,I x)]/\H=[(0, .cells 3 (.ints (its nx x j)))]) ?_ ?_
 ·refine ⟨_,_,_,?_,1,by omega,by omega,rfl,rfl,rfl⟩;refine Wk.sub ?_ ?_<;>simp only [go_sem,sevalprocAttr];rfl
 rintro n fr H ⟨j,hj,n7,rfl,rfl,rfl⟩;have e1:=GQ nx x j;have e2:=GQ nx x k;by_cases b9:j<k
 ·have av:=hk.first j hj b9
  repeat' (first|omega|(try apply ag);simp only [go_sem,sevalprocAttr]|apply ae<;>(intro h_;(try simp only [h_]);revert h_)|apply And.intro|with_reducible intro h_|trivial|simp only [go_sem,ah];omega)
  refine ⟨au.fn rfl (hf j b9) ?_⟩
  repeat' (first|omega|(try apply ag);simp only [go_sem,sevalprocAttr]|apply ae<;>(intro h_;(try simp only [h_]);revert h_)|apply And.intro|with_reducible intro h_|trivial|simp only [go_sem,ah];omega)
  refine ⟨_,_,_,?_,?_,⟨j+1,by omega,by omega,rfl,rfl,rfl⟩⟩
  ·omega
  ·refine Wk.sub ?_ ?_<;>simp only [go_sem,sevalprocAttr];exact (Pf nx x j).symm
 ·obtain rfl:j=k:=by omega
  have av:=hk.back
  repeat' (first|omega|(try apply ag);simp only [go_sem,sevalprocAttr]|apply ae<;>(intro h_;(try simp only [h_]);revert h_)|apply And.intro|with_reducible intro h_|trivial|simp only [go_sem,ah];omega)
  exact List.take_of_length_le (by omega)
theorem Xh (N:Nat) (w g:Nat) (c:Cs) (want:Int->Bool) (orb:Int->List Int) (hN:N<=10000) (hw: ∀h:Nat,h<N->Fn Tryz.prog w [I h, .rp c 0] (.bool (want h)))
  (ho: ∀h:Nat,h<N->want h=true->(orb h).length<=N/\(∀x∈orb h,0<=x/\x<N)/\Fn Tryz.prog 150 [I h, .fn g [.rp c 0]] (roI (orb h))):
  Fn Tryz.prog 133 [I N, .fn w [.rp c 0], .fn g [.rp c 0]] (kO (aQ N want orb N).1):=by
 refine Fn.ai [.tmp 6] Tryz.func133 rfl rfl (by decide) (by simp [Tryz.ntmps133]) ?_;rw [Tryz.ntmps133]
 repeat' (first|omega|(try apply ag);simp only [go_sem,sevalprocAttr]|apply ae<;>(intro h_;(try simp only [h_]);revert h_)|apply And.intro|with_reducible intro h_|trivial|simp only [go_sem,ah];omega)
 refine aR.intro (fun n fr H=> ∃h:Nat,h<=N/\n=N-h/\(((aQ N want orb h).1=[]/\fr=[(16,I h),(15,I N),(8, .sl 1 0 0 N),(7, .nils),(1, .fn w [.rp c 0]),(2, .fn g [.rp c 0])]/\H=[(0, .cells 4 (.bools (aQ N want orb h).2))])\/
  (fr=[(16,I h),(15,I N),(8, .sl 1 0 0 N),(7, .sl 1 2 0 (aQ N want orb h).1.length),(1, .fn w [.rp c 0]),(2, .fn g [.rp c 0])]/\H=[(2, .cells 22 (.lst ((aQ N want orb h).1.map jZ))),(0, .cells 4 (.bools (aQ N want orb h).2))]))) ?_ ?_
 ·refine ⟨_,_,_,?_,0,by omega,rfl, .inl ⟨rfl,rfl,rfl⟩⟩;refine Wk.sub ?_ ?_<;>simp only [go_sem,sevalprocAttr];rfl
 rintro n fr H ⟨h,hh,rfl,cC⟩;obtain ⟨e1,e2⟩:=Ef N want orb h;rcases cC with ⟨bx,rfl,rfl⟩|⟨rfl,rfl⟩
 ·by_cases ax:h<N
  ·have KZ:=hw h ax
   repeat' (first|omega|(try apply ag);simp only [go_sem,sevalprocAttr]|apply ae<;>(intro h_;(try simp only [h_]);revert h_)|apply And.intro|with_reducible intro h_|trivial|simp only [go_sem,ah];omega)
   ·refine ⟨au.fn rfl KZ ?_⟩
    repeat' (first|omega|(try apply ag);simp only [go_sem,sevalprocAttr]|apply ae<;>(intro h_;(try simp only [h_]);revert h_)|apply And.intro|with_reducible intro h_|trivial|simp only [go_sem,ah];omega)
    ·have hwt:want h=false:=by assumption
     have eS:aQ N want orb (h+1)=aQ N want orb h:=by simp only [aQ,kg];rw [if_pos (by rw [hwt];simp)]
     refine ⟨_,_,_,?_,?_,⟨h+1,by omega,rfl, .inl ⟨by rw [eS];exact bx,rfl,rfl⟩⟩⟩
     ·omega
     ·refine Wk.sub ?_ ?_<;>(simp only [go_sem,sevalprocAttr];try rw [eS];try simp only [ye3,and_self])
    ·have hwt:want h=true:=by assumption
     have Le:(aQ N want orb h).2.getD h false=false:=by assumption
     have eS:aQ N want orb (h+1)=((aQ N want orb h).1++[orb h],iZ (aQ N want orb h).2 (orb h)):=by simp only [aQ,kg];rw [if_neg (by rw [hwt,Le];simp)]
     obtain ⟨o1,o2,o3⟩:=ho h ax hwt;refine ⟨au.fn rfl o3 ?_⟩
     repeat' (first|omega|(try apply ag);simp only [go_sem,sevalprocAttr]|apply ae<;>(intro h_;(try simp only [h_]);revert h_)|apply And.intro|with_reducible intro h_|trivial|simp only [go_sem,ah];omega)
     generalize (aQ N want orb h).2=gw at*
     refine aR.intro (fun n fr H=> ∃k:Nat,k<=(orb h).length/\n=(orb h).length-k/\fr=[(34,I k),(33,I (orb h).length),(32,roI (orb h)),(10,roI (orb h)),(16,I h),(15,I N),(8, .sl 1 0 0 N),(7, .nils),(1, .fn w [.rp c 0]),(2, .fn g [.rp c 0])]/\
      H=[(0, .cells 4 (.bools (iZ gw ((orb h).take k))))]) ?_ ?_
     ·refine ⟨_,_,_,?_,0,by omega,rfl,rfl,rfl⟩;refine Wk.sub ?_ ?_<;>simp only [go_sem,sevalprocAttr]
      all_goals simp [iZ]
     rintro n fr H ⟨k,hk,rfl,rfl,rfl⟩;have ml:=HX ((orb h).take k) gw;by_cases bM:k<(orb h).length
     ·have hr:=o2 ((orb h).getD k 0) (by simp [bM])
      repeat' (first|omega|(try apply ag);simp only [go_sem,sevalprocAttr]|apply ae<;>(intro h_;(try simp only [h_]);revert h_)|apply And.intro|with_reducible intro h_|trivial|simp only [go_sem,ah];omega)
      refine ⟨_,_,_,?_,?_,⟨k+1,by omega,rfl,rfl,rfl⟩⟩
      ·omega
      ·refine Wk.sub ?_ ?_<;>simp only [go_sem,sevalprocAttr];rw [List.take_succ_eq_append_getElem bM,Io];simp [iZ,bM]
     ·obtain rfl:k=(orb h).length:=by omega
      rw [List.take_of_length_le (zzA _)]
      repeat' (first|omega|(try apply ag);simp only [go_sem,sevalprocAttr]|apply ae<;>(intro h_;(try simp only [h_]);revert h_)|apply And.intro|with_reducible intro h_|trivial|simp only [go_sem,ah];omega)
      refine ⟨_,_,_,?_,?_,⟨h+1,by omega,rfl, .inr ⟨rfl,rfl⟩⟩⟩
      ·omega
      ·refine Wk.sub ?_ ?_<;>(simp only [go_sem,sevalprocAttr];rw [eS];simp only [go_sem,sevalprocAttr])
       all_goals simp_all [jZ]
   ·have aY:(aQ N want orb h).2.getD h false=true:=by assumption
    have eS:aQ N want orb (h+1)=aQ N want orb h:=by simp only [aQ,kg];rw [if_pos (by rw [aY];simp)]
    refine ⟨_,_,_,?_,?_,⟨h+1,by omega,rfl, .inl ⟨by rw [eS];exact bx,rfl,rfl⟩⟩⟩
    ·omega
    ·refine Wk.sub ?_ ?_<;>(simp only [go_sem,sevalprocAttr];try rw [eS];try simp only [ye3,and_self])
  ·obtain rfl:h=N:=by omega
   repeat' (first|omega|(try apply ag);simp only [go_sem,sevalprocAttr]|apply ae<;>(intro h_;(try simp only [h_]);revert h_)|apply And.intro|with_reducible intro h_|trivial|simp only [go_sem,ah];omega)
   all_goals first|(rw [bx];exact az.nils (by omega) rfl)|(exact sP _ _ _ _ ‹_›)|exact az.of (by rw [List.take_of_length_le (by simp)])
 ·by_cases ax:h<N
  ·have KZ:=hw h ax
   repeat' (first|omega|(try apply ag);simp only [go_sem,sevalprocAttr]|apply ae<;>(intro h_;(try simp only [h_]);revert h_)|apply And.intro|with_reducible intro h_|trivial|simp only [go_sem,ah];omega)
   ·refine ⟨au.fn rfl KZ ?_⟩
    repeat' (first|omega|(try apply ag);simp only [go_sem,sevalprocAttr]|apply ae<;>(intro h_;(try simp only [h_]);revert h_)|apply And.intro|with_reducible intro h_|trivial|simp only [go_sem,ah];omega)
    ·have hwt:want h=false:=by assumption
     have eS:aQ N want orb (h+1)=aQ N want orb h:=by simp only [aQ,kg];rw [if_pos (by rw [hwt];simp)]
     refine ⟨_,_,_,?_,?_,⟨h+1,by omega,rfl, .inr ⟨rfl,rfl⟩⟩⟩
     ·omega
     ·refine Wk.sub ?_ ?_<;>(simp only [go_sem,sevalprocAttr];try rw [eS];try simp only [ye3,and_self])
    ·have hwt:want h=true:=by assumption
     have Le:(aQ N want orb h).2.getD h false=false:=by assumption
     have eS:aQ N want orb (h+1)=((aQ N want orb h).1++[orb h],iZ (aQ N want orb h).2 (orb h)):=by simp only [aQ,kg];rw [if_neg (by rw [hwt,Le];simp)]
     obtain ⟨o1,o2,o3⟩:=ho h ax hwt;refine ⟨au.fn rfl o3 ?_⟩
     repeat' (first|omega|(try apply ag);simp only [go_sem,sevalprocAttr]|apply ae<;>(intro h_;(try simp only [h_]);revert h_)|apply And.intro|with_reducible intro h_|trivial|simp only [go_sem,ah];omega)
     generalize (aQ N want orb h).2=gw at*
     refine aR.intro (fun n fr H=> ∃k:Nat,k<=(orb h).length/\n=(orb h).length-k/\fr=[(34,I k),(33,I (orb h).length),(32,roI (orb h)),(10,roI (orb h)),(16,I h),(15,I N),(8, .sl 1 0 0 N),(7, .sl 1 2 0 (aQ N want orb h).1.length),(1, .fn w [.rp c 0]),(2, .fn g [.rp c 0])]/\
      H=[(2, .cells 22 (.lst ((aQ N want orb h).1.map jZ))),(0, .cells 4 (.bools (iZ gw ((orb h).take k))))]) ?_ ?_
     ·refine ⟨_,_,_,?_,0,by omega,rfl,rfl,rfl⟩;refine Wk.sub ?_ ?_<;>simp only [go_sem,sevalprocAttr]
      all_goals simp [iZ]
     rintro n fr H ⟨k,hk,rfl,rfl,rfl⟩;have ml:=HX ((orb h).take k) gw;by_cases bM:k<(orb h).length
     ·have hr:=o2 ((orb h).getD k 0) (by simp [bM])
      repeat' (first|omega|(try apply ag);simp only [go_sem,sevalprocAttr]|apply ae<;>(intro h_;(try simp only [h_]);revert h_)|apply And.intro|with_reducible intro h_|trivial|simp only [go_sem,ah];omega)
      refine ⟨_,_,_,?_,?_,⟨k+1,by omega,rfl,rfl,rfl⟩⟩
      ·omega
      ·refine Wk.sub ?_ ?_<;>simp only [go_sem,sevalprocAttr];rw [List.take_succ_eq_append_getElem bM,Io];simp [iZ,bM]
     ·obtain rfl:k=(orb h).length:=by omega
      rw [List.take_of_length_le (zzA _)]
      repeat' (first|omega|(try apply ag);simp only [go_sem,sevalprocAttr]|apply ae<;>(intro h_;(try simp only [h_]);revert h_)|apply And.intro|with_reducible intro h_|trivial|simp only [go_sem,ah];omega)
      refine ⟨_,_,_,?_,?_,⟨h+1,by omega,rfl, .inr ⟨rfl,rfl⟩⟩⟩
      ·omega
      ·refine Wk.sub ?_ ?_<;>(simp only [go_sem,sevalprocAttr];rw [eS];simp only [go_sem,sevalprocAttr])
       all_goals simp_all [jZ]
   ·have aY:(aQ N want orb h).2.getD h false=true:=by assumption
    have eS:aQ N want orb (h+1)=aQ N want orb h:=by simp only [aQ,kg];rw [if_pos (by rw [aY];simp)]
    refine ⟨_,_,_,?_,?_,⟨h+1,by omega,rfl, .inr ⟨rfl,rfl⟩⟩⟩
    ·omega
    ·refine Wk.sub ?_ ?_<;>(simp only [go_sem,sevalprocAttr];try rw [eS];try simp only [ye3,and_self])
  ·obtain rfl:h=N:=by omega
   repeat' (first|omega|(try apply ag);simp only [go_sem,sevalprocAttr]|apply ae<;>(intro h_;(try simp only [h_]);revert h_)|apply And.intro|with_reducible intro h_|trivial|simp only [go_sem,ah];omega)
   all_goals first|(rw [bx];exact az.nils (by omega) rfl)|(exact sP _ _ _ _ ‹_›)|exact az.of (by rw [List.take_of_length_le (by simp)])
def Sd:Tr:= .node [(0, .node [(1, .node [(2,trD [3,4,5,6]),(3, .node [(2,trD [4,5,6]),(4,trD [2,5,6])])]),(3, .node [(1, .node [(2,trD [4,5,6]),(4,trD [2,5,6])]),(4,trD [1,2,5,6])])]),(3, .node [(0, .node [(1, .node [(2,trD [4,5,6]),(4,trD [2,5,6])]),(4,trD [1,2,5,6])]),(4,trD [0,1,2,5,6])])]
def Ai (s m:List Int) (L:Int):List (List Int):=if cX s m L then ff s m else []
theorem Kw (s m:List Int) (L:Int) (hv:x8 s m L) (h:Nat) (hh:h<4*s.length):(ak (a8 m) m.length h).length<=m.length/\(∀x∈ak (a8 m) m.length h,0<=x/\x<m.length)/\
  Fn Tryz.prog 150 [I h, .fn 134 [.rp (dgC s m L) 0]] (roI (ak (a8 m) m.length h)):=by
 have hR:aw s.length (h:Int):=by unfold aw;omega
 have hl:=hv.len;have CG:=hv.s64;have gD:=wE (tE hv.prd) hR;rw [←hl] at gD;obtain ⟨_,o2,_,_,_,o6,_,k,hk,ka,e⟩:=gD;refine ⟨o6,fun x hx=>by have:=o2 x hx;unfold aw at this;omega,?_⟩;rw [e];refine Vq _ _ (a8 m) h k ka (by omega) fun j hj=>?_;have hr:=(tE hv.prd).it hR j;have vJ:=hv.prd.cR hr;unfold aw at hr vJ;exact U4 s m L _ hr.1 (by omega) vJ.1 (by omega)
theorem Qj (s m:List Int) (L:Int):Fn Tryz.prog 98 [dgA s m L] (kO (Ai s m L)):=by
 refine Fn.ai [.tmp 2] Tryz.func98 rfl rfl (by decide) (by simp [Tryz.ntmps98]) ?_;rw [Tryz.ntmps98]
 repeat' (first|omega|(try apply ag);simp only [go_sem,sevalprocAttr]|apply ae<;>(intro h_;(try simp only [h_]);revert h_)|apply And.intro|with_reducible intro h_|trivial|simp only [go_sem,ah];omega)
 refine ⟨au.fn rfl (vh s m L) ?_⟩;cases hv:cX s m L with
 |false=>
  repeat' (first|omega|(try apply ag);simp only [go_sem,sevalprocAttr]|apply ae<;>(intro h_;(try simp only [h_]);revert h_)|apply And.intro|with_reducible intro h_|trivial|simp only [go_sem,ah];omega)
  unfold Ai;rw [hv];exact az.nils (by omega) rfl
 |true=>
  have v1:=jb hv;have CG:=v1.s64;have hl:=v1.len
  repeat' (first|omega|(try apply ag);simp only [go_sem,sevalprocAttr]|apply ae<;>(intro h_;(try simp only [h_]);revert h_)|apply And.intro|with_reducible intro h_|trivial|simp only [go_sem,ah];omega)
  refine ⟨au.jU [0] rfl (by simp only [go_sem,sevalprocAttr]) (by simp only [go_sem,sevalprocAttr]) (by simp only [go_sem,sevalprocAttr]) (by simp only [go_sem,sevalprocAttr]) rfl rfl rfl (au.fn rfl (Xh m.length _ _ (dgC s m L) (aB s) (ak (a8 m) m.length) (by omega) (fun h hh=>UR s m L h (by omega) (by omega) (by omega)) (fun h hh _=>Kw s m L v1 h (by omega))) ?_)⟩
  repeat' (first|omega|(try apply ag);simp only [go_sem,sevalprocAttr]|apply ae<;>(intro h_;(try simp only [h_]);revert h_)|apply And.intro|with_reducible intro h_|trivial|simp only [go_sem,ah];omega)
  unfold Ai ff;rw [hv];exact az.refl _
theorem UQ (s m:List Int) (L:Int):Fn Tryz.prog 55 [dgA s m L] (I (if cX s m L then (ff s m).length+L else 0)):=by
 refine Fn.intro [.tmp 2] Tryz.func55 rfl rfl (by decide) (by simp [Tryz.ntmps55]) ?_;rw [Tryz.ntmps55]
 repeat' (first|omega|(try apply ag);simp only [go_sem,sevalprocAttr]|apply ae<;>(intro h_;(try simp only [h_]);revert h_)|apply And.intro|with_reducible intro h_|trivial|simp only [go_sem,ah];omega)
 refine ⟨au.fn rfl (vh s m L) ?_⟩;have hS:=Qj s m L;unfold Ai at hS;have dL:=EL s m;cases hv:cX s m L with
 |false=>
  repeat' (first|omega|(try apply ag);simp only [go_sem,sevalprocAttr]|apply ae<;>(intro h_;(try simp only [h_]);revert h_)|apply And.intro|with_reducible intro h_|trivial|simp only [go_sem,ah];omega)
 |true=>
  rw [hv,if_pos rfl] at hS;have v1:=jb hv;have CG:=v1.s64;have hl:=v1.len;have h0:=v1.l0;have h1:=v1.EU
  repeat' (first|omega|(first|apply ag|(refine aj.intro (id:=3) [[9,10],[9,10],[9,10],[6,7,8],[6,7,8],[],[]] [[],[],[],[0,1,2],[0,1,2],[],[]] (by decide+kernel) mixed ?_)|(refine aj.ay (id:=3) (Sd) (by decide+kernel) mixed ?_)|skip);simp only [go_sem,sevalprocAttr,↓reduceIte,reduceCtorEq,Sd]|apply ae<;>(intro h_;(try simp only [h_]);revert h_)|apply And.intro|with_reducible intro h_|trivial|simp only [go_sem,ah];omega)
  refine ⟨bI.fn rfl hS ?_⟩
  repeat' (first|omega|(try apply ag);simp only [go_sem,sevalprocAttr]|apply ae<;>(intro h_;(try simp only [h_]);revert h_)|apply And.intro|with_reducible intro h_|trivial|simp only [go_sem,ah];omega)
section
variable {P:Program} {B:Nat} {w0:gU} {Mx:Nat->Prop} {N:Nat} {fr:Fr} {H:Hp}
theorem awO.of {o:Oper} {K:Fr->Hp->Prop} (hc:cvOk P o.op=true) (hq:quF P H (evA fr) o.op=none) (ha:alF P (hnew H) (evA fr) o.op=none) (hx:awX P N o fr H K):awO P N o fr H K:=by
 unfold awO;rw [hq,ha];exact ⟨hc,hx⟩
theorem Oper.cL {o:Oper} {a:Act} {w w':World} {v:Value} {K:Act->World->Prop} {Q:Exit->Act->World->Prop} (h:(execOp a.eval o).run P w= .ok (.value v) w') (hk:K (a.put o.dst v) w'):o.wp P a w K Q:=by
 unfold Oper.wp;rw [h];exact hk
theorem Ur {w:World} {ty:TypeId} {r bm since c0:Nat} {seen:List Nat} {es:Array MapEntry} {clock:Nat} (hr:w.heap[r]?=some (.mapIter (some bm) since seen.toArray c0)) (hb:w.heap[bm]?=some (.map es clock)) (hold: ∀x∈es.toList,x.born<since) (jq:since<=c0) (ad:Addr) (Y2:ad.block=r/\ad.off=0):
  ((∀x∈es.toList,x.born∈seen)/\(Instr.next (.pointer (some ad)) false ty).run P w= .ok (.tuple #[.bool false]) w)\/
  ∃(j:Nat) (e:MapEntry) (w1:World),es[j]?=some e/\e.born∉seen/\(w1=w\/w1={w with drawn:=w.drawn+1})/\(Instr.next (.pointer (some ad)) false ty).run P w= .ok (.tuple #[.bool true,e.key,e.val]) {w1 with heap:=w1.heap.setIfInBounds r (.mapIter (some bm) since (seen++[e.born]).toArray clock)}:=by
 obtain ⟨ab,ao,asp⟩:=ad;obtain ⟨rfl,rfl⟩:=Y2;simp only [Instr.next,getObj,Sem.run_bind,Sem.run,hr,hb,Result.andThen,next_test_false seen.toArray es since c0 hold jq,Bool.false_eq_true,if_false];have iu: ∀x∈(Array.filter (fun e=> !seen.toArray.contains e.born) es).toList,x∈es.toList/\x.born∉seen:=fun x hx=>by simp at hx⊢;exact hx
 have cF:(Array.filter (fun e=> !seen.toArray.contains e.born) es)= #[]-> ∀x∈es.toList,x.born∈seen:=fun h x hx=>by
  rw [Array.filter_eq_empty_iff] at h
  have:=h x (by simpa using hx)
  simpa using this
 generalize Array.filter (fun e=> !seen.toArray.contains e.born) es=L at iu cF⊢;have e1:L.filter (fun x=>decide (x.born<since))=L:=Array.filter_eq_self.2 (fun x hx=>by simpa using hold x (iu x (by simpa using hx)).1);have e2:L.filter (fun x=>decide (x.born≥since))= #[]:=by
  rw [Array.filter_eq_empty_iff];intro x hx
  have:=hold x (iu x (by simpa using hx)).1
  simp;omega
 simp only [e1,e2,Array.append_empty];by_cases h0:L.size=0
 ·left
  have:L= #[]:=Array.eq_empty_of_size_eq_zero h0
  refine ⟨cF this,?_⟩;subst this;simp [choose,Sem.run,Question.forced]
 ·right;have av:L.isEmpty=false:=by simp [Array.isEmpty,h0]
  simp only [av,Bool.false_eq_true,if_false,Array.empty_append,Array.size_map];have lf: ∃(j:Nat) (w1:World),j<L.size/\(w1=w\/w1={w with drawn:=w.drawn+1})/\(if (Question.mapNext L.size).forced=true then (Result.ok 0 w:Result Nat) else Result.ok ((Question.mapNext L.size).cut (w.tape w.drawn (Question.mapNext L.size))) w.drew)= .ok j w1:=by
   by_cases hf:L.size<=1
   ·exact ⟨0,w,by omega, .inl rfl,by simp [Question.forced,hf]⟩
   ·refine ⟨_,w.drew,?_, .inr rfl,by rw [if_neg (by simp [Question.forced,hf])]⟩;simp only [Question.cut];exact Nat.mod_lt _ (by omega)
  obtain ⟨j,w1,hj,pq,aF⟩:=lf;obtain ⟨m1,m2⟩:=iu L[j] (by simp);obtain ⟨i,hi,Ta⟩:=List.mem_iff_getElem.1 m1;refine ⟨i,L[j],w1,?_,m2,pq,?_⟩
  ·rw [←Ta];simp at hi⊢
  ·have iy:w1.heap[ab]?=some (.mapIter (some bm) since seen.toArray c0):=by rcases pq with rfl|rfl<;>exact hr
   simp only [choose,Sem.run];by_cases hf:(Question.mapNext L.size).forced=true
   ·rw [if_pos hf] at aF⊢;injection aF with q1 q2;subst q1 q2;simp [hj,setObj,Sem.run,iy]
   ·rw [if_neg hf] at aF⊢;injection aF with q1 q2;subst q2;simp only [q1];simp [hj,setObj,Sem.run,iy]
theorem kH.next {o:Oper} {x:Operand} {iid mid since last t ck:Nat} {seen:List Nat} {l:List (ByteArray×Nat×AV)} {K:Fr->Hp->Prop} (ho:o.op= .next x false) (hd:dok o.dst N=true) (hx:evA fr x= .ptr iid 0) (hi:hget H iid=some (.iter mid since seen last)) (hm:hget H mid=some (.gmap t ck l))
  (hb: ∀q∈l,q.2.1<since) (dL:since<=last) (h1:(∀q∈l,q.2.1∈seen)->K (fput fr o.dst (.tup [.bool false])) H)
  (h2: ∀q∈l,q.2.1∉seen->K (fput fr o.dst (.tup [.bool true, .str q.1,q.2.2])) (hset H iid (.iter mid since (seen++[q.2.1]) ck))):kH P N o K fr H:=by
 intro B w0 Mx w ρ a hs Q;obtain ⟨i1,i2,i3⟩:=hs.objs iid _ hi;obtain ⟨es,g1,g2,g3⟩:=hs.objs mid _ hm;have ex:=(hx▸hs.ev x).dV.1;have CJ:(ρ iid).add 0=ρ iid:=rfl;rw [CJ] at ex;have hold: ∀e∈es.toList,e.born<since:=fun e he=>by
  obtain ⟨j,hj,rfl⟩:=List.mem_iff_getElem.1 he;have uh:j<l.length:=by rw [←g2];simpa using hj
  obtain ⟨_,k2,_⟩:=g3 j _ l[j] (Array.getElem?_eq_getElem (by simpa using hj)) (zzI uh);show (es[j]'(by simpa using hj)).born<since;rw [k2];exact hb _ (List.getElem_mem uh)
 have oB:(execOp a.eval o).run P w=((Instr.next (.pointer (some (ρ iid))) false o.type).run P w).andThen fun v w'=> .ok (.value v) w':=by
  simp only [execOp,ho,ex];simp
 rcases Ur (P:=P) (ty:=o.type) i3 g1 hold dL (ρ iid) ⟨rfl,i2⟩ with ⟨k1,k2⟩|⟨j,e,w1,k1,k2,k3,k4⟩
 ·refine Oper.cL (by rw [oB,k2];rfl) ⟨ρ,_,H,h1 fun q hq=>?_,hs.put hd (.tup [.bool false] [.bool false] rfl fun i v x hv hx=>?_)⟩
  ·obtain ⟨j,hj,rfl⟩:=List.mem_iff_getElem.1 hq;have uh:j<es.size:=by omega
   obtain ⟨_,q2,_⟩:=g3 j es[j] l[j] (by simp [uh]) (zzI hj);rw [←q2];exact k1 _ (by simp)
  ·match i,hv,hx with
   |0,hv,hx=>cases hv;cases hx;exact .bool _
 ·have hj:j<es.size:=(Array.getElem?_eq_some_iff.1 k1).1;have uh:j<l.length:=by omega
  obtain ⟨q1,q2,q3⟩:=g3 j e l[j] k1 (zzI uh);have mQ:aA B w0 Mx N w1 ρ fr H a:=by
   rcases k3 with rfl|rfl
   ·exact hs
   ·exact hs.draw
  have KS:w1.heap[(ρ iid).block]?=some (.mapIter (some (ρ mid).block) since seen.toArray last):=by rcases k3 with rfl|rfl<;>exact i3
  have gC:=mQ.xx (b2:= .mapIter (some (ρ mid).block) since (seen++[e.born]).toArray ck) (o2:= .iter mid since (seen++[e.born]) ck) hi rfl rfl KS (fun _ _=>by simp) fun M' hc=>⟨(wy hi mid).2 i1,i2,by simp [eY KS]⟩;have Yo:VR w1 (MM Mx H ρ) ρ (DD H) e.val (l[j]).2.2:=by
   rcases k3 with rfl|rfl
   ·exact q3
   ·exact q3.carry (w':={w with drawn:=w.drawn+1}) (zzA _) (fun _ _ hm=>⟨rfl,hm⟩) (fun id hd=>⟨hd,rfl,fun arr t ha=>⟨arr,ha,rfl⟩⟩)
  have hval:VR {w1 with heap:=w1.heap.setIfInBounds (ρ iid).block (.mapIter (some (ρ mid).block) since (seen++[e.born]).toArray ck)} (MM Mx (hset H iid (.iter mid since (seen++[e.born]) ck)) ρ) ρ (DD (hset H iid (.iter mid since (seen++[e.born]) ck))) e.val (l[j]).2.2:=by
   refine Yo.carry (by simp) (fun b hb hm=>?_) (fun i pB=>⟨(wy hi i).2 pB,rfl,fun ar tt fc=>?_⟩)
   ·have av:b≠(ρ iid).block:=fun e'=>hm (.inr ⟨iid,_,hi,rfl,e'.symm⟩);exact ⟨by show (w1.heap.setIfInBounds _ _)[b]?=_;rw [Array.getElem?_setIfInBounds_ne (Ne.symm av)],fun hh=>hm ((zX (o':= .iter mid since (seen++[e.born]) ck) hi rfl b).1 hh)⟩
   ·by_cases e':(ρ i).block=(ρ iid).block
    ·rw [e'] at fc;rw [KS] at fc;cases fc
    ·exact ⟨ar,by show (w1.heap.setIfInBounds _ _)[(ρ i).block]?=_;rw [Array.getElem?_setIfInBounds_ne (Ne.symm e')];exact fc,rfl⟩
  refine Oper.cL (by rw [oB,k4];rfl) ⟨ρ,_,_,?_,gC.put hd (.tup [.bool true,e.key,e.val] [.bool true, .str (l[j]).1,(l[j]).2.2] rfl fun i v x hv hx=>?_)⟩
  ·have:=h2 l[j] (List.getElem_mem uh) (by rw [←q2];exact k2)
   rw [←q2] at this;exact this
  ·match i,hv,hx with
   |0,hv,hx=>cases hv;cases hx;exact .bool _
   |1,hv,hx=>cases hv;cases hx;rw [q1];exact .str _
   |2,hv,hx=>cases hv;cases hx;exact hval
theorem VR.KP {w:World} {M:Nat->Prop} {ρ:Nat->Addr} {D:Nat->Prop} {v:Value} {id:Nat} (h:VR w M ρ D v (.mp id)):D id:=by cases h;assumption
theorem kH.range {o:Oper} {x:Operand} {xt kt et mid t ck:Nat} {l:List (ByteArray×Nat×AV)} {K:Fr->Hp->Prop} (ho:o.op= .range xt x) (hd:dok o.dst N=true) (c7:tk P xt= .map kt et) (hx:evA fr x= .mp mid) (hm:hget H mid=some (.gmap t ck l))
  (h:K (fput fr o.dst (.ptr (hnew H) 0)) ((hnew H, .iter mid ck [] ck)::H)):kH P N o K fr H:=by
 intro B w0 Mx w ρ a hs Q;obtain ⟨es,g1,g2,g3⟩:=hs.objs mid _ hm;have ex:=(hx▸hs.ev x).fi;have hn:hget H (hnew H)=none:=yH (zzA _);have E7:mid≠hnew H:=fun e=>by rw [←e,hm] at hn;cases hn
 have gC:=hs.alloc (hnew H) hn (.mapIter (some (ρ mid).block) ck #[] ck) (.iter mid ck [] ck) fun M' ρ' D' hr hc=>by
  have h0:=hc (D:=DD H) (fun _ h=>h) (VR.mp (w:=w) (M:=MM Mx H ρ) (ρ:=ρ) mid ⟨_,hm⟩);have h1:=h0.fi;simp only [Value.map.injEq,Option.some.injEq] at h1;exact ⟨h0.KP,by rw [hr],by rw [hr,←h1];exact oY⟩
 ·refine Oper.cL (v:= .pointer (some ⟨w.heap.size,0,none⟩)) (w':=w.alloc (.mapIter (some (ρ mid).block) ck #[] ck)) ?_ ⟨_,_,_,h,gC.put hd ?_⟩
  ·simp only [execOp,ho,ex];simp [Instr.range,run_underlying (oV c7),getObj,Sem.run,g1,newObj]
  ·have:=VR.ptr (w:=w.alloc (.mapIter (some (ρ mid).block) ck #[] ck)) (M:=MM Mx ((hnew H, .iter mid ck [] ck)::H) (db ρ (hnew H) ⟨w.heap.size,0,none⟩)) (ρ:=db ρ (hnew H) ⟨w.heap.size,0,none⟩) (D:=DD ((hnew H,AObj.iter mid ck [] ck)::H)) (hnew H) 0 wm
   rwa [gV] at this
end
section
variable {P:Program} {N:Nat} {fr:Fr} {H:Hp} {K:Fr->Hp->Prop} {o:Oper}
theorem kH.insert {t:Nat} {m k x:Operand} {id:Nat} {ob:AObj} (ho:o.op= .insert t m k x) (hd:dok o.dst N=true) (hs:muF P H t (evA fr m) (evA fr k) (evA fr x)=some (id,ob)) (h:K (fput fr o.dst .any) (hset H id ob)):kH P N o K fr H:=by
 intro B w0 Mx w ρ a cA Q;obtain ⟨w',aF,gC⟩:=H4 (P:=P) cA (cA.ev m) (cA.ev k) (cA.ev x) hs
 have:(execOp a.eval o).run P w= .ok .skip w':=by simp only [execOp,ho];simp [aF]
 unfold Oper.wp;rw [this];exact ⟨_,_,_,h,gC.put hd (.any _)⟩
theorem kH.makeMap {t kt et:Nat} {r:Operand} {n:Int} (ho:o.op= .makeMap t (some r)) (hd:dok o.dst N=true) (c7:tk P t= .map kt et) (hr:evA fr r=I n) (h:K (fput fr o.dst (.mp (hnew H))) ((hnew H,mkM P t)::H)):kH P N o K fr H:=by
 intro B w0 Mx w ρ a hs Q;have er:=(hr▸hs.ev r).an;have hn:hget H (hnew H)=none:=yH (zzA _);have aF:(execOp a.eval o).run P w= .ok (.value (.map (some w.heap.size))) (w.alloc (.map #[] 0)):=by
  simp only [execOp,ho];simp [Instr.makeMap,run_underlying (oV c7),asInt,asIntOf,newObj,Sem.run,er]
 have gC:=hs.alloc (hnew H) hn (.map #[] 0) (mkM P t) fun M' ρ' D' hr _=>by
  rcases Qc P t with e|e|e|e|e<;>rw [e]
  ·exact ⟨by simp, #[],0,by rw [hr];exact oY,rfl,by simp⟩
  ·exact ⟨[], #[],0,by rw [hr];exact oY,rfl,fun _=>rfl⟩
  ·exact ⟨[], #[],0,by rw [hr];exact oY,rfl,fun _=>rfl⟩
  ·exact ⟨#[],by rw [hr];exact oY,rfl,fun j e q he=>by simp at he⟩
  ·exact ⟨[], #[],0,by rw [hr];exact oY,rfl,fun _=>rfl⟩
 refine Oper.cL aF ⟨_,_,_,h,gC.put hd ?_⟩
 have:=VR.mp (w:=w.alloc (.map #[] 0)) (M:=MM Mx ((hnew H,mkM P t)::H) (db ρ (hnew H) ⟨w.heap.size,0,none⟩)) (ρ:=db ρ (hnew H) ⟨w.heap.size,0,none⟩) (D:=DD ((hnew H,mkM P t)::H)) (hnew H) wm
 rwa [gV] at this
def nT (ts:List Int):ByteArray:=ts.foldl (fun r n=>r.push (UInt8.ofNat n.toNat)) ByteArray.empty
theorem kH.MI {s d e:Nat} {x:Operand} {id t:Nat} {ts:List Int} (ho:o.op= .convert s d x) (hd:dok o.dst N=true) (hs:tk P s= .slice e) (he:tk P e= .int .u8) (Fi:tk P d= .str) (hx:evA fr x= .sl 1 id 0 ts.length) (fj:hget H id=some (.cells t (.lst (ts.map (AV.int .u8)))))
  (h:K (fput fr o.dst (.str (nT ts))) H):kH P N o K fr H:=by
 intro B w0 Mx w ρ a cA Q;have hv:=cA.ev x;rw [hx] at hv;obtain ⟨h1,arr,h2,h3,h4⟩:=cA.objs id _ fj;simp only [Cs.len,List.length_map] at h3 h4;generalize Bu:a.eval x=v at hv;cases hv with
 |sl es id off len cap hdd hc aK t' ad ha hb hr=>
  have aF:(execOp a.eval o).run P w= .ok (.value (.string (nT ts))) w:=by
   have Cl:=run_convert_bytes_string (P:=P) w s d e (some ad) ts.length cap (gX hs) (oT he) (qK Fi);have hl:(loadCells ad ts.length).run P w= .ok (ts.map (Value.int .u8)).toArray w:=by
    have eO: ∀j,j<ts.length->w.cell? (ad.add j)=some ((ts.map (Value.int .u8)).getD j undef):=fun j hj=>by
     have iS:0<cap:=by omega
     have e:=ha iS;rw [show (ρ id).add 0=ρ id from rfl] at e;subst e;obtain ⟨u,g1,g2⟩:=h4 j hj;rw [qk h1];have hu:u= .int .u8 (ts[j]):=by
      simp only [Cs.get,zzB,List.getElem?_map,zzI hj,Option.map_some,Option.getD_some] at g2;exact g2.an
     simp [World.cell?,h2,g1,hu,hj]
    have:=EN (P:=P) (w:=w) (a:=ad) (x:=fun j=>(ts.map (Value.int .u8)).getD j undef) ts.length 0 #[] (fun j _ hj=>eO j (by omega))
    simp only [loadCells,this];congr 1;apply Array.ext';apply List.ext_getElem?;intro i;by_cases hi:i<ts.length
    ·simp [hi]
    ·simp [hi]
   simp only [execOp,ho,Bu];rw [Sem.run_bind,Cl,run_bytesToString w ad ts.length cap ts hl];rfl
  exact Oper.cL aF ⟨ρ,_,_,h,cA.put hd (.str _)⟩
theorem dS.vy {ops:Array Oper} {r:List Oper} (hc:cvOk P o.op=true) (hq:quF P H (evA fr) o.op=none) (ha:alF P (hnew H) (evA fr) o.op=none) (hx:awX P N o fr H fun fr' H'=>awL P N ops r fr' H' K):dS P N ops fr H K o r:=⟨awO.of hc hq ha hx⟩
theorem dS.MI {ops:Array Oper} {r:List Oper} {s d e:Nat} {x:Operand} {id t:Nat} {ts:List Int} (ho:o.op= .convert s d x) (hd:dok o.dst N=true) (hs:tk P s= .slice e) (he:tk P e= .int .u8) (Fi:tk P d= .str) (hx:evA fr x= .sl 1 id 0 ts.length) (fj:hget H id=some (.cells t (.lst (ts.map (AV.int .u8)))))
  (h:awL P N ops r (fput fr o.dst (.str (nT ts))) H K):dS P N ops fr H K o r:=by
 refine dS.vy ?_ ?_ ?_ ?_
 ·rw [ho];simp only [cvOk,hs]
 ·rw [ho];simp only [quF,opF,yod,Fi,hx]
 ·rw [ho];rfl
 ·unfold awX;rw [ho];exact ⟨rfl,kH.MI (K:=fun fr' H'=>awL P N ops r fr' H' K) ho hd hs he Fi hx fj h⟩
theorem dS.next {ops:Array Oper} {r:List Oper} {x:Operand} {iid mid since last t ck:Nat} {seen:List Nat} {l:List (ByteArray×Nat×AV)} (ho:o.op= .next x false) (hd:dok o.dst N=true) (hx:evA fr x= .ptr iid 0) (hi:hget H iid=some (.iter mid since seen last)) (hm:hget H mid=some (.gmap t ck l))
  (hb: ∀q∈l,q.2.1<since) (dL:since<=last) (h1:(∀q∈l,q.2.1∈seen)->awL P N ops r (fput fr o.dst (.tup [.bool false])) H K)
  (h2: ∀q∈l,q.2.1∉seen->awL P N ops r (fput fr o.dst (.tup [.bool true, .str q.1,q.2.2])) (hset H iid (.iter mid since (seen++[q.2.1]) ck)) K):dS P N ops fr H K o r:=by
 refine dS.vy ?_ ?_ ?_ ?_
 ·rw [ho];rfl
 ·rw [ho];rfl
 ·rw [ho];rfl
 ·unfold awX;rw [ho];exact ⟨rfl,kH.next (K:=fun fr' H'=>awL P N ops r fr' H' K) ho hd hx hi hm hb dL h1 h2⟩
theorem dS.range {ops:Array Oper} {r:List Oper} {x:Operand} {xt kt et mid t ck:Nat} {l:List (ByteArray×Nat×AV)} (ho:o.op= .range xt x) (hd:dok o.dst N=true) (c7:tk P xt= .map kt et) (hx:evA fr x= .mp mid) (hm:hget H mid=some (.gmap t ck l))
  (h:awL P N ops r (fput fr o.dst (.ptr (hnew H) 0)) ((hnew H, .iter mid ck [] ck)::H) K):dS P N ops fr H K o r:=by
 refine dS.vy ?_ ?_ ?_ ?_
 ·rw [ho];rfl
 ·rw [ho];rfl
 ·rw [ho];rfl
 ·unfold awX;rw [ho];exact ⟨rfl,kH.range (K:=fun fr' H'=>awL P N ops r fr' H' K) ho hd c7 hx hm h⟩
theorem dS.insert {ops:Array Oper} {r:List Oper} {t:Nat} {m k x:Operand} {id:Nat} {ob:AObj} (ho:o.op= .insert t m k x) (hd:dok o.dst N=true) (hs:muF P H t (evA fr m) (evA fr k) (evA fr x)=some (id,ob)) (h:awL P N ops r (fput fr o.dst .any) (hset H id ob) K):dS P N ops fr H K o r:=by
 refine dS.vy ?_ ?_ ?_ ?_
 ·rw [ho];rfl
 ·rw [ho];rfl
 ·rw [ho];rfl
 ·unfold awX;rw [ho];exact ⟨rfl,kH.insert (K:=fun fr' H'=>awL P N ops r fr' H' K) ho hd hs h⟩
theorem dS.makeMap {ops:Array Oper} {r:List Oper} {t kt et:Nat} {x:Operand} {n:Int} (ho:o.op= .makeMap t (some x)) (hd:dok o.dst N=true) (c7:tk P t= .map kt et) (hr:evA fr x=I n) (h:awL P N ops r (fput fr o.dst (.mp (hnew H))) ((hnew H,mkM P t)::H) K):dS P N ops fr H K o r:=by
 refine dS.vy ?_ ?_ ?_ ?_
 ·rw [ho];rfl
 ·rw [ho];rfl
 ·rw [ho];rfl
 ·unfold awX;rw [ho];exact ⟨rfl,kH.makeMap (K:=fun fr' H'=>awL P N ops r fr' H' K) ho hd c7 hr h⟩
end
set_option maxHeartbeats 8000000
def FD (k h:Int) (g:Int->Option (Int×Int)):Int->Option (Int×Int):=if h % 2=0 then updP g (h/4) k ((g (h/4)).getD (0,0)).2 else updP g (h/4) ((g (h/4)).getD (0,0)).1 k
def atN (k:Int) (l:List Int) (g:Int->Option (Int×Int)):Nat->Int->Option (Int×Int)
 |0=>g
 |j+1=>FD k (l.getD j 0) (atN k l g j)
def vY (ls:List (List Int)):Nat->Int->Option (Int×Int)
 |0=>fun _=>none
 |k+1=>atN k (ls.getD k []) (vY ls k) (ls.getD k []).length
theorem UP (s m:List Int) (L:Int) (hv:cX s m L=true):sw Tryz.prog 125 [dgA s m L] (.mp 1) [(1, .fmap 153 (.pairs (vY (ff s m) (ff s m).length)))]:=by
 have hS:=Qj s m L;unfold Ai at hS;rw [hv,if_pos rfl] at hS;have v1:=jb hv;have CG:=v1.s64;have hl:=v1.len;have dL:=EL s m;have iu:=fun l (hl:l∈ff s m)=>UI v1.prd hl;refine sw.intro [.tmp 2] Tryz.func125 rfl rfl (by decide) (by simp [Tryz.ntmps125]) ?_;rw [Tryz.ntmps125]
 repeat' (first|omega|(try apply ag);simp only [go_sem,sevalprocAttr]|apply ae<;>(intro h_;(try simp only [h_]);revert h_)|apply And.intro|with_reducible intro h_|trivial|simp only [go_sem,ah];omega)
 refine dS.makeMap (n:=(s.length:Int)) (kt:=3) (et:=155) rfl rfl (by simp only [go_sem,sevalprocAttr]) rfl ?_
 repeat' (first|omega|(try apply ag);simp only [go_sem,sevalprocAttr]|apply ae<;>(intro h_;(try simp only [h_]);revert h_)|apply And.intro|with_reducible intro h_|trivial|simp only [go_sem,ah];omega)
 refine ⟨au.fn rfl hS ?_⟩
 repeat' (first|omega|(try apply ag);simp only [go_sem,sevalprocAttr]|apply ae<;>(intro h_;(try simp only [h_]);revert h_)|apply And.intro|with_reducible intro h_|trivial|simp only [go_sem,ah];omega)
 generalize ff s m=ls at*;refine aR.intro (fun n fr H=> ∃i:Nat,i<=ls.length/\n=ls.length-i/\fr=[(16,I i),(15,I ls.length),(14,kO ls),(3, .mp 1),(1, .ptr 0 0)]/\H=[(1, .fmap 153 (.pairs (vY ls i))),(0, .cells 24 (.lst [roI s,roI m,I L]))]) ?_ ?_
 ·refine ⟨_,_,_,Wk.sub ?_ ?_,0,by omega,rfl,rfl,rfl⟩
  ·simp only [go_sem,sevalprocAttr]
  ·(simp only [go_sem,sevalprocAttr,vY])<;>rfl
 rintro n fr H ⟨i,hi,rfl,rfl,rfl⟩;by_cases bH:i<ls.length
 ·have bi:decide ((i:Int)<ls.length)=true:=by simpa using bH
  have hg:=Pe ls i bH;have YG:=iu (ls.getD i []) (by simp [bH]);have eA:vY ls (i+1)=atN i (ls.getD i []) (vY ls i) (ls.getD i []).length:=rfl;generalize ls.getD i []=l at*;generalize vY ls i=g0 at*
  repeat' (first|omega|(try apply ag);simp only [go_sem,sevalprocAttr,hg,bi]|apply ae<;>(intro h_;(try simp only [h_]);revert h_)|apply And.intro|with_reducible intro h_|trivial|simp only [go_sem,ah];omega)
  refine aR.intro (fun n fr H=> ∃k:Nat,k<=l.length/\n=l.length-k/\fr=[(23,I k),(22,I l.length),(21,roI l),(4,I i),(16,I i),(15,I ls.length),(14,kO ls),(3, .mp 1),(1, .ptr 0 0)]/\H=[(1, .fmap 153 (.pairs (atN i l g0 k))),(0, .cells 24 (.lst [roI s,roI m,I L]))]) ?_ ?_
  ·refine ⟨_,_,_,Wk.sub ?_ ?_,0,by omega,rfl,rfl,rfl⟩
   ·simp only [go_sem,sevalprocAttr]
   ·(simp only [go_sem,sevalprocAttr,atN])<;>rfl
  rintro n fr H ⟨k,hk,rfl,rfl,rfl⟩;by_cases bM:k<l.length
  ·have bk:decide ((k:Int)<l.length)=true:=by simpa using bM
   have hx:=YG.2 (l.getD k 0) (by simp [bM]);have e1:(l.getD k 0).tdiv 4=l.getD k 0/4:=sG hx.1;have e2:(l.getD k 0).tmod 2=l.getD k 0 % 2:=zU hx.1;have eN:atN i l g0 (k+1)=FD i (l.getD k 0) (atN i l g0 k):=rfl;obtain ⟨h,hh⟩: ∃h,l.getD k 0=h:=⟨_,rfl⟩;rw [hh] at hx e1 e2 eN;generalize atN i l g0 k=g at*;by_cases hp:h % 2=0
   ·have e3:FD i h g=updP g (h/4) i ((g (h/4)).getD (0,0)).2:=if_pos hp
    repeat' (first|omega|(try apply ag);simp only [go_sem,sevalprocAttr,bk,hh,e1,e2,hp]|apply ae<;>(intro h_;(try simp only [h_]);revert h_)|apply And.intro|with_reducible intro h_|trivial|simp only [go_sem,ah];omega)
    refine ⟨_,_,_,?_,Wk.sub ?_ ?_,k+1,by omega,rfl,rfl,rfl⟩
    ·omega
    ·simp only [go_sem,sevalprocAttr]
    ·(simp only [go_sem,sevalprocAttr,eN,e3])<;>rfl
   ·have sY:h % 2=1:=by omega
    have e3:FD i h g=updP g (h/4) ((g (h/4)).getD (0,0)).1 i:=if_neg hp
    repeat' (first|omega|(try apply ag);simp only [go_sem,sevalprocAttr,bk,hh,e1,e2,sY]|apply ae<;>(intro h_;(try simp only [h_]);revert h_)|apply And.intro|with_reducible intro h_|trivial|simp only [go_sem,ah];omega)
    refine ⟨_,_,_,?_,Wk.sub ?_ ?_,k+1,by omega,rfl,rfl,rfl⟩
    ·omega
    ·simp only [go_sem,sevalprocAttr]
    ·(simp only [go_sem,sevalprocAttr,eN,e3])<;>rfl
  ·obtain rfl:k=l.length:=by omega
   have bk:decide (((l.length:Nat):Int)<l.length)=false:=by simp
   repeat' (first|omega|(try apply ag);simp only [go_sem,sevalprocAttr,bk]|apply ae<;>(intro h_;(try simp only [h_]);revert h_)|apply And.intro|with_reducible intro h_|trivial|simp only [go_sem,ah];omega)
   refine ⟨_,_,_,?_,Wk.sub ?_ ?_,i+1,by omega,rfl,rfl,rfl⟩
   ·omega
   ·simp only [go_sem,sevalprocAttr]
   ·(simp only [go_sem,sevalprocAttr,eA])<;>rfl
 ·obtain rfl:i=ls.length:=by omega
  have bi:decide (((ls.length:Nat):Int)<ls.length)=false:=by simp
  repeat' (first|omega|(try apply ag);simp only [go_sem,sevalprocAttr,bi]|apply ae<;>(intro h_;(try simp only [h_]);revert h_)|apply And.intro|with_reducible intro h_|trivial|simp only [go_sem,ah];omega)
abbrev KI (s m:List Int) (L:Int) (g:Int->Option (Int×Int)) (f:AV) (t:Int):Hp:=[(5, .cells 3 (.lst [I t])),(4, .cells 153 (.lst [.mp 3])),(3, .fmap 153 (.pairs g)),(1, .cells 116 (.lst [f])),(0, .cells 24 (.lst [roI s,roI m,I L]))]
end Go.Proofs.YtmdjdekgakidhaaGreatDoor
