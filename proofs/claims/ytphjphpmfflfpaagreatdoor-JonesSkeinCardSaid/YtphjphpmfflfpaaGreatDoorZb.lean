/- Layer 1: valid diagrams. -/
import Derived.Test.YtphjphpmfflfpaaGreatDoorZa
import Derived.Test.YtphjphpmfflfpaaGreatDoorPl
set_option linter.unusedSimpArgs false
set_option linter.unusedVariables false
namespace Go.Proofs.YtphjphpmfflfpaaGreatDoor
open Go Go.RowKit
set_option maxRecDepth 100000
set_option maxHeartbeats 4000000
def Rr:Tr:= .node [(0, .node [(1, .node [(2, .node [(3, .node [(4, .node [(5, .node [(6, .done)])])]),(4, .node [(3, .node [(5, .node [(6, .done)])])])]),(3, .node [(2, .node [(4, .node [(5, .node [(6, .done)])])]),(4, .node [(2, .node [(5, .node [(6, .done)])])])]),(4, .node [(2, .node [(3, .node [(5, .node [(6, .done)])])]),(3, .node [(2, .node [(5, .node [(6, .done)])])])])]),(3, .node [(1, .node [(2, .node [(4, .node [(5, .node [(6, .done)])])]),(4, .node [(2, .node [(5, .node [(6, .done)])])])]),(4, .node [(1, .node [(2, .node [(5, .node [(6, .done)])])])])]),(4, .node [(1, .node [(2, .node [(3, .node [(5, .node [(6, .done)])])]),(3, .node [(2, .node [(5, .node [(6, .done)])])])]),(3, .node [(1, .node [(2, .node [(5, .node [(6, .done)])])])])])]),(1, .node [(0, .node [(2, .node [(3, .node [(4, .node [(5, .node [(6, .done)])])]),(4, .node [(3, .node [(5, .node [(6, .done)])])])]),(3, .node [(2, .node [(4, .node [(5, .node [(6, .done)])])]),(4, .node [(2, .node [(5, .node [(6, .done)])])])]),(4, .node [(2, .node [(3, .node [(5, .node [(6, .done)])])]),(3, .node [(2, .node [(5, .node [(6, .done)])])])])]),(3, .node [(0, .node [(2, .node [(4, .node [(5, .node [(6, .done)])])]),(4, .node [(2, .node [(5, .node [(6, .done)])])])]),(4, .node [(0, .node [(2, .node [(5, .node [(6, .done)])])])])]),(4, .node [(0, .node [(2, .node [(3, .node [(5, .node [(6, .done)])])]),(3, .node [(2, .node [(5, .node [(6, .done)])])])]),(3, .node [(0, .node [(2, .node [(5, .node [(6, .done)])])])])])]),(3, .node [(0, .node [(1, .node [(2, .node [(4, .node [(5, .node [(6, .done)])])]),(4, .node [(2, .node [(5, .node [(6, .done)])])])]),(4, .node [(1, .node [(2, .node [(5, .node [(6, .done)])])])])]),(1, .node [(0, .node [(2, .node [(4, .node [(5, .node [(6, .done)])])]),(4, .node [(2, .node [(5, .node [(6, .done)])])])]),(4, .node [(0, .node [(2, .node [(5, .node [(6, .done)])])])])]),(4, .node [(0, .node [(1, .node [(2, .node [(5, .node [(6, .done)])])])]),(1, .node [(0, .node [(2, .node [(5, .node [(6, .done)])])])])])]),(4, .node [(0, .node [(1, .node [(2, .node [(3, .node [(5, .node [(6, .done)])])]),(3, .node [(2, .node [(5, .node [(6, .done)])])])]),(3, .node [(1, .node [(2, .node [(5, .node [(6, .done)])])])])]),(1, .node [(0, .node [(2, .node [(3, .node [(5, .node [(6, .done)])])]),(3, .node [(2, .node [(5, .node [(6, .done)])])])]),(3, .node [(0, .node [(2, .node [(5, .node [(6, .done)])])])])]),(3, .node [(0, .node [(1, .node [(2, .node [(5, .node [(6, .done)])])])]),(1, .node [(0, .node [(2, .node [(5, .node [(6, .done)])])])])])])]
theorem tP (s m:List Int) (L:Int):Fn Tryz.prog 58 [dgA s m L] (.bool (dm s m L)):=by
 refine Fn.intro [.tmp 2] Tryz.func58 rfl rfl (by decide) (by simp [Tryz.ntmps58]) ?_;rw [Tryz.ntmps58]
 repeat' (first|omega|(try apply aj);simp only [go_sem,sevalprocAttr]|apply ag<;>(intro h_;(try simp only [h_]);revert h_)|apply ah|apply ai|apply ae|apply And.intro|with_reducible intro h_|trivial|simp only [go_sem,ak];omega)
 ·exact ta (by omega)
 rotate_left
 ·exact ta (by omega)
 ·exact ta (by omega)
 ·exact ta (by omega)
 refine bN.intro (fun n fr H=> ∃k:Nat,k<=s.length/\n=s.length-k/\qX s k/\fr=[(34,I k),(33,I s.length),(32,roI s),(3,I s.length),(1, .ptr 0 0)]/\H=[(0, .cells 24 (.lst [roI s,roI m,I L]))]) ?_ ?_
 ·refine ⟨_,_,_,?_,0,by omega,rfl,(fun i hi=>by omega),rfl,rfl⟩;refine Wk.sub ?_ ?_<;>simp only [go_sem,sevalprocAttr]
 rintro n fr H ⟨k,hk,rfl,iR,rfl,rfl⟩
 repeat' (first|omega|(try apply aj);simp only [go_sem,sevalprocAttr]|apply ag<;>(intro h_;(try simp only [h_]);revert h_)|apply ah|apply ai|apply ae|apply And.intro|with_reducible intro h_|trivial|simp only [go_sem,ak];omega)
 ·exact ta fun hv=>by have:=hv.2.2.2.2.1 k (by omega);omega
 ·refine ⟨_,_,_,?_,?_,⟨k+1,by omega,rfl,P2 iR (by omega),rfl,rfl⟩⟩
  ·omega
  ·refine Wk.sub ?_ ?_<;>simp only [go_sem,sevalprocAttr]
 ·refine ⟨_,_,_,?_,?_,⟨k+1,by omega,rfl,P2 iR (by omega),rfl,rfl⟩⟩
  ·omega
  ·refine Wk.sub ?_ ?_<;>simp only [go_sem,sevalprocAttr]
 obtain rfl:k=s.length:=by omega
 refine bN.intro (fun n fr H=> ∃k:Nat,k<=m.length/\n=m.length-k/\tL s m k/\fr=[(48,I k),(47,I m.length),(46,roI m),(3,I s.length),(1, .ptr 0 0)]/\H=[(0, .cells 24 (.lst [roI s,roI m,I L]))]) ?_ ?_
 ·refine ⟨_,_,_,?_,0,by omega,rfl,(fun i hi=>by omega),rfl,rfl⟩;refine Wk.sub ?_ ?_<;>simp only [go_sem,sevalprocAttr]
 rintro n fr H ⟨h,hh,rfl,Fm,rfl,rfl⟩
 repeat' (first|omega|(first|apply aj|(refine an.intro (id:=15) [[76,78,79],[75,78,79],[78,79],[75,76,77,79],[75,76,77,78],[],[]] [[],[0],[],[0,1,2],[0,1,2,3],[],[]] (by decide+kernel) mixed ?_)|(refine an.av (id:=15) (Rr) (by decide+kernel) mixed ?_)|skip);simp only [go_sem,sevalprocAttr,↓reduceIte,reduceCtorEq,Rr]|apply ag<;>(intro h_;(try simp only [h_]);revert h_)|apply ah|apply ai|apply ae|apply And.intro|with_reducible intro h_|trivial|simp only [go_sem,ak];omega)
 ·exact ta fun hv=>by have:=hv.2.2.2.2.2 h (by omega);omega
 ·have h4:m.getD h 0<4*s.length:=by assumption
  refine ⟨cg.fn rfl (Iz s m L h (by omega) (by omega) (by omega)) ?_⟩
  repeat' (first|omega|(try apply aj);simp only [go_sem,sevalprocAttr]|apply ag<;>(intro h_;(try simp only [h_]);revert h_)|apply ah|apply ai|apply ae|apply And.intro|with_reducible intro h_|trivial|simp only [go_sem,ak];omega)
  refine ⟨cg.fn rfl (Iz s m L (m.getD h 0) (by assumption) h4 (by omega)) ?_⟩
  repeat' (first|omega|(try apply aj);simp only [go_sem,sevalprocAttr]|apply ag<;>(intro h_;(try simp only [h_]);revert h_)|apply ah|apply ai|apply ae|apply And.intro|with_reducible intro h_|trivial|simp only [go_sem,ak];omega)
  ·exact ta fun hv=>by have:=hv.2.2.2.2.2 h (by omega);simp_all
  ·refine ⟨_,_,_,?_,?_,⟨h+1,by omega,rfl,TU Fm ⟨by assumption,h4,by assumption,by assumption,by assumption⟩,rfl,rfl⟩⟩
   ·omega
   ·refine Wk.sub ?_ ?_<;>simp only [go_sem,sevalprocAttr]
 ·exact ta fun hv=>by have:=hv.2.2.2.2.2 h (by omega);omega
 ·exact ta fun hv=>by have:=hv.2.2.2.2.2 h (by omega);omega
 ·exact ta fun hv=>by have:=hv.2.2.2.2.2 h (by omega);omega
 ·have hm:m.length=4*s.length:=by omega
  obtain rfl:h=4*s.length:=by omega
  refine ⟨az.fn rfl (T0 s m L (by omega) ⟨hm,fun i hi=>⟨(Fm i hi).1,(Fm i hi).2.1⟩⟩) ?_⟩
  repeat' (first|omega|(try apply aj);simp only [go_sem,sevalprocAttr]|apply ag<;>(intro h_;(try simp only [h_]);revert h_)|apply ah|apply ai|apply ae|apply And.intro|with_reducible intro h_|trivial|simp only [go_sem,ak];omega)
  exact Xw ⟨by omega,hm,by assumption,by assumption,iR,Fm⟩
abbrev dgC (s m:List Int) (L:Int):Cs:= .lst [roI s,roI m,I L]
attribute [go_sem] dgC
theorem TC (h:Int) (h0:0<=h) (h1:h<=100000):Fn Tryz.prog 156 [I h] (I (fZ h 2)):=by
 refine Fn.intro [.tmp 2] Tryz.func156 rfl rfl (by decide) (by simp [Tryz.ntmps156]) ?_;rw [Tryz.ntmps156]
 repeat' (first|omega|(try apply aj);simp only [go_sem,sevalprocAttr]|apply ag<;>(intro h_;(try simp only [h_]);revert h_)|apply ah|apply ai|apply ae|apply And.intro|with_reducible intro h_|trivial|simp only [go_sem,ak];omega)
 refine ⟨az.fn rfl (GW h 2 h0 h1) ?_⟩
 repeat' (first|omega|(try apply aj);simp only [go_sem,sevalprocAttr]|apply ag<;>(intro h_;(try simp only [h_]);revert h_)|apply ah|apply ai|apply ae|apply And.intro|with_reducible intro h_|trivial|simp only [go_sem,ak];omega)
theorem Ua (s m:List Int) (L h:Int) (h0:0<=h) (h1:h<4*s.length) (hs:s.length<=1000):Fn Tryz.prog 153 [I h, .rp (dgC s m L) 0] (.bool (bV s h)):=by
 refine Fn.intro [.tmp 3] Tryz.func153 rfl rfl (by decide) (by simp [Tryz.ntmps153]) ?_;rw [Tryz.ntmps153]
 repeat' (first|omega|(try apply aj);simp only [go_sem,sevalprocAttr]|apply ag<;>(intro h_;(try simp only [h_]);revert h_)|apply ah|apply ai|apply ae|apply And.intro|with_reducible intro h_|trivial|simp only [go_sem,ak];omega)
 refine ⟨az.fn rfl (Iz s m L h h0 h1 hs) ?_⟩
 repeat' (first|omega|(try apply aj);simp only [go_sem,sevalprocAttr]|apply ag<;>(intro h_;(try simp only [h_]);revert h_)|apply ah|apply ai|apply ae|apply And.intro|with_reducible intro h_|trivial|simp only [go_sem,ak];omega)
theorem Ue (s m:List Int) (L h:Int) (h0:0<=h) (h1:h<m.length) (g0:0<=m.getD h.toNat 0) (g1:m.getD h.toNat 0<=100000):Fn Tryz.prog 155 [I h, .rp (dgC s m L) 0] (I (fZ (m.getD h.toNat 0) 2)):=by
 refine Fn.intro [.tmp 3] Tryz.func155 rfl rfl (by decide) (by simp [Tryz.ntmps155]) ?_;rw [Tryz.ntmps155]
 repeat' (first|omega|(try apply aj);simp only [go_sem,sevalprocAttr]|apply ag<;>(intro h_;(try simp only [h_]);revert h_)|apply ah|apply ai|apply ae|apply And.intro|with_reducible intro h_|trivial|simp only [go_sem,ak];omega)
 refine ⟨az.fn rfl (TC _ g0 g1) ?_⟩
 repeat' (first|omega|(try apply aj);simp only [go_sem,sevalprocAttr]|apply ag<;>(intro h_;(try simp only [h_]);revert h_)|apply ah|apply ai|apply ae|apply And.intro|with_reducible intro h_|trivial|simp only [go_sem,ak];omega)
theorem Wd (g:Nat) (c:Cs) (nx:Int->Int) (x:Int) (k:Nat) (hk:qR nx x k) (hb:k<=100000) (hf: ∀j,j<k->Fn Tryz.prog g [I (it nx j x), .rp c 0] (I (it nx (j+1) x))):
  Fn Tryz.prog 178 [I x, .fn g [.rp c 0]] (roI (its nx x k)):=by
 have k0:=hk.pos;refine Fn.intro [.tmp 4] Tryz.func178 rfl rfl (by decide) (by simp [Tryz.ntmps178]) ?_;rw [Tryz.ntmps178]
 repeat' (first|omega|(try apply aj);simp only [go_sem,sevalprocAttr]|apply ag<;>(intro h_;(try simp only [h_]);revert h_)|apply ah|apply ai|apply ae|apply And.intro|with_reducible intro h_|trivial|simp only [go_sem,ak];omega)
 refine ⟨az.fn rfl (hf 0 k0) ?_⟩
 repeat' (first|omega|(try apply aj);simp only [go_sem,sevalprocAttr]|apply ag<;>(intro h_;(try simp only [h_]);revert h_)|apply ah|apply ai|apply ae|apply And.intro|with_reducible intro h_|trivial|simp only [go_sem,ak];omega)
 refine bN.intro (fun n fr H=> ∃j:Nat,0<j/\j<=k/\n=k-j/\fr=[(6,I (it nx j x)),(5, .sl 1 0 0 j),(1, .fn g [.rp c 0]),(0,I x)]/\H=[(0, .cells 3 (.ints (its nx x j)))]) ?_ ?_
 ·refine ⟨_,_,_,?_,1,by omega,by omega,rfl,rfl,rfl⟩;refine Wk.sub ?_ ?_<;>simp only [go_sem,sevalprocAttr];rfl
 rintro n fr H ⟨j,hj,oa,rfl,rfl,rfl⟩;have e1:=GZ nx x j;have e2:=GZ nx x k;by_cases bY:j<k
 ·have aw:=hk.first j hj bY
  repeat' (first|omega|(try apply aj);simp only [go_sem,sevalprocAttr]|apply ag<;>(intro h_;(try simp only [h_]);revert h_)|apply ah|apply ai|apply ae|apply And.intro|with_reducible intro h_|trivial|simp only [go_sem,ak];omega)
  refine ⟨az.fn rfl (hf j bY) ?_⟩
  repeat' (first|omega|(try apply aj);simp only [go_sem,sevalprocAttr]|apply ag<;>(intro h_;(try simp only [h_]);revert h_)|apply ah|apply ai|apply ae|apply And.intro|with_reducible intro h_|trivial|simp only [go_sem,ak];omega)
  refine ⟨_,_,_,?_,?_,⟨j+1,by omega,by omega,rfl,rfl,rfl⟩⟩
  ·omega
  ·refine Wk.sub ?_ ?_<;>simp only [go_sem,sevalprocAttr];exact (OB nx x j).symm
 ·obtain rfl:j=k:=by omega
  have aw:=hk.back
  repeat' (first|omega|(try apply aj);simp only [go_sem,sevalprocAttr]|apply ag<;>(intro h_;(try simp only [h_]);revert h_)|apply ah|apply ai|apply ae|apply And.intro|with_reducible intro h_|trivial|simp only [go_sem,ak];omega)
  exact List.take_of_length_le (by omega)
theorem Xr (N:Nat) (w g:Nat) (c:Cs) (want:Int->Bool) (bM:Int->List Int) (hN:N<=10000) (hw: ∀h:Nat,h<N->Fn Tryz.prog w [I h, .rp c 0] (.bool (want h)))
  (ho: ∀h:Nat,h<N->want h=true->(bM h).length<=N/\(∀x∈bM h,0<=x/\x<N)/\Fn Tryz.prog 178 [I h, .fn g [.rp c 0]] (roI (bM h))):
  Fn Tryz.prog 154 [I N, .fn w [.rp c 0], .fn g [.rp c 0]] (uc (bh N want bM N).1):=by
 refine Fn.au [.tmp 6] Tryz.func154 rfl rfl (by decide) (by simp [Tryz.ntmps154]) ?_;rw [Tryz.ntmps154]
 repeat' (first|omega|(try apply aj);simp only [go_sem,sevalprocAttr]|apply ag<;>(intro h_;(try simp only [h_]);revert h_)|apply ah|apply ai|apply ae|apply And.intro|with_reducible intro h_|trivial|simp only [go_sem,ak];omega)
 refine bN.intro (fun n fr H=> ∃h:Nat,h<=N/\n=N-h/\(((bh N want bM h).1=[]/\fr=[(16,I h),(15,I N),(8, .sl 1 0 0 N),(7, .nils),(1, .fn w [.rp c 0]),(2, .fn g [.rp c 0])]/\H=[(0, .cells 4 (.bools (bh N want bM h).2))])\/
  (fr=[(16,I h),(15,I N),(8, .sl 1 0 0 N),(7, .sl 1 2 0 (bh N want bM h).1.length),(1, .fn w [.rp c 0]),(2, .fn g [.rp c 0])]/\H=[(2, .cells 22 (.lst ((bh N want bM h).1.map oN))),(0, .cells 4 (.bools (bh N want bM h).2))]))) ?_ ?_
 ·refine ⟨_,_,_,?_,0,by omega,rfl, .inl ⟨rfl,rfl,rfl⟩⟩;refine Wk.sub ?_ ?_<;>simp only [go_sem,sevalprocAttr];rfl
 rintro n fr H ⟨h,hh,rfl,gO⟩;obtain ⟨e1,e2⟩:=H6 N want bM h;rcases gO with ⟨eK,rfl,rfl⟩|⟨rfl,rfl⟩
 ·by_cases aA:h<N
  ·have Kx:=hw h aA
   repeat' (first|omega|(try apply aj);simp only [go_sem,sevalprocAttr]|apply ag<;>(intro h_;(try simp only [h_]);revert h_)|apply ah|apply ai|apply ae|apply And.intro|with_reducible intro h_|trivial|simp only [go_sem,ak];omega)
   ·refine ⟨az.fn rfl Kx ?_⟩
    repeat' (first|omega|(try apply aj);simp only [go_sem,sevalprocAttr]|apply ag<;>(intro h_;(try simp only [h_]);revert h_)|apply ah|apply ai|apply ae|apply And.intro|with_reducible intro h_|trivial|simp only [go_sem,ak];omega)
    ·have hwt:want h=false:=by assumption
     have eS:bh N want bM (h+1)=bh N want bM h:=by simp only [bh,lR];rw [if_pos (by rw [hwt];simp)]
     refine ⟨_,_,_,?_,?_,⟨h+1,by omega,rfl, .inl ⟨by rw [eS];exact eK,rfl,rfl⟩⟩⟩
     ·omega
     ·refine Wk.sub ?_ ?_<;>(simp only [go_sem,sevalprocAttr];try rw [eS];try simp only [yfd,and_self])
    ·have hwt:want h=true:=by assumption
     have B3:(bh N want bM h).2.getD h false=false:=by assumption
     have eS:bh N want bM (h+1)=((bh N want bM h).1++[bM h],jb (bh N want bM h).2 (bM h)):=by simp only [bh,lR];rw [if_neg (by rw [hwt,B3];simp)]
     obtain ⟨o1,o2,o3⟩:=ho h aA hwt;refine ⟨az.fn rfl o3 ?_⟩
     repeat' (first|omega|(try apply aj);simp only [go_sem,sevalprocAttr]|apply ag<;>(intro h_;(try simp only [h_]);revert h_)|apply ah|apply ai|apply ae|apply And.intro|with_reducible intro h_|trivial|simp only [go_sem,ak];omega)
     generalize (bh N want bM h).2=gF at*
     refine bN.intro (fun n fr H=> ∃k:Nat,k<=(bM h).length/\n=(bM h).length-k/\fr=[(34,I k),(33,I (bM h).length),(32,roI (bM h)),(10,roI (bM h)),(16,I h),(15,I N),(8, .sl 1 0 0 N),(7, .nils),(1, .fn w [.rp c 0]),(2, .fn g [.rp c 0])]/\
      H=[(0, .cells 4 (.bools (jb gF ((bM h).take k))))]) ?_ ?_
     ·refine ⟨_,_,_,?_,0,by omega,rfl,rfl,rfl⟩;refine Wk.sub ?_ ?_<;>simp only [go_sem,sevalprocAttr]
      all_goals simp [jb]
     rintro n fr H ⟨k,hk,rfl,rfl,rfl⟩;have ml:=Ih ((bM h).take k) gF;by_cases bJ:k<(bM h).length
     ·have hr:=o2 ((bM h).getD k 0) (by simp [bJ])
      repeat' (first|omega|(try apply aj);simp only [go_sem,sevalprocAttr]|apply ag<;>(intro h_;(try simp only [h_]);revert h_)|apply ah|apply ai|apply ae|apply And.intro|with_reducible intro h_|trivial|simp only [go_sem,ak];omega)
      refine ⟨_,_,_,?_,?_,⟨k+1,by omega,rfl,rfl,rfl⟩⟩
      ·omega
      ·refine Wk.sub ?_ ?_<;>simp only [go_sem,sevalprocAttr];rw [List.take_succ_eq_append_getElem bJ,IE];simp [jb,bJ]
     ·obtain rfl:k=(bM h).length:=by omega
      rw [List.take_of_length_le (Nat.le_refl _)]
      repeat' (first|omega|(try apply aj);simp only [go_sem,sevalprocAttr]|apply ag<;>(intro h_;(try simp only [h_]);revert h_)|apply ah|apply ai|apply ae|apply And.intro|with_reducible intro h_|trivial|simp only [go_sem,ak];omega)
      refine ⟨_,_,_,?_,?_,⟨h+1,by omega,rfl, .inr ⟨rfl,rfl⟩⟩⟩
      ·omega
      ·refine Wk.sub ?_ ?_<;>(simp only [go_sem,sevalprocAttr];rw [eS];simp only [go_sem,sevalprocAttr])
       all_goals simp_all [oN]
   ·have bo:(bh N want bM h).2.getD h false=true:=by assumption
    have eS:bh N want bM (h+1)=bh N want bM h:=by simp only [bh,lR];rw [if_pos (by rw [bo];simp)]
    refine ⟨_,_,_,?_,?_,⟨h+1,by omega,rfl, .inl ⟨by rw [eS];exact eK,rfl,rfl⟩⟩⟩
    ·omega
    ·refine Wk.sub ?_ ?_<;>(simp only [go_sem,sevalprocAttr];try rw [eS];try simp only [yfd,and_self])
  ·obtain rfl:h=N:=by omega
   repeat' (first|omega|(try apply aj);simp only [go_sem,sevalprocAttr]|apply ag<;>(intro h_;(try simp only [h_]);revert h_)|apply ah|apply ai|apply ae|apply And.intro|with_reducible intro h_|trivial|simp only [go_sem,ak];omega)
   all_goals first|(rw [eK];exact aM.nils (by omega) rfl)|(exact Pv _ _ _ _ ‹_›)|exact aM.of (by rw [List.take_of_length_le (by simp)])
 ·by_cases aA:h<N
  ·have Kx:=hw h aA
   repeat' (first|omega|(try apply aj);simp only [go_sem,sevalprocAttr]|apply ag<;>(intro h_;(try simp only [h_]);revert h_)|apply ah|apply ai|apply ae|apply And.intro|with_reducible intro h_|trivial|simp only [go_sem,ak];omega)
   ·refine ⟨az.fn rfl Kx ?_⟩
    repeat' (first|omega|(try apply aj);simp only [go_sem,sevalprocAttr]|apply ag<;>(intro h_;(try simp only [h_]);revert h_)|apply ah|apply ai|apply ae|apply And.intro|with_reducible intro h_|trivial|simp only [go_sem,ak];omega)
    ·have hwt:want h=false:=by assumption
     have eS:bh N want bM (h+1)=bh N want bM h:=by simp only [bh,lR];rw [if_pos (by rw [hwt];simp)]
     refine ⟨_,_,_,?_,?_,⟨h+1,by omega,rfl, .inr ⟨rfl,rfl⟩⟩⟩
     ·omega
     ·refine Wk.sub ?_ ?_<;>(simp only [go_sem,sevalprocAttr];try rw [eS];try simp only [yfd,and_self])
    ·have hwt:want h=true:=by assumption
     have B3:(bh N want bM h).2.getD h false=false:=by assumption
     have eS:bh N want bM (h+1)=((bh N want bM h).1++[bM h],jb (bh N want bM h).2 (bM h)):=by simp only [bh,lR];rw [if_neg (by rw [hwt,B3];simp)]
     obtain ⟨o1,o2,o3⟩:=ho h aA hwt;refine ⟨az.fn rfl o3 ?_⟩
     repeat' (first|omega|(try apply aj);simp only [go_sem,sevalprocAttr]|apply ag<;>(intro h_;(try simp only [h_]);revert h_)|apply ah|apply ai|apply ae|apply And.intro|with_reducible intro h_|trivial|simp only [go_sem,ak];omega)
     generalize (bh N want bM h).2=gF at*
     refine bN.intro (fun n fr H=> ∃k:Nat,k<=(bM h).length/\n=(bM h).length-k/\fr=[(34,I k),(33,I (bM h).length),(32,roI (bM h)),(10,roI (bM h)),(16,I h),(15,I N),(8, .sl 1 0 0 N),(7, .sl 1 2 0 (bh N want bM h).1.length),(1, .fn w [.rp c 0]),(2, .fn g [.rp c 0])]/\
      H=[(2, .cells 22 (.lst ((bh N want bM h).1.map oN))),(0, .cells 4 (.bools (jb gF ((bM h).take k))))]) ?_ ?_
     ·refine ⟨_,_,_,?_,0,by omega,rfl,rfl,rfl⟩;refine Wk.sub ?_ ?_<;>simp only [go_sem,sevalprocAttr]
      all_goals simp [jb]
     rintro n fr H ⟨k,hk,rfl,rfl,rfl⟩;have ml:=Ih ((bM h).take k) gF;by_cases bJ:k<(bM h).length
     ·have hr:=o2 ((bM h).getD k 0) (by simp [bJ])
      repeat' (first|omega|(try apply aj);simp only [go_sem,sevalprocAttr]|apply ag<;>(intro h_;(try simp only [h_]);revert h_)|apply ah|apply ai|apply ae|apply And.intro|with_reducible intro h_|trivial|simp only [go_sem,ak];omega)
      refine ⟨_,_,_,?_,?_,⟨k+1,by omega,rfl,rfl,rfl⟩⟩
      ·omega
      ·refine Wk.sub ?_ ?_<;>simp only [go_sem,sevalprocAttr];rw [List.take_succ_eq_append_getElem bJ,IE];simp [jb,bJ]
     ·obtain rfl:k=(bM h).length:=by omega
      rw [List.take_of_length_le (Nat.le_refl _)]
      repeat' (first|omega|(try apply aj);simp only [go_sem,sevalprocAttr]|apply ag<;>(intro h_;(try simp only [h_]);revert h_)|apply ah|apply ai|apply ae|apply And.intro|with_reducible intro h_|trivial|simp only [go_sem,ak];omega)
      refine ⟨_,_,_,?_,?_,⟨h+1,by omega,rfl, .inr ⟨rfl,rfl⟩⟩⟩
      ·omega
      ·refine Wk.sub ?_ ?_<;>(simp only [go_sem,sevalprocAttr];rw [eS];simp only [go_sem,sevalprocAttr])
       all_goals simp_all [oN]
   ·have bo:(bh N want bM h).2.getD h false=true:=by assumption
    have eS:bh N want bM (h+1)=bh N want bM h:=by simp only [bh,lR];rw [if_pos (by rw [bo];simp)]
    refine ⟨_,_,_,?_,?_,⟨h+1,by omega,rfl, .inr ⟨rfl,rfl⟩⟩⟩
    ·omega
    ·refine Wk.sub ?_ ?_<;>(simp only [go_sem,sevalprocAttr];try rw [eS];try simp only [yfd,and_self])
  ·obtain rfl:h=N:=by omega
   repeat' (first|omega|(try apply aj);simp only [go_sem,sevalprocAttr]|apply ag<;>(intro h_;(try simp only [h_]);revert h_)|apply ah|apply ai|apply ae|apply And.intro|with_reducible intro h_|trivial|simp only [go_sem,ak];omega)
   all_goals first|(rw [eK];exact aM.nils (by omega) rfl)|(exact Pv _ _ _ _ ‹_›)|exact aM.of (by rw [List.take_of_length_le (by simp)])
def Rq:Tr:= .node [(0, .node [(1, .node [(2, .node [(3, .node [(4, .node [(5, .node [(6, .done)])])])]),(3, .node [(2, .node [(4, .node [(5, .node [(6, .done)])])]),(4, .node [(2, .node [(5, .node [(6, .done)])])])])]),(3, .node [(1, .node [(2, .node [(4, .node [(5, .node [(6, .done)])])]),(4, .node [(2, .node [(5, .node [(6, .done)])])])]),(4, .node [(1, .node [(2, .node [(5, .node [(6, .done)])])])])])]),(3, .node [(0, .node [(1, .node [(2, .node [(4, .node [(5, .node [(6, .done)])])]),(4, .node [(2, .node [(5, .node [(6, .done)])])])]),(4, .node [(1, .node [(2, .node [(5, .node [(6, .done)])])])])]),(4, .node [(0, .node [(1, .node [(2, .node [(5, .node [(6, .done)])])])])])])]
def AF (s m:List Int) (L:Int):List (List Int):=if dm s m L then j8 s m else []
theorem US (s m:List Int) (L:Int) (hv:yn s m L) (h:Nat) (hh:h<4*s.length):(cm (wa m) m.length h).length<=m.length/\(∀x∈cm (wa m) m.length h,0<=x/\x<m.length)/\
  Fn Tryz.prog 178 [I h, .fn 155 [.rp (dgC s m L) 0]] (roI (cm (wa m) m.length h)):=by
 have hR:ax s.length (h:Int):=by unfold ax;omega
 have hl:=hv.len;have uO:=hv.s64;have rQ:=AO (H3 hv.dd) hR;rw [←hl] at rQ;obtain ⟨_,o2,_,_,_,o6,_,k,hk,pP,e⟩:=rQ;refine ⟨o6,fun x hx=>by have:=o2 x hx;unfold ax at this;omega,?_⟩;rw [e];refine Wd _ _ (wa m) h k pP (by omega) fun j hj=>?_;have hr:=(H3 hv.dd).it hR j;have nZ:=hv.dd.bP hr;unfold ax at hr nZ;exact Ue s m L _ hr.1 (by omega) nZ.1 (by omega)
theorem Px (s m:List Int) (L:Int):Fn Tryz.prog 103 [dgA s m L] (uc (AF s m L)):=by
 refine Fn.au [.tmp 2] Tryz.func103 rfl rfl (by decide) (by simp [Tryz.ntmps103]) ?_;rw [Tryz.ntmps103]
 repeat' (first|omega|(try apply aj);simp only [go_sem,sevalprocAttr]|apply ag<;>(intro h_;(try simp only [h_]);revert h_)|apply ah|apply ai|apply ae|apply And.intro|with_reducible intro h_|trivial|simp only [go_sem,ak];omega)
 refine ⟨az.fn rfl (tP s m L) ?_⟩;cases hv:dm s m L with
 |false=>
  repeat' (first|omega|(try apply aj);simp only [go_sem,sevalprocAttr]|apply ag<;>(intro h_;(try simp only [h_]);revert h_)|apply ah|apply ai|apply ae|apply And.intro|with_reducible intro h_|trivial|simp only [go_sem,ak];omega)
  unfold AF;rw [hv];exact aM.nils (by omega) rfl
 |true=>
  have v1:=jC hv;have uO:=v1.s64;have hl:=v1.len
  repeat' (first|omega|(try apply aj);simp only [go_sem,sevalprocAttr]|apply ag<;>(intro h_;(try simp only [h_]);revert h_)|apply ah|apply ai|apply ae|apply And.intro|with_reducible intro h_|trivial|simp only [go_sem,ak];omega)
  refine ⟨az.kB [0] rfl (by simp only [go_sem,sevalprocAttr]) (by simp only [go_sem,sevalprocAttr]) (by simp only [go_sem,sevalprocAttr]) (by simp only [go_sem,sevalprocAttr]) rfl rfl rfl (az.fn rfl (Xr m.length _ _ (dgC s m L) (bV s) (cm (wa m) m.length) (by omega) (fun h hh=>Ua s m L h (by omega) (by omega) (by omega)) (fun h hh _=>US s m L v1 h (by omega))) ?_)⟩
  repeat' (first|omega|(try apply aj);simp only [go_sem,sevalprocAttr]|apply ag<;>(intro h_;(try simp only [h_]);revert h_)|apply ah|apply ai|apply ae|apply And.intro|with_reducible intro h_|trivial|simp only [go_sem,ak];omega)
  unfold AF j8;rw [hv];exact aM.refl _
theorem T9 (s m:List Int) (L:Int):Fn Tryz.prog 42 [dgA s m L] (I (if dm s m L then (j8 s m).length+L else 0)):=by
 refine Fn.intro [.tmp 2] Tryz.func42 rfl rfl (by decide) (by simp [Tryz.ntmps42]) ?_;rw [Tryz.ntmps42]
 repeat' (first|omega|(try apply aj);simp only [go_sem,sevalprocAttr]|apply ag<;>(intro h_;(try simp only [h_]);revert h_)|apply ah|apply ai|apply ae|apply And.intro|with_reducible intro h_|trivial|simp only [go_sem,ak];omega)
 refine ⟨az.fn rfl (tP s m L) ?_⟩;have hS:=Px s m L;unfold AF at hS;have dq:=ID s m;cases hv:dm s m L with
 |false=>
  repeat' (first|omega|(try apply aj);simp only [go_sem,sevalprocAttr]|apply ag<;>(intro h_;(try simp only [h_]);revert h_)|apply ah|apply ai|apply ae|apply And.intro|with_reducible intro h_|trivial|simp only [go_sem,ak];omega)
 |true=>
  rw [hv,if_pos rfl] at hS;have v1:=jC hv;have uO:=v1.s64;have hl:=v1.len;have h0:=v1.l0;have h1:=v1.y7
  repeat' (first|omega|(first|apply aj|(refine an.intro (id:=3) [[9,10],[9,10],[9,10],[6,7,8],[6,7,8],[],[]] [[],[],[],[0,1,2],[0,1,2],[],[]] (by decide+kernel) mixed ?_)|(refine an.av (id:=3) (Rq) (by decide+kernel) mixed ?_)|skip);simp only [go_sem,sevalprocAttr,↓reduceIte,reduceCtorEq,Rq]|apply ag<;>(intro h_;(try simp only [h_]);revert h_)|apply ah|apply ai|apply ae|apply And.intro|with_reducible intro h_|trivial|simp only [go_sem,ak];omega)
  refine ⟨cg.fn rfl hS ?_⟩
  repeat' (first|omega|(try apply aj);simp only [go_sem,sevalprocAttr]|apply ag<;>(intro h_;(try simp only [h_]);revert h_)|apply ah|apply ai|apply ae|apply And.intro|with_reducible intro h_|trivial|simp only [go_sem,ak];omega)
end Go.Proofs.YtphjphpmfflfpaaGreatDoor
