/- The reference of layer 1: strands. -/
import Derived.Test.YtjpbeacamoijhaaGreatDoorZve
import Derived.Test.YtjpbeacamoijhaaGreatDoorZvf
import Derived.Test.YtjpbeacamoijhaaGreatDoorZz
import Derived.Test.YtjpbeacamoijhaaGreatDoorZvd
import Derived.Test.YtjpbeacamoijhaaGreatDoorZt
import Derived.Test.YtjpbeacamoijhaaGreatDoorZv
set_option linter.unusedSimpArgs false
set_option linter.unusedVariables false
namespace Go.Proofs.YtjpbeacamoijhaaGreatDoor
open Go Go.RowKit
set_option maxRecDepth 100000
set_option maxHeartbeats 8000000
def ij (s m:List Int) (h:Nat):Bool:=ak s h&&me h (af (aK m) m.length h)
theorem YB (s m:List Int) (L:Int) (n:Nat) (jY:s.length=n) (hn:n<=1000) (iX:m.length=4*n) (hm: ∀i,i<m.length->0<=m.getD i 0/\m.getD i 0<4*n):Fn Tryz.prog 62 [dgA s m L] (qi (cY (fun h=>af (aK m) m.length h) (ij s m) m.length)):=by
 refine Fn.aH [.tmp 2] Tryz.func62 rfl rfl (by decide) (by simp [Tryz.ntmps62]) ?_;rw [Tryz.ntmps62]
 repeat' (first|omega|(try apply ah);simp only [go_sem,sevalprocAttr]|apply ag<;>(intro h_;(try simp only [h_]);revert h_)|apply And.intro|with_reducible intro h_|trivial|simp only [go_sem,ai];omega)
 refine dn.intro (fun t fr H=> ∃h:Nat,h<=m.length/\t=m.length-h/\((cY (fun h=>af (aK m) m.length h) (ij s m) h=[]/\fr=[(4,I h),(3, .nils),(1, .ptr 0 0)]/\H=[(0, .cells 24 (.lst [roI s,roI m,I L]))])\/
  (fr=[(4,I h),(3, .sl 1 2 0 (cY (fun h=>af (aK m) m.length h) (ij s m) h).length),(1, .ptr 0 0)]/\H=[(2, .cells 22 (.lst ((cY (fun h=>af (aK m) m.length h) (ij s m) h).map ph))),(0, .cells 24 (.lst [roI s,roI m,I L]))]))) ?_ ?_
 ·refine ⟨_,_,_,?_,0,by omega,rfl, .inl ⟨rfl,rfl,rfl⟩⟩;refine Wk.sub ?_ ?_<;>simp only [go_sem,sevalprocAttr]
 rintro t fr H ⟨h,hh,rfl,nh⟩;have hlen:(cY (fun h=>af (aK m) m.length h) (ij s m) h).length<=h:=by
  have:=List.length_filter_le (ij s m) (List.range h)
  simp only [cY,List.length_map];simp only [List.length_range] at this;exact this
 have yu:(af (aK m) m.length h).length<=m.length+1:=Rt _ _ _;rcases nh with ⟨gZ,rfl,rfl⟩|⟨rfl,rfl⟩
 ·by_cases ay:h<m.length
  ·have bh:decide ((h:Int)<m.length)=true:=by simp;omega
   have hF:=Tj s m L n h hn iX hm ay;have hO:=Ij s h (by omega) (by omega) (by omega)
   repeat' (first|omega|(try apply ah);simp only [go_sem,sevalprocAttr,bh]|apply ag<;>(intro h_;(try simp only [h_]);revert h_)|apply And.intro|with_reducible intro h_|trivial|simp only [go_sem,ai];omega)
   refine ⟨aO.fn rfl hO ?_⟩;cases jl:ak s h with
   |false=>
    have hb:ij s m h=false:=by simp [ij,jl]
    have eS:=CZ (orb:=fun h=>af (aK m) m.length h) hb
    repeat' (first|omega|(try apply ah);simp only [go_sem,sevalprocAttr]|apply ag<;>(intro h_;(try simp only [h_]);revert h_)|apply And.intro|with_reducible intro h_|trivial|simp only [go_sem,ai];omega)
    refine ⟨_,_,_,?_,?_,⟨h+1,by omega,rfl, .inl ⟨by rw [eS];exact gZ,rfl,rfl⟩⟩⟩
    ·omega
    ·first|rw [eS]|skip
     refine Wk.sub ?_ ?_<;>simp only [go_sem,sevalprocAttr]
   |true=>
    repeat' (first|omega|(try apply ah);simp only [go_sem,sevalprocAttr]|apply ag<;>(intro h_;(try simp only [h_]);revert h_)|apply And.intro|with_reducible intro h_|trivial|simp only [go_sem,ai];omega)
    refine ⟨aO.fn rfl hF ?_⟩
    repeat' (first|omega|(try apply ah);simp only [go_sem,sevalprocAttr]|apply ag<;>(intro h_;(try simp only [h_]);revert h_)|apply And.intro|with_reducible intro h_|trivial|simp only [go_sem,ai];omega)
    refine dn.intro (fun t fr H=> ∃i:Nat,i<=(af (aK m) m.length h).length/\t=(af (aK m) m.length h).length-i/\fr=[(7,I i),(6, .bool (me h ((af (aK m) m.length h).take i))),(5,roI (af (aK m) m.length h)),(4,I h),(3, .nils),(1, .ptr 0 0)]/\H=[(0, .cells 24 (.lst [roI s,roI m,I L]))]) ?_ ?_
    ·refine ⟨_,_,_,?_,0,by omega,rfl,rfl,rfl⟩;refine Wk.sub ?_ ?_<;>simp only [go_sem,sevalprocAttr]
     all_goals simp [me]
    rintro t fr H ⟨i,hi,rfl,rfl,rfl⟩;by_cases pb:i<(af (aK m) m.length h).length
    ·have bi:decide ((i:Int)<(af (aK m) m.length h).length)=true:=by simp;omega
     have el:=Jr (x:=h) pb;cases hb:me h ((af (aK m) m.length h).take i) with
     |false=>
      rw [hb] at el
      repeat' (first|omega|(try apply ah);simp only [go_sem,sevalprocAttr,bi]|apply ag<;>(intro h_;(try simp only [h_]);revert h_)|apply And.intro|with_reducible intro h_|trivial|simp only [go_sem,ai];omega)
      refine ⟨_,_,_,?_,?_,⟨i+1,by omega,rfl,rfl,rfl⟩⟩
      ·omega
      ·rw [el];refine Wk.sub ?_ ?_<;>simp only [go_sem,sevalprocAttr]
     |true=>
      rw [hb] at el
      repeat' (first|omega|(try apply ah);simp only [go_sem,sevalprocAttr,bi]|apply ag<;>(intro h_;(try simp only [h_]);revert h_)|apply And.intro|with_reducible intro h_|trivial|simp only [go_sem,ai];omega)
      refine ⟨_,_,_,?_,?_,⟨i+1,by omega,rfl,rfl,rfl⟩⟩
      ·omega
      ·rw [el];refine Wk.sub ?_ ?_<;>simp only [go_sem,sevalprocAttr]
    ·obtain rfl:i=(af (aK m) m.length h).length:=by omega
     have bi:decide (((af (aK m) m.length h).length:Int)<(af (aK m) m.length h).length)=false:=by simp
     have ef:me h ((af (aK m) m.length h).take (af (aK m) m.length h).length)=ij s m h:=by rw [List.take_length];simp [ij,jl]
     rw [ef];cases hb:ij s m h with
     |false=>
      have eS:=CZ (orb:=fun h=>af (aK m) m.length h) hb
      repeat' (first|omega|(try apply ah);simp only [go_sem,sevalprocAttr,bi]|apply ag<;>(intro h_;(try simp only [h_]);revert h_)|apply And.intro|with_reducible intro h_|trivial|simp only [go_sem,ai];omega)
      refine ⟨_,_,_,?_,?_,⟨h+1,by omega,rfl, .inl ⟨by rw [eS];exact gZ,rfl,rfl⟩⟩⟩
      ·omega
      ·first|rw [eS]|skip
       refine Wk.sub ?_ ?_<;>simp only [go_sem,sevalprocAttr]
     |true=>
      have eS:=Ic (orb:=fun h=>af (aK m) m.length h) hb
      repeat' (first|omega|(try apply ah);simp only [go_sem,sevalprocAttr,bi,List.length_map]|apply ag<;>(intro h_;(try simp only [h_]);revert h_)|apply And.intro|with_reducible intro h_|trivial|simp only [go_sem,ai];omega)
      refine ⟨_,_,_,?_,?_,⟨h+1,by omega,rfl, .inr ⟨rfl,rfl⟩⟩⟩
      ·omega
      ·rw [eS];rw [gZ];refine Wk.sub ?_ ?_<;>simp only [go_sem,sevalprocAttr]
       all_goals first
        |rfl
        |exact ⟨rfl,rfl⟩
        |exact ⟨rfl,rfl,rfl⟩
  ·obtain rfl:h=m.length:=by omega
   have bh:decide ((m.length:Int)<m.length)=false:=by simp
   repeat' (first|omega|(try apply ah);simp only [go_sem,sevalprocAttr,bh]|apply ag<;>(intro h_;(try simp only [h_]);revert h_)|apply And.intro|with_reducible intro h_|trivial|simp only [go_sem,ai];omega)
   all_goals first
    |(rw [gZ];exact ca.nils (by omega) rfl)
    |exact ye _ _ _ _ h_
    |exact ye _ _ _ _ (List.mem_of_mem_take h_)
    |(rw [List.take_of_length_le (by simp)];exact ca.refl _)
 ·by_cases ay:h<m.length
  ·have bh:decide ((h:Int)<m.length)=true:=by simp;omega
   have hF:=Tj s m L n h hn iX hm ay;have hO:=Ij s h (by omega) (by omega) (by omega)
   repeat' (first|omega|(try apply ah);simp only [go_sem,sevalprocAttr,bh]|apply ag<;>(intro h_;(try simp only [h_]);revert h_)|apply And.intro|with_reducible intro h_|trivial|simp only [go_sem,ai];omega)
   refine ⟨aO.fn rfl hO ?_⟩;cases jl:ak s h with
   |false=>
    have hb:ij s m h=false:=by simp [ij,jl]
    have eS:=CZ (orb:=fun h=>af (aK m) m.length h) hb
    repeat' (first|omega|(try apply ah);simp only [go_sem,sevalprocAttr]|apply ag<;>(intro h_;(try simp only [h_]);revert h_)|apply And.intro|with_reducible intro h_|trivial|simp only [go_sem,ai];omega)
    refine ⟨_,_,_,?_,?_,⟨h+1,by omega,rfl, .inr ⟨rfl,rfl⟩⟩⟩
    ·omega
    ·first|rw [eS]|skip
     refine Wk.sub ?_ ?_<;>simp only [go_sem,sevalprocAttr]
   |true=>
    repeat' (first|omega|(try apply ah);simp only [go_sem,sevalprocAttr]|apply ag<;>(intro h_;(try simp only [h_]);revert h_)|apply And.intro|with_reducible intro h_|trivial|simp only [go_sem,ai];omega)
    refine ⟨aO.fn rfl hF ?_⟩
    repeat' (first|omega|(try apply ah);simp only [go_sem,sevalprocAttr]|apply ag<;>(intro h_;(try simp only [h_]);revert h_)|apply And.intro|with_reducible intro h_|trivial|simp only [go_sem,ai];omega)
    refine dn.intro (fun t fr H=> ∃i:Nat,i<=(af (aK m) m.length h).length/\t=(af (aK m) m.length h).length-i/\fr=[(7,I i),(6, .bool (me h ((af (aK m) m.length h).take i))),(5,roI (af (aK m) m.length h)),(4,I h),(3, .sl 1 2 0 (cY (fun h=>af (aK m) m.length h) (ij s m) h).length),(1, .ptr 0 0)]/\H=[(2, .cells 22 (.lst ((cY (fun h=>af (aK m) m.length h) (ij s m) h).map ph))),(0, .cells 24 (.lst [roI s,roI m,I L]))]) ?_ ?_
    ·refine ⟨_,_,_,?_,0,by omega,rfl,rfl,rfl⟩;refine Wk.sub ?_ ?_<;>simp only [go_sem,sevalprocAttr]
     all_goals simp [me]
    rintro t fr H ⟨i,hi,rfl,rfl,rfl⟩;by_cases pb:i<(af (aK m) m.length h).length
    ·have bi:decide ((i:Int)<(af (aK m) m.length h).length)=true:=by simp;omega
     have el:=Jr (x:=h) pb;cases hb:me h ((af (aK m) m.length h).take i) with
     |false=>
      rw [hb] at el
      repeat' (first|omega|(try apply ah);simp only [go_sem,sevalprocAttr,bi]|apply ag<;>(intro h_;(try simp only [h_]);revert h_)|apply And.intro|with_reducible intro h_|trivial|simp only [go_sem,ai];omega)
      refine ⟨_,_,_,?_,?_,⟨i+1,by omega,rfl,rfl,rfl⟩⟩
      ·omega
      ·rw [el];refine Wk.sub ?_ ?_<;>simp only [go_sem,sevalprocAttr]
     |true=>
      rw [hb] at el
      repeat' (first|omega|(try apply ah);simp only [go_sem,sevalprocAttr,bi]|apply ag<;>(intro h_;(try simp only [h_]);revert h_)|apply And.intro|with_reducible intro h_|trivial|simp only [go_sem,ai];omega)
      refine ⟨_,_,_,?_,?_,⟨i+1,by omega,rfl,rfl,rfl⟩⟩
      ·omega
      ·rw [el];refine Wk.sub ?_ ?_<;>simp only [go_sem,sevalprocAttr]
    ·obtain rfl:i=(af (aK m) m.length h).length:=by omega
     have bi:decide (((af (aK m) m.length h).length:Int)<(af (aK m) m.length h).length)=false:=by simp
     have ef:me h ((af (aK m) m.length h).take (af (aK m) m.length h).length)=ij s m h:=by rw [List.take_length];simp [ij,jl]
     rw [ef];cases hb:ij s m h with
     |false=>
      have eS:=CZ (orb:=fun h=>af (aK m) m.length h) hb
      repeat' (first|omega|(try apply ah);simp only [go_sem,sevalprocAttr,bi]|apply ag<;>(intro h_;(try simp only [h_]);revert h_)|apply And.intro|with_reducible intro h_|trivial|simp only [go_sem,ai];omega)
      refine ⟨_,_,_,?_,?_,⟨h+1,by omega,rfl, .inr ⟨rfl,rfl⟩⟩⟩
      ·omega
      ·first|rw [eS]|skip
       refine Wk.sub ?_ ?_<;>simp only [go_sem,sevalprocAttr]
     |true=>
      have eS:=Ic (orb:=fun h=>af (aK m) m.length h) hb
      repeat' (first|omega|(try apply ah);simp only [go_sem,sevalprocAttr,bi,List.length_map]|apply ag<;>(intro h_;(try simp only [h_]);revert h_)|apply And.intro|with_reducible intro h_|trivial|simp only [go_sem,ai];omega)
      refine ⟨_,_,_,?_,?_,⟨h+1,by omega,rfl, .inr ⟨rfl,rfl⟩⟩⟩
      ·omega
      ·rw [eS];rw [TM];refine Wk.sub ?_ ?_<;>simp only [go_sem,sevalprocAttr]
       all_goals first
        |rfl
        |exact ⟨rfl,rfl⟩
        |exact ⟨rfl,rfl,rfl⟩
  ·obtain rfl:h=m.length:=by omega
   have bh:decide ((m.length:Int)<m.length)=false:=by simp
   repeat' (first|omega|(try apply ah);simp only [go_sem,sevalprocAttr,bh]|apply ag<;>(intro h_;(try simp only [h_]);revert h_)|apply And.intro|with_reducible intro h_|trivial|simp only [go_sem,ai];omega)
   all_goals first
    |(rw [gZ];exact ca.nils (by omega) rfl)
    |exact ye _ _ _ _ h_
    |exact ye _ _ _ _ (List.mem_of_mem_take h_)
    |(rw [List.take_of_length_le (by simp)];exact ca.refl _)
theorem X3 {s:List Int} {h:Int} (h0:0<=h) (hs:s.getD (h/4).toNat 0=1\/s.getD (h/4).toNat 0= -1):ak s (cd h 2)= !ak s h:=by
 have e:cd h 2=h-h % 4+(h % 4+2)% 4:=by
  unfold cd
  have:Int.tmod 2 4=2:=rfl
  rw [this];omega
 have ed:cd h 2/4=h/4:=by rw [e];omega
 have em:cd h 2 % 4=(h % 4+2)% 4:=by rw [e];omega
 unfold ak;rw [ed,em]
 have:h % 4=0\/h % 4=1\/h % 4=2\/h % 4=3:=by omega
 rcases this with g|g|g|g<;>rcases hs with k|k<;>rw [g,k]<;>decide
theorem ZA {s m:List Int} {L:Int} (hv:jP s m L) {x:Nat} (hx:x<4*s.length):ak s (aK m x)=ak s x:=by
 have hm:=hv.mt x hx;have hr:=hm.1;have hl:=hm.2.1
 have:=X3 (s:=s) (h:=m.getD x 0) hr (hv.sg _ (by omega))
 unfold aK;rw [Int.toNat_natCast,this];have ax:=hm.2.2.2.2;cases h1:ak s x<;>cases h2:ak s (m.getD x 0)<;>simp_all
theorem P8 {s m:List Int} {L:Int} (hv:jP s m L) {x:Nat} (hx:x<4*s.length): ∀j,ak s (it (aK m) j x)=ak s x
 |0=>rfl
 |j+1=>by
  have hR:aA s.length (x:Int):=by unfold aA;omega
  have hS:=(Ai hv.dB).it hR j;unfold aA at hS;have e:it (aK m) j (x:Int)=((it (aK m) j (x:Int)).toNat:Int):=by omega
  have h1:=ZA hv (x:=(it (aK m) j (x:Int)).toNat) (by omega);rw [←e] at h1;show ak s (aK m (it (aK m) j x))=_;rw [h1,P8 hv hx j]
theorem Yo {s m:List Int} {L:Int} (hv:jP s m L):cY (fun h=>af (aK m) m.length h) (ij s m) m.length=dt s m:=by
 have hl:=hv.len;have hR: ∀x:Nat,x<m.length->aA s.length (x:Int):=fun x hx=>by unfold aA;omega
 have rz:=fun (x:Nat) (hx:x<m.length)=>by
  have:=Ac (Ai hv.dB) (hR x hx)
  rw [←hl] at this;exact this
 refine (Lq (N:=m.length) (want:=ak s) (orb:=af (aK m) m.length) ?_ ?_ ?_ ?_ m.length (Nat.le_refl _)).1.symm
 ·intro x hx _ y hy
  have:=(rz x hx).2.1 y hy
  unfold aA at this;omega
 ·intro x hx _;exact (rz x hx).2.2.2.2.1
 ·intro x y hx hy hw hm;refine ⟨?_,(rz x hx).2.2.1 y hm⟩;obtain ⟨j,hj⟩:=((rz x hx).1 y).1 hm;rw [←hj,P8 hv (by omega) j];exact hw
 ·intro x y z hx hy hz _ h1 h2;exact (rz x hx).2.2.2.1 y h1 z h2
def UC:Tr:= .node [(0, .node [(1, .node [(2,trD [3,4,5,6]),(3, .node [(2,trD [4,5,6]),(4,trD [2,5,6])])]),(3, .node [(1, .node [(2,trD [4,5,6]),(4,trD [2,5,6])]),(4,trD [1,2,5,6])])]),(3, .node [(0, .node [(1, .node [(2,trD [4,5,6]),(4,trD [2,5,6])]),(4,trD [1,2,5,6])]),(4,trD [0,1,2,5,6])])]
theorem Y1 (s m:List Int) (L:Int) (hv:bI s m L=true):Fn Tryz.prog 17 [dgA s m L] (I ((dt s m).length+L)):=by
 have v1:=dr hv;have yC:=v1.s64;have hl:=v1.len;have h0:=v1.l0;have h1:=v1.l64;have hS:=YB s m L s.length rfl (by omega) hl (fun i hi=>v1.dB.ok.2 i (by omega));rw [Yo v1] at hS;have jY:=EO s m;refine Fn.intro [.tmp 2] Tryz.func17 rfl rfl (by decide) (by simp [Tryz.ntmps17]) ?_;rw [Tryz.ntmps17]
 repeat' (first|omega|(first|apply ah|(refine bd.intro (id:=1) [[6,7],[6,7],[6,7],[3,4,5],[3,4,5],[],[]] [[],[],[],[0,1,2],[0,1,2],[],[]] (by decide+kernel) mixed ?_)|(refine bd.bY (id:=1) (UC) (by decide+kernel) mixed ?_)|skip);simp only [go_sem,sevalprocAttr,↓reduceIte,reduceCtorEq,UC]|apply ag<;>(intro h_;(try simp only [h_]);revert h_)|apply And.intro|with_reducible intro h_|trivial|simp only [go_sem,ai];omega)
 refine ⟨c8.fn rfl hS ?_⟩
 repeat' (first|omega|(try apply ah);simp only [go_sem,sevalprocAttr]|apply ag<;>(intro h_;(try simp only [h_]);revert h_)|apply And.intro|with_reducible intro h_|trivial|simp only [go_sem,ai];omega)
def UB:List (List Nat):=[[],[],[],[],[],[],[],[],[],[],[],[],[],[],[],[],[],[],[],[],[],[],[],[97,98],[96],[96],[],[],[],[103,104],[102],[102],[],[],[],[109],[108],[],[],[]]
def UA:List (List Nat):=[[],[],[],[],[],[],[],[],[],[],[],[],[],[],[],[],[],[],[],[],[],[],[],[],[23],[23],[],[],[],[],[29],[29],[],[],[],[],[35],[],[],[]]
def Uz:Tr:=trP [0,1,2,3,4,5,6,7,8,9,10,11,12,13,14,15,16,17,18,19,20,21,22] (.node [(23,trP [24,25,26,27,28] (.node [(29,trP [30,31,32,33,34] (.node [(35,trD [36,37,38,39]),(36,trD [35,37,38,39])])),(30, .node [(29,trP [31,32,33,34] (.node [(35,trD [36,37,38,39]),(36,trD [35,37,38,39])])),(31,trP [29,32,33,34] (.node [(35,trD [36,37,38,39]),(36,trD [35,37,38,39])]))])])),(24, .node [(23,trP [25,26,27,28] (.node [(29,trP [30,31,32,33,34] (.node [(35,trD [36,37,38,39]),(36,trD [35,37,38,39])])),(30, .node [(29,trP [31,32,33,34] (.node [(35,trD [36,37,38,39]),(36,trD [35,37,38,39])])),(31,trP [29,32,33,34] (.node [(35,trD [36,37,38,39]),(36,trD [35,37,38,39])]))])])),(25,trP [23,26,27,28] (.node [(29,trP [30,31,32,33,34] (.node [(35,trD [36,37,38,39]),(36,trD [35,37,38,39])])),(30, .node [(29,trP [31,32,33,34] (.node [(35,trD [36,37,38,39]),(36,trD [35,37,38,39])])),(31,trP [29,32,33,34] (.node [(35,trD [36,37,38,39]),(36,trD [35,37,38,39])]))])]))])])
theorem ymw (s m:List Int) (L:Int):Fn Tryz.prog 4 [dgA s m L] (.bool true):=by
 have hA:=X8;have hG:=y40 s m L;cases hg:Fh s m L with
 |true=>
  rw [hg] at hG;refine Fn.intro [.tmp 2] Tryz.func4 rfl rfl (by decide) (by simp [Tryz.ntmps4]) ?_;rw [Tryz.ntmps4]
  repeat' (first|omega|(try apply ah);simp only [go_sem,sevalprocAttr,hA]|(refine ⟨aO.fn (r:=?_) rfl ?_ ?_⟩;rotate_left;assumption)|(refine ⟨c8.fn (r:=?_) rfl ?_ ?_⟩;rotate_left;assumption)|apply ag<;>(intro h_;(try simp only [h_]);revert h_)|apply And.intro|with_reducible intro h_|trivial|simp only [go_sem,ai];omega)
 |false=>
 rw [hg] at hG;have hV:=y2f s m L;cases hv:bI s m L with
 |false=>
  rw [hv] at hV;refine Fn.intro [.tmp 2] Tryz.func4 rfl rfl (by decide) (by simp [Tryz.ntmps4]) ?_;rw [Tryz.ntmps4]
  repeat' (first|omega|(try apply ah);simp only [go_sem,sevalprocAttr,hA]|(refine ⟨aO.fn (r:=?_) rfl ?_ ?_⟩;rotate_left;assumption)|(refine ⟨c8.fn (r:=?_) rfl ?_ ?_⟩;rotate_left;assumption)|apply ag<;>(intro h_;(try simp only [h_]);revert h_)|apply And.intro|with_reducible intro h_|trivial|simp only [go_sem,ai];omega)
 |true=>
 rw [hv] at hV;have v1:=dr hv;have AH:=v1.l0;obtain ⟨l,rfl⟩: ∃l:Nat,L=l:=⟨L.toNat,by omega⟩;have hC:=Y1 s m l hv;by_cases hz:(dt s m).length+l=0
 ·have bz:(((dt s m).length:Int)+l==0)=true:=by rw [beq_iff_eq];omega
  refine Fn.intro [.tmp 2] Tryz.func4 rfl rfl (by decide) (by simp [Tryz.ntmps4]) ?_;rw [Tryz.ntmps4]
  repeat' (first|omega|(try apply ah);simp only [go_sem,sevalprocAttr,bz]|(refine ⟨aO.fn (r:=?_) rfl ?_ ?_⟩;rotate_left;assumption)|(refine ⟨c8.fn (r:=?_) rfl ?_ ?_⟩;rotate_left;assumption)|apply ag<;>(intro h_;(try simp only [h_]);revert h_)|apply And.intro|with_reducible intro h_|trivial|simp only [go_sem,ai];omega)
 have bz:(((dt s m).length:Int)+l==0)=false:=by rw [beq_eq_false_iff_ne];omega
 by_cases h6:6<s.length
 ·have b6:decide ((6:Int)<s.length)=true:=by rw [decide_eq_true_iff];omega
  refine Fn.intro [.tmp 2] Tryz.func4 rfl rfl (by decide) (by simp [Tryz.ntmps4]) ?_;rw [Tryz.ntmps4]
  repeat' (first|omega|(try apply ah);simp only [go_sem,sevalprocAttr,bz,b6]|(refine ⟨aO.fn (r:=?_) rfl ?_ ?_⟩;rotate_left;assumption)|(refine ⟨c8.fn (r:=?_) rfl ?_ ?_⟩;rotate_left;assumption)|apply ag<;>(intro h_;(try simp only [h_]);revert h_)|apply And.intro|with_reducible intro h_|trivial|simp only [go_sem,ai];omega)
 have b6:decide ((6:Int)<s.length)=false:=by rw [decide_eq_false_iff_not];omega
 have qu:0<s.length\/0<l:=by
  rcases Nat.eq_zero_or_pos l with h|h
  ·left;obtain ⟨k,h1⟩: ∃k,k<(dt s m).length:=⟨0,by omega⟩;obtain ⟨x,h2,_⟩:=HS v1 h1;omega
  ·exact .inr h
 have hk:=y16 hg hv (by omega) qu;have hlen:=hk.len;have S0:=Hs.lS v1;have B0:=Hs.nV v1 (by omega);obtain ⟨P,hP⟩:=EM S0 (by omega);obtain ⟨Q,hQ⟩:=EM S0.flip (by omega);have hX:=y18 s m l hv;have hY:=X6 s m l hv;have hZ:=X5 s m l hv;have lX:(ni s fun _=>true).length=s.length:=by unfold ni;rw [sd]
 have lY:(gU s (fun _=> -1) s.length).length=s.length:=sd _ _ _;have lZ:(gU s (fun _=>1) s.length).length=s.length:=sd _ _ _;have kX:rU (ni s fun _=>true) (td s m fun _=>true) l:=⟨TP hv,by rw [lX];omega,by rw [lX];omega,by rw [lX];exact qu⟩
 have kY:rU (gU s (fun _=> -1) s.length) (jw m (fun h=>cd h (4-2*(h % 4))) m.length) l:=⟨YW hv,by rw [lY];omega,by rw [lY];omega,by rw [lY];exact qu⟩;have kZ:rU (gU s (fun _=>1) s.length) (jw m (fun h=>cd h 2) m.length) l:=⟨TR hv,by rw [lZ];omega,by rw [lZ];omega,by rw [lZ];exact qu⟩;have pP:=ID hk hP;have pX:=ID kX (hQ.congr fun e=>(Hs.Ni hv qu e).symm)
 have pY:=ID kY (hQ.congr fun e=>(Hs.M6 hv qu e).symm);have pZ:=ID kZ (hP.congr fun e=>(Hs.M5 hv e).symm);have hF:=y42 hP S0 (by omega) B0 hQ;have eQ:=S5 Q (by have:=hQ.od S0.flip (by omega);omega);have eP:=S5 P (by have:=hP.od S0 (by omega);omega);clear kX kY kZ;generalize (ni s fun _=>true)=sX at*;generalize (td s m fun _=>true)=mX at*
 generalize gU s (fun _=> -1) s.length=sY at*;generalize jw m (fun h=>cd h (4-2*(h % 4))) m.length=mY at*;generalize gU s (fun _=>1) s.length=sZ at*;generalize jw m (fun h=>cd h 2) m.length=mZ at*;refine Fn.aH [.tmp 2] Tryz.func4 rfl rfl (by decide) (by simp [Tryz.ntmps4]) ?_;rw [Tryz.ntmps4]
 repeat' (first|omega|(first|apply ah|(refine bd.intro (id:=12) UB UA (by decide+kernel) mixed ?_)|(refine bd.bY (id:=12) (Uz) (by decide+kernel) mixed ?_)|skip);simp only [go_sem,sevalprocAttr,bz,b6,dq,↓reduceIte,reduceCtorEq,UB,UA,Uz]|(refine ⟨aO.fn (r:=?_) rfl ?_ ?_⟩;rotate_left;assumption)|(refine ⟨c8.fn (r:=?_) rfl ?_ ?_⟩;rotate_left;assumption)|apply ag<;>(intro h_;(try simp only [h_]);revert h_)|apply And.intro|with_reducible intro h_|trivial|simp only [go_sem,ai];omega)
 all_goals first
  |exact ED _ _ ‹_›
  |exact ca.refl _
  |(rw [pg];omega)
end Go.Proofs.YtjpbeacamoijhaaGreatDoor
