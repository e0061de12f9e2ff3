/- The reference of layer 1: strands. -/
import Derived.Test.YtbblgobamoabkaaGreatDoorRf3
import Derived.Test.YtbblgobamoabkaaGreatDoorZvf
import Derived.Test.YtbblgobamoabkaaGreatDoorZs
set_option linter.unusedSimpArgs false
set_option linter.unusedVariables false
namespace Go.Proofs.YtbblgobamoabkaaGreatDoor
open Go Go.RowKit
set_option maxRecDepth 100000
set_option maxHeartbeats 8000000
def flS (s m:List Int) (h:Nat):Bool:=outB s h&&ybc h (orbF (yae m) m.length h)
theorem yry (s m:List Int) (L:Int) (n:Nat) (hsl:s.length=n) (hn:n<=1000) (hml:m.length=4*n) (hm: ∀i,i<m.length->0<=m.getD i 0/\m.getD i 0<4*n):Fn Tryz.prog 63 [dgA s m L] (roLL (lstR (fun h=>orbF (yae m) m.length h) (flS s m) m.length)):=by
 refine Fn.introL [.tmp 2] Tryz.func63 rfl rfl (by decide) (by simp [Tryz.ntmps63]) ?_;rw [Tryz.ntmps63]
 repeat' (first|omega|(try apply yaa);simp only [go_sem,sevalprocAttr]|apply yab<;>(intro h_;(try simp only [h_]);revert h_)|apply And.intro|with_reducible intro h_|trivial|simp only [go_sem,la2];omega)
 refine yal.intro (fun t fr H=> ∃h:Nat,h<=m.length/\t=m.length-h/\((lstR (fun h=>orbF (yae m) m.length h) (flS s m) h=[]/\fr=[(4,I h),(3, .nils),(1, .ptr 0 0)]/\H=[(0, .cells 24 (.lst [roI s,roI m,I L]))])\/
  (fr=[(4,I h),(3, .sl 1 2 0 (lstR (fun h=>orbF (yae m) m.length h) (flS s m) h).length),(1, .ptr 0 0)]/\H=[(2, .cells 22 (.lst ((lstR (fun h=>orbF (yae m) m.length h) (flS s m) h).map roF))),(0, .cells 24 (.lst [roI s,roI m,I L]))]))) ?_ ?_
 ·refine ⟨_,_,_,?_,0,by omega,rfl, .inl ⟨rfl,rfl,rfl⟩⟩
  refine Wk.sub ?_ ?_<;>simp only [go_sem,sevalprocAttr]
 rintro t fr H ⟨h,hh,rfl,hcase⟩
 have hlen:(lstR (fun h=>orbF (yae m) m.length h) (flS s m) h).length<=h:=by
  have:=List.length_filter_le (flS s m) (List.range h)
  simp only [lstR,List.length_map];simp only [List.length_range] at this;exact this
 have hol:(orbF (yae m) m.length h).length<=m.length+1:=yrc _ _ _
 rcases hcase with ⟨hnil,rfl,rfl⟩|⟨rfl,rfl⟩
 ·by_cases hlt:h<m.length
  ·have bh:decide ((h:Int)<m.length)=true:=by simp;omega
   have hF:=yms s m L n h hn hml hm hlt
   have hO:=yj5 s h (by omega) (by omega) (by omega)
   repeat' (first|omega|(try apply yaa);simp only [go_sem,sevalprocAttr,bh]|apply yab<;>(intro h_;(try simp only [h_]);revert h_)|apply And.intro|with_reducible intro h_|trivial|simp only [go_sem,la2];omega)
   refine ⟨yad.fn rfl hO ?_⟩
   cases hob:outB s h with
   |false=>
    have hb:flS s m h=false:=by simp [flS,hob]
    have eS:=yht (orb:=fun h=>orbF (yae m) m.length h) hb
    repeat' (first|omega|(try apply yaa);simp only [go_sem,sevalprocAttr]|apply yab<;>(intro h_;(try simp only [h_]);revert h_)|apply And.intro|with_reducible intro h_|trivial|simp only [go_sem,la2];omega)
    refine ⟨_,_,_,?_,?_,⟨h+1,by omega,rfl, .inl ⟨by rw [eS];exact hnil,rfl,rfl⟩⟩⟩
    ·omega
    ·first|rw [eS]|skip
     refine Wk.sub ?_ ?_<;>simp only [go_sem,sevalprocAttr]
   |true=>
    repeat' (first|omega|(try apply yaa);simp only [go_sem,sevalprocAttr]|apply yab<;>(intro h_;(try simp only [h_]);revert h_)|apply And.intro|with_reducible intro h_|trivial|simp only [go_sem,la2];omega)
    refine ⟨yad.fn rfl hF ?_⟩
    repeat' (first|omega|(try apply yaa);simp only [go_sem,sevalprocAttr]|apply yab<;>(intro h_;(try simp only [h_]);revert h_)|apply And.intro|with_reducible intro h_|trivial|simp only [go_sem,la2];omega)
    refine yal.intro (fun t fr H=> ∃i:Nat,i<=(orbF (yae m) m.length h).length/\t=(orbF (yae m) m.length h).length-i/\fr=[(7,I i),(6, .bool (ybc h ((orbF (yae m) m.length h).take i))),(5,roI (orbF (yae m) m.length h)),(4,I h),(3, .nils),(1, .ptr 0 0)]/\H=[(0, .cells 24 (.lst [roI s,roI m,I L]))]) ?_ ?_
    ·refine ⟨_,_,_,?_,0,by omega,rfl,rfl,rfl⟩
     refine Wk.sub ?_ ?_<;>simp only [go_sem,sevalprocAttr]
     all_goals simp [ybc]
    rintro t fr H ⟨i,hi,rfl,rfl,rfl⟩
    by_cases hil:i<(orbF (yae m) m.length h).length
    ·have bi:decide ((i:Int)<(orbF (yae m) m.length h).length)=true:=by simp;omega
     have el:=yfg (x:=h) hil
     cases hb:ybc h ((orbF (yae m) m.length h).take i) with
     |false=>
      rw [hb] at el
      repeat' (first|omega|(try apply yaa);simp only [go_sem,sevalprocAttr,bi]|apply yab<;>(intro h_;(try simp only [h_]);revert h_)|apply And.intro|with_reducible intro h_|trivial|simp only [go_sem,la2];omega)
      refine ⟨_,_,_,?_,?_,⟨i+1,by omega,rfl,rfl,rfl⟩⟩
      ·omega
      ·rw [el]
       refine Wk.sub ?_ ?_<;>simp only [go_sem,sevalprocAttr]
     |true=>
      rw [hb] at el
      repeat' (first|omega|(try apply yaa);simp only [go_sem,sevalprocAttr,bi]|apply yab<;>(intro h_;(try simp only [h_]);revert h_)|apply And.intro|with_reducible intro h_|trivial|simp only [go_sem,la2];omega)
      refine ⟨_,_,_,?_,?_,⟨i+1,by omega,rfl,rfl,rfl⟩⟩
      ·omega
      ·rw [el]
       refine Wk.sub ?_ ?_<;>simp only [go_sem,sevalprocAttr]
    ·obtain rfl:i=(orbF (yae m) m.length h).length:=by omega
     have bi:decide (((orbF (yae m) m.length h).length:Int)<(orbF (yae m) m.length h).length)=false:=by simp
     have ef:ybc h ((orbF (yae m) m.length h).take (orbF (yae m) m.length h).length)=flS s m h:=by rw [List.take_length];simp [flS,hob]
     rw [ef]
     cases hb:flS s m h with
     |false=>
      have eS:=yht (orb:=fun h=>orbF (yae m) m.length h) hb
      repeat' (first|omega|(try apply yaa);simp only [go_sem,sevalprocAttr,bi]|apply yab<;>(intro h_;(try simp only [h_]);revert h_)|apply And.intro|with_reducible intro h_|trivial|simp only [go_sem,la2];omega)
      refine ⟨_,_,_,?_,?_,⟨h+1,by omega,rfl, .inl ⟨by rw [eS];exact hnil,rfl,rfl⟩⟩⟩
      ·omega
      ·first|rw [eS]|skip
       refine Wk.sub ?_ ?_<;>simp only [go_sem,sevalprocAttr]
     |true=>
      have eS:=ymr (orb:=fun h=>orbF (yae m) m.length h) hb
      repeat' (first|omega|(try apply yaa);simp only [go_sem,sevalprocAttr,bi,List.length_map]|apply yab<;>(intro h_;(try simp only [h_]);revert h_)|apply And.intro|with_reducible intro h_|trivial|simp only [go_sem,la2];omega)
      refine ⟨_,_,_,?_,?_,⟨h+1,by omega,rfl, .inr ⟨rfl,rfl⟩⟩⟩
      ·omega
      ·rw [eS]
       rw [hnil]
       refine Wk.sub ?_ ?_<;>simp only [go_sem,sevalprocAttr]
       all_goals first
        |rfl
        |exact ⟨rfl,rfl⟩
        |exact ⟨rfl,rfl,rfl⟩
  ·obtain rfl:h=m.length:=by omega
   have bh:decide ((m.length:Int)<m.length)=false:=by simp
   repeat' (first|omega|(try apply yaa);simp only [go_sem,sevalprocAttr,bh]|apply yab<;>(intro h_;(try simp only [h_]);revert h_)|apply And.intro|with_reducible intro h_|trivial|simp only [go_sem,la2];omega)
   all_goals first
    |(rw [hnil];exact LeA.nils (by omega) rfl)
    |exact ycl _ _ _ _ h_
    |exact ycl _ _ _ _ (List.mem_of_mem_take h_)
    |(rw [List.take_of_length_le (by simp)];exact LeA.refl _)
 ·by_cases hlt:h<m.length
  ·have bh:decide ((h:Int)<m.length)=true:=by simp;omega
   have hF:=yms s m L n h hn hml hm hlt
   have hO:=yj5 s h (by omega) (by omega) (by omega)
   repeat' (first|omega|(try apply yaa);simp only [go_sem,sevalprocAttr,bh]|apply yab<;>(intro h_;(try simp only [h_]);revert h_)|apply And.intro|with_reducible intro h_|trivial|simp only [go_sem,la2];omega)
   refine ⟨yad.fn rfl hO ?_⟩
   cases hob:outB s h with
   |false=>
    have hb:flS s m h=false:=by simp [flS,hob]
    have eS:=yht (orb:=fun h=>orbF (yae m) m.length h) hb
    repeat' (first|omega|(try apply yaa);simp only [go_sem,sevalprocAttr]|apply yab<;>(intro h_;(try simp only [h_]);revert h_)|apply And.intro|with_reducible intro h_|trivial|simp only [go_sem,la2];omega)
    refine ⟨_,_,_,?_,?_,⟨h+1,by omega,rfl, .inr ⟨rfl,rfl⟩⟩⟩
    ·omega
    ·first|rw [eS]|skip
     refine Wk.sub ?_ ?_<;>simp only [go_sem,sevalprocAttr]
   |true=>
    repeat' (first|omega|(try apply yaa);simp only [go_sem,sevalprocAttr]|apply yab<;>(intro h_;(try simp only [h_]);revert h_)|apply And.intro|with_reducible intro h_|trivial|simp only [go_sem,la2];omega)
    refine ⟨yad.fn rfl hF ?_⟩
    repeat' (first|omega|(try apply yaa);simp only [go_sem,sevalprocAttr]|apply yab<;>(intro h_;(try simp only [h_]);revert h_)|apply And.intro|with_reducible intro h_|trivial|simp only [go_sem,la2];omega)
    refine yal.intro (fun t fr H=> ∃i:Nat,i<=(orbF (yae m) m.length h).length/\t=(orbF (yae m) m.length h).length-i/\fr=[(7,I i),(6, .bool (ybc h ((orbF (yae m) m.length h).take i))),(5,roI (orbF (yae m) m.length h)),(4,I h),(3, .sl 1 2 0 (lstR (fun h=>orbF (yae m) m.length h) (flS s m) h).length),(1, .ptr 0 0)]/\H=[(2, .cells 22 (.lst ((lstR (fun h=>orbF (yae m) m.length h) (flS s m) h).map roF))),(0, .cells 24 (.lst [roI s,roI m,I L]))]) ?_ ?_
    ·refine ⟨_,_,_,?_,0,by omega,rfl,rfl,rfl⟩
     refine Wk.sub ?_ ?_<;>simp only [go_sem,sevalprocAttr]
     all_goals simp [ybc]
    rintro t fr H ⟨i,hi,rfl,rfl,rfl⟩
    by_cases hil:i<(orbF (yae m) m.length h).length
    ·have bi:decide ((i:Int)<(orbF (yae m) m.length h).length)=true:=by simp;omega
     have el:=yfg (x:=h) hil
     cases hb:ybc h ((orbF (yae m) m.length h).take i) with
     |false=>
      rw [hb] at el
      repeat' (first|omega|(try apply yaa);simp only [go_sem,sevalprocAttr,bi]|apply yab<;>(intro h_;(try simp only [h_]);revert h_)|apply And.intro|with_reducible intro h_|trivial|simp only [go_sem,la2];omega)
      refine ⟨_,_,_,?_,?_,⟨i+1,by omega,rfl,rfl,rfl⟩⟩
      ·omega
      ·rw [el]
       refine Wk.sub ?_ ?_<;>simp only [go_sem,sevalprocAttr]
     |true=>
      rw [hb] at el
      repeat' (first|omega|(try apply yaa);simp only [go_sem,sevalprocAttr,bi]|apply yab<;>(intro h_;(try simp only [h_]);revert h_)|apply And.intro|with_reducible intro h_|trivial|simp only [go_sem,la2];omega)
      refine ⟨_,_,_,?_,?_,⟨i+1,by omega,rfl,rfl,rfl⟩⟩
      ·omega
      ·rw [el]
       refine Wk.sub ?_ ?_<;>simp only [go_sem,sevalprocAttr]
    ·obtain rfl:i=(orbF (yae m) m.length h).length:=by omega
     have bi:decide (((orbF (yae m) m.length h).length:Int)<(orbF (yae m) m.length h).length)=false:=by simp
     have ef:ybc h ((orbF (yae m) m.length h).take (orbF (yae m) m.length h).length)=flS s m h:=by rw [List.take_length];simp [flS,hob]
     rw [ef]
     cases hb:flS s m h with
     |false=>
      have eS:=yht (orb:=fun h=>orbF (yae m) m.length h) hb
      repeat' (first|omega|(try apply yaa);simp only [go_sem,sevalprocAttr,bi]|apply yab<;>(intro h_;(try simp only [h_]);revert h_)|apply And.intro|with_reducible intro h_|trivial|simp only [go_sem,la2];omega)
      refine ⟨_,_,_,?_,?_,⟨h+1,by omega,rfl, .inr ⟨rfl,rfl⟩⟩⟩
      ·omega
      ·first|rw [eS]|skip
       refine Wk.sub ?_ ?_<;>simp only [go_sem,sevalprocAttr]
     |true=>
      have eS:=ymr (orb:=fun h=>orbF (yae m) m.length h) hb
      repeat' (first|omega|(try apply yaa);simp only [go_sem,sevalprocAttr,bi,List.length_map]|apply yab<;>(intro h_;(try simp only [h_]);revert h_)|apply And.intro|with_reducible intro h_|trivial|simp only [go_sem,la2];omega)
      refine ⟨_,_,_,?_,?_,⟨h+1,by omega,rfl, .inr ⟨rfl,rfl⟩⟩⟩
      ·omega
      ·rw [eS]
       rw [yjb]
       refine Wk.sub ?_ ?_<;>simp only [go_sem,sevalprocAttr]
       all_goals first
        |rfl
        |exact ⟨rfl,rfl⟩
        |exact ⟨rfl,rfl,rfl⟩
  ·obtain rfl:h=m.length:=by omega
   have bh:decide ((m.length:Int)<m.length)=false:=by simp
   repeat' (first|omega|(try apply yaa);simp only [go_sem,sevalprocAttr,bh]|apply yab<;>(intro h_;(try simp only [h_]);revert h_)|apply And.intro|with_reducible intro h_|trivial|simp only [go_sem,la2];omega)
   all_goals first
    |(rw [hnil];exact LeA.nils (by omega) rfl)
    |exact ycl _ _ _ _ h_
    |exact ycl _ _ _ _ (List.mem_of_mem_take h_)
    |(rw [List.take_of_length_le (by simp)];exact LeA.refl _)
end Go.Proofs.YtbblgobamoabkaaGreatDoor
set_option linter.unusedSimpArgs false
set_option linter.unusedVariables false
namespace Go.Proofs.YtbblgobamoabkaaGreatDoor
open Go Go.RowKit
set_option maxRecDepth 100000
theorem yvp {s:List Int} {h:Int} (h0:0<=h) (hs:s.getD (h/4).toNat 0=1\/s.getD (h/4).toNat 0= -1):outB s (ya1 h 2)= !outB s h:=by
 have e:ya1 h 2=h-h % 4+(h % 4+2)% 4:=by
  unfold ya1
  have:Int.tmod 2 4=2:=rfl
  rw [this];omega
 have ed:ya1 h 2/4=h/4:=by rw [e];omega
 have em:ya1 h 2 % 4=(h % 4+2)% 4:=by rw [e];omega
 unfold outB
 rw [ed,em]
 have:h % 4=0\/h % 4=1\/h % 4=2\/h % 4=3:=by omega
 rcases this with g|g|g|g<;>rcases hs with k|k<;>rw [g,k]<;>decide
theorem y59 {s m:List Int} {L:Int} (hv:ybz s m L) {x:Nat} (hx:x<4*s.length):outB s (yae m x)=outB s x:=by
 have hm:=hv.mt x hx
 have hr:=hm.1
 have hl:=hm.2.1
 have:=yvp (s:=s) (h:=m.getD x 0) hr (hv.sg _ (by omega))
 unfold yae
 rw [Int.toNat_natCast,this]
 have hne:=hm.2.2.2.2
 cases h1:outB s x<;>cases h2:outB s (m.getD x 0)<;>simp_all
theorem yt2 {s m:List Int} {L:Int} (hv:ybz s m L) {x:Nat} (hx:x<4*s.length): ∀j,outB s (it (yae m) j x)=outB s x
 |0=>rfl
 |j+1=>by
  have hR:InR s.length (x:Int):=by unfold InR;omega
  have hS:=(ydl hv.prd).it hR j
  unfold InR at hS
  have e:it (yae m) j (x:Int)=((it (yae m) j (x:Int)).toNat:Int):=by omega
  have h1:=y59 hv (x:=(it (yae m) j (x:Int)).toNat) (by omega)
  rw [←e] at h1
  show outB s (yae m (it (yae m) j x))=_
  rw [h1,yt2 hv hx j]
theorem yrz {s m:List Int} {L:Int} (hv:ybz s m L):lstR (fun h=>orbF (yae m) m.length h) (flS s m) m.length=yaj s m:=by
 have hl:=hv.len
 have hR: ∀x:Nat,x<m.length->InR s.length (x:Int):=fun x hx=>by unfold InR;omega
 have hof:=fun (x:Nat) (hx:x<m.length)=>by
  have:=yc3 (ydl hv.prd) (hR x hx)
  rw [←hl] at this;exact this
 refine (ymz (N:=m.length) (want:=outB s) (orb:=orbF (yae m) m.length) ?_ ?_ ?_ ?_ m.length (Nat.le_refl _)).1.symm
 ·intro x hx _ y hy
  have:=(hof x hx).2.1 y hy
  unfold InR at this;omega
 ·intro x hx _
  exact (hof x hx).2.2.2.2.1
 ·intro x y hx hy hw hm
  refine ⟨?_,(hof x hx).2.2.1 y hm⟩
  obtain ⟨j,hj⟩:=((hof x hx).1 y).1 hm
  rw [←hj,yt2 hv (by omega) j];exact hw
 ·intro x y z hx hy hz _ h1 h2
  exact (hof x hx).2.2.2.1 y h1 z h2
end Go.Proofs.YtbblgobamoabkaaGreatDoor
set_option linter.unusedSimpArgs false
set_option linter.unusedVariables false
namespace Go.Proofs.YtbblgobamoabkaaGreatDoor
open Go Go.RowKit
set_option maxRecDepth 100000
set_option maxHeartbeats 8000000
def yzr:Tr:= .node [(0, .node [(1, .node [(2,trD [3,4,5,6]),(3, .node [(2,trD [4,5,6]),(4,trD [2,5,6])])]),(3, .node [(1, .node [(2,trD [4,5,6]),(4,trD [2,5,6])]),(4,trD [1,2,5,6])])]),(3, .node [(0, .node [(1, .node [(2,trD [4,5,6]),(4,trD [2,5,6])]),(4,trD [1,2,5,6])]),(4,trD [0,1,2,5,6])])]
theorem yno (s m:List Int) (L:Int) (hv:yap s m L=true):Fn Tryz.prog 23 [dgA s m L] (I ((yaj s m).length+L)):=by
 have v1:=yas hv
 have h64:=v1.s64
 have hl:=v1.len
 have h0:=v1.l0
 have h1:=v1.l64
 have hS:=yry s m L s.length rfl (by omega) hl (fun i hi=>v1.prd.ok.2 i (by omega))
 rw [yrz v1] at hS
 have hsl:=yb0 s m
 refine Fn.intro [.tmp 2] Tryz.func23 rfl rfl (by decide) (by simp [Tryz.ntmps23]) ?_;rw [Tryz.ntmps23]
 repeat' (first|omega|(first|apply yaa|(refine yac.intro (id:=1) [[6,7],[6,7],[6,7],[3,4,5],[3,4,5],[],[]] [[],[],[],[0,1,2],[0,1,2],[],[]] (by decide+kernel) mixed ?_)|(refine yac.introT (id:=1) (yzr) (by decide+kernel) mixed ?_)|skip);simp only [go_sem,sevalprocAttr,↓reduceIte,reduceCtorEq,yzr]|apply yab<;>(intro h_;(try simp only [h_]);revert h_)|apply And.intro|with_reducible intro h_|trivial|simp only [go_sem,la2];omega)
 refine ⟨yag.fn rfl hS ?_⟩
 repeat' (first|omega|(try apply yaa);simp only [go_sem,sevalprocAttr]|apply yab<;>(intro h_;(try simp only [h_]);revert h_)|apply And.intro|with_reducible intro h_|trivial|simp only [go_sem,la2];omega)
end Go.Proofs.YtbblgobamoabkaaGreatDoor
