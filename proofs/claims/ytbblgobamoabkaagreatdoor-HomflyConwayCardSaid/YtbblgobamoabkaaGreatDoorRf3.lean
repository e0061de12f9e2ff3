/- The reference of layer 1: faces, strands. -/
import Derived.Test.YtbblgobamoabkaaGreatDoorZve
set_option linter.unusedSimpArgs false
set_option linter.unusedVariables false
namespace Go.Proofs.YtbblgobamoabkaaGreatDoor
open Go Go.RowKit
set_option maxRecDepth 100000
set_option maxHeartbeats 8000000
def lstR (orb:Nat->List Int) (p:Nat->Bool) (k:Nat):List (List Int):=((List.range k).filter p).map orb
theorem ymr {orb:Nat->List Int} {p:Nat->Bool} {k:Nat} (h:p k=true):lstR orb p (k+1)=lstR orb p k++[orb k]:=by simp [lstR,List.range_succ,List.filter_append,h]
theorem yht {orb:Nat->List Int} {p:Nat->Bool} {k:Nat} (h:p k=false):lstR orb p (k+1)=lstR orb p k:=by simp [lstR,List.range_succ,List.filter_append,h]
theorem yfg {x:Int} {l:List Int} {i:Nat} (h:i<l.length):ybc x (l.take (i+1))=(ybc x (l.take i)&&decide (x<=l.getD i 0)):=by
 unfold ybc
 rw [List.take_succ_eq_append_getElem h,List.all_append]
 simp [h]
theorem yjb (ls:List (List Int)) (l:List Int):ls.map roF++[AV.ro 1 l.length (.ints l)]=(ls++[l]).map roF:=by simp [roF]
theorem yrb (nx:Int->Int) (x:Int): ∀f g,(orbG nx x f g).length<=f
 |0,_=>by simp [orbG]
 |f+1,g=>by
  unfold orbG
  split
  ·simp
  ·simp only [List.length_cons];have:=yrb nx x f (nx g);omega
theorem yrc (nx:Int->Int) (N:Nat) (x:Int):(orbF nx N x).length<=N+1:=by
 unfold orbF;simp only [List.length_cons];have:=yrb nx x N (nx x);omega
theorem yzl (m:List Int) (n:Nat) (hn:n<=1000) (hml:m.length=4*n) (hm: ∀i,i<m.length->0<=m.getD i 0/\m.getD i 0<4*n):Fn Tryz.prog 36 [roI m] (roLL (lstR (fun h=>orbF (yah m) m.length h) (fl m) m.length)):=by
 refine Fn.introL [.tmp 2] Tryz.func36 rfl rfl (by decide) (by simp [Tryz.ntmps36]) ?_;rw [Tryz.ntmps36]
 repeat' (first|omega|(try apply yaa);simp only [go_sem,sevalprocAttr]|apply yab<;>(intro h_;(try simp only [h_]);revert h_)|apply And.intro|with_reducible intro h_|trivial|simp only [go_sem,la2];omega)
 refine yal.intro (fun t fr H=> ∃h:Nat,h<=m.length/\t=m.length-h/\((lstR (fun h=>orbF (yah m) m.length h) (fl m) h=[]/\fr=[(4,I h),(3, .nils),(0,roI m)]/\H=[])\/
  (fr=[(4,I h),(3, .sl 1 1 0 (lstR (fun h=>orbF (yah m) m.length h) (fl m) h).length),(0,roI m)]/\H=[(1, .cells 22 (.lst ((lstR (fun h=>orbF (yah m) m.length h) (fl m) h).map roF)))]))) ?_ ?_
 ·refine ⟨_,_,_,?_,0,by omega,rfl, .inl ⟨rfl,rfl,rfl⟩⟩
  refine Wk.sub ?_ ?_<;>simp only [go_sem,sevalprocAttr]
 rintro t fr H ⟨h,hh,rfl,hcase⟩
 have hlen:(lstR (fun h=>orbF (yah m) m.length h) (fl m) h).length<=h:=by
  have:=List.length_filter_le (fl m) (List.range h)
  simp only [lstR,List.length_map];simp only [List.length_range] at this;exact this
 have hol:(orbF (yah m) m.length h).length<=m.length+1:=yrc _ _ _
 rcases hcase with ⟨hnil,rfl,rfl⟩|⟨rfl,rfl⟩
 ·by_cases hlt:h<m.length
  ·have bh:decide ((h:Int)<m.length)=true:=by simp;omega
   have hF:=yra m n h hn hml hm hlt
   repeat' (first|omega|(try apply yaa);simp only [go_sem,sevalprocAttr,bh]|apply yab<;>(intro h_;(try simp only [h_]);revert h_)|apply And.intro|with_reducible intro h_|trivial|simp only [go_sem,la2];omega)
   refine ⟨yad.fn rfl hF ?_⟩
   repeat' (first|omega|(try apply yaa);simp only [go_sem,sevalprocAttr]|apply yab<;>(intro h_;(try simp only [h_]);revert h_)|apply And.intro|with_reducible intro h_|trivial|simp only [go_sem,la2];omega)
   refine yal.intro (fun t fr H=> ∃i:Nat,i<=(orbF (yah m) m.length h).length/\t=(orbF (yah m) m.length h).length-i/\fr=[(7,I i),(6, .bool (ybc h ((orbF (yah m) m.length h).take i))),(5,roI (orbF (yah m) m.length h)),(4,I h),(3, .nils),(0,roI m)]/\H=[]) ?_ ?_
   ·refine ⟨_,_,_,?_,0,by omega,rfl,rfl,rfl⟩
    refine Wk.sub ?_ ?_<;>simp only [go_sem,sevalprocAttr]
    all_goals simp [ybc]
   rintro t fr H ⟨i,hi,rfl,rfl,rfl⟩
   by_cases hil:i<(orbF (yah m) m.length h).length
   ·have bi:decide ((i:Int)<(orbF (yah m) m.length h).length)=true:=by simp;omega
    have el:=yfg (x:=h) hil
    cases hb:ybc h ((orbF (yah m) m.length h).take i) with
    |false=>
     rw [hb] at el
     repeat' (first|omega|(try apply yaa);simp only [go_sem,sevalprocAttr,bi]|apply yab<;>(intro h_;(try simp only [h_]);revert h_)|apply And.intro|with_reducible intro h_|trivial|simp only [go_sem,la2];omega)
     refine ⟨_,_,_,?_,?_,⟨i+1,by omega,rfl,rfl,rfl⟩⟩
     ·omega
     ·rw [el]
      refine Wk.sub ?_ ?_<;>simp only [go_sem,sevalprocAttr]
    |true=>
     rw [hb] at el
     repeat' (first|omega|(try apply yaa);simp only [go_sem,sevalprocAttr,bi]|apply yab<;>(intro h_;(try simp only [h_]);revert h_)|apply And.intro|with_reducible intro h_|trivial|simp only [go_sem,la2];omega)
     refine ⟨_,_,_,?_,?_,⟨i+1,by omega,rfl,rfl,rfl⟩⟩
     ·omega
     ·rw [el]
      refine Wk.sub ?_ ?_<;>simp only [go_sem,sevalprocAttr]
   ·obtain rfl:i=(orbF (yah m) m.length h).length:=by omega
    have bi:decide (((orbF (yah m) m.length h).length:Int)<(orbF (yah m) m.length h).length)=false:=by simp
    have ef:ybc h ((orbF (yah m) m.length h).take (orbF (yah m) m.length h).length)=fl m h:=by rw [List.take_length];rfl
    rw [ef]
    cases hb:fl m h with
    |false=>
     have eS:=yht (orb:=fun h=>orbF (yah m) m.length h) hb
     repeat' (first|omega|(try apply yaa);simp only [go_sem,sevalprocAttr,bi]|apply yab<;>(intro h_;(try simp only [h_]);revert h_)|apply And.intro|with_reducible intro h_|trivial|simp only [go_sem,la2];omega)
     refine ⟨_,_,_,?_,?_,⟨h+1,by omega,rfl, .inl ⟨by rw [eS];exact hnil,rfl,rfl⟩⟩⟩
     ·omega
     ·first|rw [eS]|skip
      refine Wk.sub ?_ ?_<;>simp only [go_sem,sevalprocAttr]
    |true=>
     have eS:=ymr (orb:=fun h=>orbF (yah m) m.length h) hb
     repeat' (first|omega|(try apply yaa);simp only [go_sem,sevalprocAttr,bi,List.length_map]|apply yab<;>(intro h_;(try simp only [h_]);revert h_)|apply And.intro|with_reducible intro h_|trivial|simp only [go_sem,la2];omega)
     refine ⟨_,_,_,?_,?_,⟨h+1,by omega,rfl, .inr ⟨rfl,rfl⟩⟩⟩
     ·omega
     ·rw [eS]
      rw [hnil]
      refine Wk.sub ?_ ?_<;>simp only [go_sem,sevalprocAttr]
      all_goals first
       |rfl
       |exact ⟨rfl,rfl⟩
       |exact ⟨rfl,rfl,rfl⟩
  ·obtain rfl:h=m.length:=by omega
   have bh:decide ((m.length:Int)<m.length)=false:=by simp
   repeat' (first|omega|(try apply yaa);simp only [go_sem,sevalprocAttr,bh]|apply yab<;>(intro h_;(try simp only [h_]);revert h_)|apply And.intro|with_reducible intro h_|trivial|simp only [go_sem,la2];omega)
   all_goals first
    |(rw [hnil];exact LeA.nils (by omega) rfl)
    |exact ycl _ _ _ _ h_
    |exact ycl _ _ _ _ (List.mem_of_mem_take h_)
    |(rw [List.take_of_length_le (by simp)];exact LeA.refl _)
 ·by_cases hlt:h<m.length
  ·have bh:decide ((h:Int)<m.length)=true:=by simp;omega
   have hF:=yra m n h hn hml hm hlt
   repeat' (first|omega|(try apply yaa);simp only [go_sem,sevalprocAttr,bh]|apply yab<;>(intro h_;(try simp only [h_]);revert h_)|apply And.intro|with_reducible intro h_|trivial|simp only [go_sem,la2];omega)
   refine ⟨yad.fn rfl hF ?_⟩
   repeat' (first|omega|(try apply yaa);simp only [go_sem,sevalprocAttr]|apply yab<;>(intro h_;(try simp only [h_]);revert h_)|apply And.intro|with_reducible intro h_|trivial|simp only [go_sem,la2];omega)
   refine yal.intro (fun t fr H=> ∃i:Nat,i<=(orbF (yah m) m.length h).length/\t=(orbF (yah m) m.length h).length-i/\fr=[(7,I i),(6, .bool (ybc h ((orbF (yah m) m.length h).take i))),(5,roI (orbF (yah m) m.length h)),(4,I h),(3, .sl 1 1 0 (lstR (fun h=>orbF (yah m) m.length h) (fl m) h).length),(0,roI m)]/\H=[(1, .cells 22 (.lst ((lstR (fun h=>orbF (yah m) m.length h) (fl m) h).map roF)))]) ?_ ?_
   ·refine ⟨_,_,_,?_,0,by omega,rfl,rfl,rfl⟩
    refine Wk.sub ?_ ?_<;>simp only [go_sem,sevalprocAttr]
    all_goals simp [ybc]
   rintro t fr H ⟨i,hi,rfl,rfl,rfl⟩
   by_cases hil:i<(orbF (yah m) m.length h).length
   ·have bi:decide ((i:Int)<(orbF (yah m) m.length h).length)=true:=by simp;omega
    have el:=yfg (x:=h) hil
    cases hb:ybc h ((orbF (yah m) m.length h).take i) with
    |false=>
     rw [hb] at el
     repeat' (first|omega|(try apply yaa);simp only [go_sem,sevalprocAttr,bi]|apply yab<;>(intro h_;(try simp only [h_]);revert h_)|apply And.intro|with_reducible intro h_|trivial|simp only [go_sem,la2];omega)
     refine ⟨_,_,_,?_,?_,⟨i+1,by omega,rfl,rfl,rfl⟩⟩
     ·omega
     ·rw [el]
      refine Wk.sub ?_ ?_<;>simp only [go_sem,sevalprocAttr]
    |true=>
     rw [hb] at el
     repeat' (first|omega|(try apply yaa);simp only [go_sem,sevalprocAttr,bi]|apply yab<;>(intro h_;(try simp only [h_]);revert h_)|apply And.intro|with_reducible intro h_|trivial|simp only [go_sem,la2];omega)
     refine ⟨_,_,_,?_,?_,⟨i+1,by omega,rfl,rfl,rfl⟩⟩
     ·omega
     ·rw [el]
      refine Wk.sub ?_ ?_<;>simp only [go_sem,sevalprocAttr]
   ·obtain rfl:i=(orbF (yah m) m.length h).length:=by omega
    have bi:decide (((orbF (yah m) m.length h).length:Int)<(orbF (yah m) m.length h).length)=false:=by simp
    have ef:ybc h ((orbF (yah m) m.length h).take (orbF (yah m) m.length h).length)=fl m h:=by rw [List.take_length];rfl
    rw [ef]
    cases hb:fl m h with
    |false=>
     have eS:=yht (orb:=fun h=>orbF (yah m) m.length h) hb
     repeat' (first|omega|(try apply yaa);simp only [go_sem,sevalprocAttr,bi]|apply yab<;>(intro h_;(try simp only [h_]);revert h_)|apply And.intro|with_reducible intro h_|trivial|simp only [go_sem,la2];omega)
     refine ⟨_,_,_,?_,?_,⟨h+1,by omega,rfl, .inr ⟨rfl,rfl⟩⟩⟩
     ·omega
     ·first|rw [eS]|skip
      refine Wk.sub ?_ ?_<;>simp only [go_sem,sevalprocAttr]
    |true=>
     have eS:=ymr (orb:=fun h=>orbF (yah m) m.length h) hb
     repeat' (first|omega|(try apply yaa);simp only [go_sem,sevalprocAttr,bi,List.length_map]|apply yab<;>(intro h_;(try simp only [h_]);revert h_)|apply And.intro|with_reducible intro h_|trivial|simp only [go_sem,la2];omega)
     refine ⟨_,_,_,?_,?_,⟨h+1,by omega,rfl, .inr ⟨rfl,rfl⟩⟩⟩
     ·omega
     ·rw [eS]
      rw [yjb]
      refine Wk.sub ?_ ?_<;>simp only [go_sem,sevalprocAttr]
      all_goals first
       |rfl
       |exact ⟨rfl,rfl⟩
       |exact ⟨rfl,rfl,rfl⟩
  ·obtain rfl:h=m.length:=by omega
   have bh:decide ((m.length:Int)<m.length)=false:=by simp
   repeat' (first|omega|(try apply yaa);simp only [go_sem,sevalprocAttr,bh]|apply yab<;>(intro h_;(try simp only [h_]);revert h_)|apply And.intro|with_reducible intro h_|trivial|simp only [go_sem,la2];omega)
   all_goals first
    |(rw [hnil];exact LeA.nils (by omega) rfl)
    |exact ycl _ _ _ _ h_
    |exact ycl _ _ _ _ (List.mem_of_mem_take h_)
    |(rw [List.take_of_length_le (by simp)];exact LeA.refl _)
end Go.Proofs.YtbblgobamoabkaaGreatDoor
