/- The reference of layer 1: strands, equal lists. -/
import Derived.Test.YtbblgobamoabkaaGreatDoorZt
import Derived.Test.YtbblgobamoabkaaGreatDoorZb
set_option linter.unusedSimpArgs false
set_option linter.unusedVariables false
namespace Go.Proofs.YtbblgobamoabkaaGreatDoor
open Go Go.RowKit
set_option maxRecDepth 100000
set_option maxHeartbeats 8000000
def yda:List (List Nat):=[[38,39,40,41,42],[38,39,40,41,42],[36,37,39,8],[36,37,38,8],[36,37,8],[36,37,8],[36,37,8],[38,39,40,41,42],[]]
def ydb:List (List Nat):=[[44,47,48,49,50],[43,47,48,49,50],[47,48,49,50],[47,48,49,50],[43,44,45,46,48],[43,44,45,46,47],[43,44,45,46],[43,44,45,46],[],[]]
theorem ynm (m l:List Int): ∀h,(rlH m l h).length=l.length
 |0=>rfl
 |h+1=>by simp only [rlH,rl1,List.length_set];exact ynm m l h
theorem ynn (m:List Int) (n:Nat): ∀k,(rlP m n k).length=n
 |0=>by simp [rlP]
 |k+1=>by simp only [rlP];rw [ynm,ynn m n k]
theorem yyt (m:List Int) (n:Nat) (hn:n<=1000) (hm:ybn m n):Fn Tryz.prog 35 [roI m] (roI (rlP m n n)):=by
 obtain ⟨hml,hmr⟩:=hm
 have e0:(m.length:Int).tdiv 4=n:=by rw [ybe (by omega)];omega
 refine Fn.intro [.tmp 2] Tryz.func35 rfl rfl (by decide) (by simp [Tryz.ntmps35]) ?_;rw [Tryz.ntmps35]
 repeat' (first|omega|(first|apply yaa|(refine yac.intro (id:=13) yda [[],[],[0,1],[0,1,2],[0,1],[0,1],[0,1],[2,3,4,5,6],[]] (by decide+kernel) mixed ?_)|(refine yac.intro (id:=14) ydb [[],[0],[],[],[0,1,2,3],[0,1,2,3,4],[0,1,2,3],[0,1,2,3],[],[]] (by decide+kernel) mixed ?_)|skip);simp only [go_sem,sevalprocAttr,e0,↓reduceIte,reduceCtorEq,yda,ydb]|apply yab<;>(intro h_;(try simp only [h_]);revert h_)|apply And.intro|with_reducible intro h_|trivial|simp only [go_sem,la2];omega)
 refine yaj.intro (fun t fr H=> ∃k:Nat,k<=n/\t=n-k/\fr=[(5,I k),(4, .sl 1 0 0 n),(3,I n),(0,roI m)]/\H=[(0, .cells 3 (.ints ((List.range k).map (fun (i:Nat)=>(i:Int))++List.replicate (n-k) 0)))]) ?_ ?_
 ·refine ⟨_,_,_,?_,0,by omega,rfl,rfl,rfl⟩
  refine Wk.sub ?_ ?_<;>simp only [go_sem,sevalprocAttr]
  all_goals simp
 rintro t fr H ⟨k,hk,rfl,rfl,rfl⟩
 repeat' (first|omega|(first|apply yaa|(refine yac.intro (id:=13) yda [[],[],[0,1],[0,1,2],[0,1],[0,1],[0,1],[2,3,4,5,6],[]] (by decide+kernel) mixed ?_)|(refine yac.intro (id:=14) ydb [[],[0],[],[],[0,1,2,3],[0,1,2,3,4],[0,1,2,3],[0,1,2,3],[],[]] (by decide+kernel) mixed ?_)|skip);simp only [go_sem,sevalprocAttr,List.length_range,↓reduceIte,reduceCtorEq,yda,ydb]|apply yab<;>(intro h_;(try simp only [h_]);revert h_)|apply And.intro|with_reducible intro h_|trivial|simp only [go_sem,la2];omega)
 ·refine ⟨_,_,_,?_,?_,⟨k+1,by omega,rfl,rfl,rfl⟩⟩
  ·omega
  ·have e:((List.range k).map (fun (i:Nat)=>(i:Int))++List.replicate (n-k) 0).set k k=(List.range (k+1)).map (fun (i:Nat)=>(i:Int))++List.replicate (n-(k+1)) 0:=by
    rw [List.set_append,if_neg (by simp),show n-k=(n-(k+1))+1 by omega,List.replicate_succ]
    simp [List.range_succ]
   rw [e]
   refine Wk.sub ?_ ?_<;>simp only [go_sem,sevalprocAttr]
 obtain rfl:k=n:=by omega
 refine yaj.intro (fun t fr H=> ∃q:Nat,q<=k/\t=k-q/\fr=[(6,I q),(4, .sl 1 0 0 k),(3,I k),(0,roI m)]/\H=[(0, .cells 3 (.ints (rlP m k q)))]) ?_ ?_
 ·refine ⟨_,_,_,?_,0,by omega,rfl,rfl,rfl⟩
  refine Wk.sub ?_ ?_<;>simp only [go_sem,sevalprocAttr]
  all_goals simp [rlP]
 rintro t fr H ⟨q,hq,rfl,rfl,rfl⟩
 have hpl:=ynn m k q
 by_cases hqk:q<k
 ·have bq:decide ((q:Int)<k)=true:=by simp;omega
  repeat' (first|omega|(first|apply yaa|(refine yac.intro (id:=13) yda [[],[],[0,1],[0,1,2],[0,1],[0,1],[0,1],[2,3,4,5,6],[]] (by decide+kernel) mixed ?_)|(refine yac.intro (id:=14) ydb [[],[0],[],[],[0,1,2,3],[0,1,2,3,4],[0,1,2,3],[0,1,2,3],[],[]] (by decide+kernel) mixed ?_)|skip);simp only [go_sem,sevalprocAttr,bq,↓reduceIte,reduceCtorEq,yda,ydb]|apply yab<;>(intro h_;(try simp only [h_]);revert h_)|apply And.intro|with_reducible intro h_|trivial|simp only [go_sem,la2];omega)
  refine yaj.intro (fun t fr H=> ∃h:Nat,h<=4*k/\t=4*k-h/\fr=[(7,I h),(6,I q),(4, .sl 1 0 0 k),(3,I k),(0,roI m)]/\H=[(0, .cells 3 (.ints (rlH m (rlP m k q) h)))]) ?_ ?_
  ·refine ⟨_,_,_,?_,0,by omega,rfl,rfl,rfl⟩
   refine Wk.sub ?_ ?_<;>simp only [go_sem,sevalprocAttr]
   all_goals simp [rlH]
  rintro t fr H ⟨h,hh,rfl,rfl,rfl⟩
  have hhl:(rlH m (rlP m k q) h).length=k:=by rw [ynm,hpl]
  by_cases hhk:h<4*k
  ·have bh:decide ((h:Int)<m.length)=true:=by simp;omega
   have hr:=hmr h hhk
   have e1:(h:Int).tdiv 4=((h/4:Nat):Int):=by rw [ybe (by omega)];omega
   have e2:(m.getD h 0).tdiv 4=((m.getD h 0/4).toNat:Int):=by rw [ybe (by omega)];omega
   have e3:(m.getD h 0/4).toNat<k:=by omega
   repeat' (first|omega|(first|apply yaa|(refine yac.intro (id:=13) yda [[],[],[0,1],[0,1,2],[0,1],[0,1],[0,1],[2,3,4,5,6],[]] (by decide+kernel) mixed ?_)|(refine yac.intro (id:=14) ydb [[],[0],[],[],[0,1,2,3],[0,1,2,3,4],[0,1,2,3],[0,1,2,3],[],[]] (by decide+kernel) mixed ?_)|skip);simp only [go_sem,sevalprocAttr,bh,e1,e2,↓reduceIte,reduceCtorEq,yda,ydb]|apply yab<;>(intro h_;(try simp only [h_]);revert h_)|apply And.intro|with_reducible intro h_|trivial|simp only [go_sem,la2];omega)
   refine ⟨_,_,_,?_,?_,⟨h+1,by omega,rfl,rfl,rfl⟩⟩
   ·omega
   ·have em: ∀a b:Int,(if b<a then b else a)=min a b:=fun a b=>by split<;>omega
    have eh:rlH m (rlP m k q) (h+1)=((rlH m (rlP m k q) h).set (h/4) (min ((rlH m (rlP m k q) h).getD (h/4) 0) ((rlH m (rlP m k q) h).getD (m.getD h 0/4).toNat 0))).set (m.getD h 0/4).toNat (min ((rlH m (rlP m k q) h).getD (h/4) 0) ((rlH m (rlP m k q) h).getD (m.getD h 0/4).toNat 0)):=rfl
    rw [eh]
    simp only [em]
    refine Wk.sub ?_ ?_<;>simp only [go_sem,sevalprocAttr]
  ·obtain rfl:h=4*k:=by omega
   have bh:decide (((4*k:Nat):Int)<m.length)=false:=by simp;omega
   repeat' (first|omega|(first|apply yaa|(refine yac.intro (id:=13) yda [[],[],[0,1],[0,1,2],[0,1],[0,1],[0,1],[2,3,4,5,6],[]] (by decide+kernel) mixed ?_)|(refine yac.intro (id:=14) ydb [[],[0],[],[],[0,1,2,3],[0,1,2,3,4],[0,1,2,3],[0,1,2,3],[],[]] (by decide+kernel) mixed ?_)|skip);simp only [go_sem,sevalprocAttr,bh,↓reduceIte,reduceCtorEq,yda,ydb]|apply yab<;>(intro h_;(try simp only [h_]);revert h_)|apply And.intro|with_reducible intro h_|trivial|simp only [go_sem,la2];omega)
   refine ⟨_,_,_,?_,?_,⟨q+1,by omega,rfl,rfl,rfl⟩⟩
   ·omega
   ·rw [show rlP m k (q+1)=rlH m (rlP m k q) (4*k) from rfl]
    refine Wk.sub ?_ ?_<;>simp only [go_sem,sevalprocAttr]
 ·obtain rfl:q=k:=by omega
  have bq:decide ((q:Int)<q)=false:=by simp
  repeat' (first|omega|(first|apply yaa|(refine yac.intro (id:=13) yda [[],[],[0,1],[0,1,2],[0,1],[0,1],[0,1],[2,3,4,5,6],[]] (by decide+kernel) mixed ?_)|(refine yac.intro (id:=14) ydb [[],[0],[],[],[0,1,2,3],[0,1,2,3,4],[0,1,2,3],[0,1,2,3],[],[]] (by decide+kernel) mixed ?_)|skip);simp only [go_sem,sevalprocAttr,bq,↓reduceIte,reduceCtorEq,yda,ydb]|apply yab<;>(intro h_;(try simp only [h_]);revert h_)|apply And.intro|with_reducible intro h_|trivial|simp only [go_sem,la2];omega)
  all_goals first
   |omega
   |exact List.take_of_length_le (by omega)
end Go.Proofs.YtbblgobamoabkaaGreatDoor
set_option linter.unusedSimpArgs false
set_option linter.unusedVariables false
namespace Go.Proofs.YtbblgobamoabkaaGreatDoor
open Go Go.RowKit
set_option maxRecDepth 100000
set_option maxHeartbeats 8000000
def lstR (orb:Nat->List Int) (p:Nat->Bool) (k:Nat):List (List Int):=((List.range k).filter p).map orb
theorem ymv {orb:Nat->List Int} {p:Nat->Bool} {k:Nat} (h:p k=true):lstR orb p (k+1)=lstR orb p k++[orb k]:=by simp [lstR,List.range_succ,List.filter_append,h]
theorem yhz {orb:Nat->List Int} {p:Nat->Bool} {k:Nat} (h:p k=false):lstR orb p (k+1)=lstR orb p k:=by simp [lstR,List.range_succ,List.filter_append,h]
theorem yff {x:Int} {l:List Int} {i:Nat} (h:i<l.length):ybc x (l.take (i+1))=(ybc x (l.take i)&&decide (x<=l.getD i 0)):=by
 unfold ybc
 rw [List.take_succ_eq_append_getElem h,List.all_append]
 simp [h]
theorem yjq (ls:List (List Int)) (l:List Int):ls.map roF++[AV.ro 1 l.length (.ints l)]=(ls++[l]).map roF:=by simp [roF]
theorem yq2 (nx:Int->Int) (x:Int): ∀f g,(orbG nx x f g).length<=f
 |0,_=>by simp [orbG]
 |f+1,g=>by
  unfold orbG
  split
  ·simp
  ·simp only [List.length_cons];have:=yq2 nx x f (nx g);omega
theorem yq3 (nx:Int->Int) (N:Nat) (x:Int):(orbF nx N x).length<=N+1:=by
 unfold orbF;simp only [List.length_cons];have:=yq2 nx x N (nx x);omega
theorem yyu (m:List Int) (n:Nat) (hn:n<=1000) (hml:m.length=4*n) (hm: ∀i,i<m.length->0<=m.getD i 0/\m.getD i 0<4*n):Fn Tryz.prog 36 [roI m] (roLL (lstR (fun h=>orbF (yag m) m.length h) (fl m) m.length)):=by
 refine Fn.introL [.tmp 2] Tryz.func36 rfl rfl (by decide) (by simp [Tryz.ntmps36]) ?_;rw [Tryz.ntmps36]
 repeat' (first|omega|(try apply yaa);simp only [go_sem,sevalprocAttr]|apply yab<;>(intro h_;(try simp only [h_]);revert h_)|apply And.intro|with_reducible intro h_|trivial|simp only [go_sem,la2];omega)
 refine yaj.intro (fun t fr H=> ∃h:Nat,h<=m.length/\t=m.length-h/\((lstR (fun h=>orbF (yag m) m.length h) (fl m) h=[]/\fr=[(4,I h),(3, .nils),(0,roI m)]/\H=[])\/
  (fr=[(4,I h),(3, .sl 1 1 0 (lstR (fun h=>orbF (yag m) m.length h) (fl m) h).length),(0,roI m)]/\H=[(1, .cells 22 (.lst ((lstR (fun h=>orbF (yag m) m.length h) (fl m) h).map roF)))]))) ?_ ?_
 ·refine ⟨_,_,_,?_,0,by omega,rfl, .inl ⟨rfl,rfl,rfl⟩⟩
  refine Wk.sub ?_ ?_<;>simp only [go_sem,sevalprocAttr]
 rintro t fr H ⟨h,hh,rfl,hcase⟩
 have hlen:(lstR (fun h=>orbF (yag m) m.length h) (fl m) h).length<=h:=by
  have:=List.length_filter_le (fl m) (List.range h)
  simp only [lstR,List.length_map];simp only [List.length_range] at this;exact this
 have hol:(orbF (yag m) m.length h).length<=m.length+1:=yq3 _ _ _
 rcases hcase with ⟨hnil,rfl,rfl⟩|⟨rfl,rfl⟩
 ·by_cases hlt:h<m.length
  ·have bh:decide ((h:Int)<m.length)=true:=by simp;omega
   have hF:=yq1 m n h hn hml hm hlt
   repeat' (first|omega|(try apply yaa);simp only [go_sem,sevalprocAttr,bh]|apply yab<;>(intro h_;(try simp only [h_]);revert h_)|apply And.intro|with_reducible intro h_|trivial|simp only [go_sem,la2];omega)
   refine ⟨yae.fn rfl hF ?_⟩
   repeat' (first|omega|(try apply yaa);simp only [go_sem,sevalprocAttr]|apply yab<;>(intro h_;(try simp only [h_]);revert h_)|apply And.intro|with_reducible intro h_|trivial|simp only [go_sem,la2];omega)
   refine yaj.intro (fun t fr H=> ∃i:Nat,i<=(orbF (yag m) m.length h).length/\t=(orbF (yag m) m.length h).length-i/\fr=[(7,I i),(6, .bool (ybc h ((orbF (yag m) m.length h).take i))),(5,roI (orbF (yag m) m.length h)),(4,I h),(3, .nils),(0,roI m)]/\H=[]) ?_ ?_
   ·refine ⟨_,_,_,?_,0,by omega,rfl,rfl,rfl⟩
    refine Wk.sub ?_ ?_<;>simp only [go_sem,sevalprocAttr]
    all_goals simp [ybc]
   rintro t fr H ⟨i,hi,rfl,rfl,rfl⟩
   by_cases hil:i<(orbF (yag m) m.length h).length
   ·have bi:decide ((i:Int)<(orbF (yag m) m.length h).length)=true:=by simp;omega
    have el:=yff (x:=h) hil
    cases hb:ybc h ((orbF (yag m) m.length h).take i) with
    |false=>
     rw [hb] at el
     repeat' (first|omega|(try apply yaa);simp only [go_sem,sevalprocAttr,bi]|apply yab<;>(intro h_;(try simp only [h_]);revert h_)|apply And.intro|with_reducible intro h_|trivial|simp only [go_sem,la2];omega)
     refine ⟨_,_,_,?_,?_,⟨i+1,by omega,rfl,rfl,rfl⟩⟩
     ·omega
     ·rw [el]
      refine Wk.sub ?_ ?_<;>simp only [go_sem,sevalprocAttr]
    |true=>
     rw [hb] at el
     repeat' (first|omega|(try apply yaa);simp only [go_sem,sevalprocAttr,bi]|apply yab<;>(intro h_;(try simp only [h_]);revert h_)|apply And.intro|with_reducible intro h_|trivial|simp only [go_sem,la2];omega)
     refine ⟨_,_,_,?_,?_,⟨i+1,by omega,rfl,rfl,rfl⟩⟩
     ·omega
     ·rw [el]
      refine Wk.sub ?_ ?_<;>simp only [go_sem,sevalprocAttr]
   ·obtain rfl:i=(orbF (yag m) m.length h).length:=by omega
    have bi:decide (((orbF (yag m) m.length h).length:Int)<(orbF (yag m) m.length h).length)=false:=by simp
    have ef:ybc h ((orbF (yag m) m.length h).take (orbF (yag m) m.length h).length)=fl m h:=by rw [List.take_length];rfl
    rw [ef]
    cases hb:fl m h with
    |false=>
     have eS:=yhz (orb:=fun h=>orbF (yag m) m.length h) hb
     repeat' (first|omega|(try apply yaa);simp only [go_sem,sevalprocAttr,bi]|apply yab<;>(intro h_;(try simp only [h_]);revert h_)|apply And.intro|with_reducible intro h_|trivial|simp only [go_sem,la2];omega)
     refine ⟨_,_,_,?_,?_,⟨h+1,by omega,rfl, .inl ⟨by rw [eS];exact hnil,rfl,rfl⟩⟩⟩
     ·omega
     ·first|rw [eS]|skip
      refine Wk.sub ?_ ?_<;>simp only [go_sem,sevalprocAttr]
    |true=>
     have eS:=ymv (orb:=fun h=>orbF (yag m) m.length h) hb
     repeat' (first|omega|(try apply yaa);simp only [go_sem,sevalprocAttr,bi,List.length_map]|apply yab<;>(intro h_;(try simp only [h_]);revert h_)|apply And.intro|with_reducible intro h_|trivial|simp only [go_sem,la2];omega)
     refine ⟨_,_,_,?_,?_,⟨h+1,by omega,rfl, .inr ⟨rfl,rfl⟩⟩⟩
     ·omega
     ·rw [eS]
      rw [hnil]
      refine Wk.sub ?_ ?_<;>simp only [go_sem,sevalprocAttr]
      all_goals first
       |rfl
       |exact ⟨rfl,rfl⟩
       |exact ⟨rfl,rfl,rfl⟩
  ·obtain rfl:h=m.length:=by omega
   have bh:decide ((m.length:Int)<m.length)=false:=by simp
   repeat' (first|omega|(try apply yaa);simp only [go_sem,sevalprocAttr,bh]|apply yab<;>(intro h_;(try simp only [h_]);revert h_)|apply And.intro|with_reducible intro h_|trivial|simp only [go_sem,la2];omega)
   all_goals first
    |(rw [hnil];exact LeA.nils (by omega) rfl)
    |exact yck _ _ _ _ h_
    |exact yck _ _ _ _ (List.mem_of_mem_take h_)
    |(rw [List.take_of_length_le (by simp)];exact LeA.refl _)
 ·by_cases hlt:h<m.length
  ·have bh:decide ((h:Int)<m.length)=true:=by simp;omega
   have hF:=yq1 m n h hn hml hm hlt
   repeat' (first|omega|(try apply yaa);simp only [go_sem,sevalprocAttr,bh]|apply yab<;>(intro h_;(try simp only [h_]);revert h_)|apply And.intro|with_reducible intro h_|trivial|simp only [go_sem,la2];omega)
   refine ⟨yae.fn rfl hF ?_⟩
   repeat' (first|omega|(try apply yaa);simp only [go_sem,sevalprocAttr]|apply yab<;>(intro h_;(try simp only [h_]);revert h_)|apply And.intro|with_reducible intro h_|trivial|simp only [go_sem,la2];omega)
   refine yaj.intro (fun t fr H=> ∃i:Nat,i<=(orbF (yag m) m.length h).length/\t=(orbF (yag m) m.length h).length-i/\fr=[(7,I i),(6, .bool (ybc h ((orbF (yag m) m.length h).take i))),(5,roI (orbF (yag m) m.length h)),(4,I h),(3, .sl 1 1 0 (lstR (fun h=>orbF (yag m) m.length h) (fl m) h).length),(0,roI m)]/\H=[(1, .cells 22 (.lst ((lstR (fun h=>orbF (yag m) m.length h) (fl m) h).map roF)))]) ?_ ?_
   ·refine ⟨_,_,_,?_,0,by omega,rfl,rfl,rfl⟩
    refine Wk.sub ?_ ?_<;>simp only [go_sem,sevalprocAttr]
    all_goals simp [ybc]
   rintro t fr H ⟨i,hi,rfl,rfl,rfl⟩
   by_cases hil:i<(orbF (yag m) m.length h).length
   ·have bi:decide ((i:Int)<(orbF (yag m) m.length h).length)=true:=by simp;omega
    have el:=yff (x:=h) hil
    cases hb:ybc h ((orbF (yag m) m.length h).take i) with
    |false=>
     rw [hb] at el
     repeat' (first|omega|(try apply yaa);simp only [go_sem,sevalprocAttr,bi]|apply yab<;>(intro h_;(try simp only [h_]);revert h_)|apply And.intro|with_reducible intro h_|trivial|simp only [go_sem,la2];omega)
     refine ⟨_,_,_,?_,?_,⟨i+1,by omega,rfl,rfl,rfl⟩⟩
     ·omega
     ·rw [el]
      refine Wk.sub ?_ ?_<;>simp only [go_sem,sevalprocAttr]
    |true=>
     rw [hb] at el
     repeat' (first|omega|(try apply yaa);simp only [go_sem,sevalprocAttr,bi]|apply yab<;>(intro h_;(try simp only [h_]);revert h_)|apply And.intro|with_reducible intro h_|trivial|simp only [go_sem,la2];omega)
     refine ⟨_,_,_,?_,?_,⟨i+1,by omega,rfl,rfl,rfl⟩⟩
     ·omega
     ·rw [el]
      refine Wk.sub ?_ ?_<;>simp only [go_sem,sevalprocAttr]
   ·obtain rfl:i=(orbF (yag m) m.length h).length:=by omega
    have bi:decide (((orbF (yag m) m.length h).length:Int)<(orbF (yag m) m.length h).length)=false:=by simp
    have ef:ybc h ((orbF (yag m) m.length h).take (orbF (yag m) m.length h).length)=fl m h:=by rw [List.take_length];rfl
    rw [ef]
    cases hb:fl m h with
    |false=>
     have eS:=yhz (orb:=fun h=>orbF (yag m) m.length h) hb
     repeat' (first|omega|(try apply yaa);simp only [go_sem,sevalprocAttr,bi]|apply yab<;>(intro h_;(try simp only [h_]);revert h_)|apply And.intro|with_reducible intro h_|trivial|simp only [go_sem,la2];omega)
     refine ⟨_,_,_,?_,?_,⟨h+1,by omega,rfl, .inr ⟨rfl,rfl⟩⟩⟩
     ·omega
     ·first|rw [eS]|skip
      refine Wk.sub ?_ ?_<;>simp only [go_sem,sevalprocAttr]
    |true=>
     have eS:=ymv (orb:=fun h=>orbF (yag m) m.length h) hb
     repeat' (first|omega|(try apply yaa);simp only [go_sem,sevalprocAttr,bi,List.length_map]|apply yab<;>(intro h_;(try simp only [h_]);revert h_)|apply And.intro|with_reducible intro h_|trivial|simp only [go_sem,la2];omega)
     refine ⟨_,_,_,?_,?_,⟨h+1,by omega,rfl, .inr ⟨rfl,rfl⟩⟩⟩
     ·omega
     ·rw [eS]
      rw [yjq]
      refine Wk.sub ?_ ?_<;>simp only [go_sem,sevalprocAttr]
      all_goals first
       |rfl
       |exact ⟨rfl,rfl⟩
       |exact ⟨rfl,rfl,rfl⟩
  ·obtain rfl:h=m.length:=by omega
   have bh:decide ((m.length:Int)<m.length)=false:=by simp
   repeat' (first|omega|(try apply yaa);simp only [go_sem,sevalprocAttr,bh]|apply yab<;>(intro h_;(try simp only [h_]);revert h_)|apply And.intro|with_reducible intro h_|trivial|simp only [go_sem,la2];omega)
   all_goals first
    |(rw [hnil];exact LeA.nils (by omega) rfl)
    |exact yck _ _ _ _ h_
    |exact yck _ _ _ _ (List.mem_of_mem_take h_)
    |(rw [List.take_of_length_le (by simp)];exact LeA.refl _)
end Go.Proofs.YtbblgobamoabkaaGreatDoor
set_option linter.unusedSimpArgs false
set_option linter.unusedVariables false
namespace Go.Proofs.YtbblgobamoabkaaGreatDoor
open Go Go.RowKit
set_option maxRecDepth 100000
set_option maxHeartbeats 8000000
theorem ymw (s m:List Int) (L:Int) (n h:Nat) (hn:n<=1000) (hml:m.length=4*n) (hm: ∀i,i<m.length->0<=m.getD i 0/\m.getD i 0<4*n) (hh:h<m.length):Fn Tryz.prog 102 [dgA s m L,I h] (roI (orbF (yah m) m.length h)):=by
 have hnx: ∀g:Nat,g<m.length->Fn Tryz.prog 116 [I (m.getD g 0),I 2] (I (yah m g)):=fun g hg=>by
  have:=hm g hg
  exact yq0 _ _ (by omega) (by omega)
 have hrg: ∀g:Nat,g<m.length->0<=yah m g/\yah m g<4*n:=fun g hg=>ydc (hm g hg).1 (hm g hg).2
 have hbig: ∀g:Nat,g<m.length->(g:Int)<m.length:=fun g hg=>by omega
 have hh':=hnx h hh
 refine Fn.intro [.tmp 4] Tryz.func102 rfl rfl (by decide) (by simp [Tryz.ntmps102]) ?_;rw [Tryz.ntmps102]
 repeat' (first|omega|(try apply yaa);simp only [go_sem,sevalprocAttr]|apply yab<;>(intro h_;(try simp only [h_]);revert h_)|apply And.intro|with_reducible intro h_|trivial|simp only [go_sem,la2];omega)
 refine ⟨yae.fn rfl hh' ?_⟩
 repeat' (first|omega|(try apply yaa);simp only [go_sem,sevalprocAttr]|apply yab<;>(intro h_;(try simp only [h_]);revert h_)|apply And.intro|with_reducible intro h_|trivial|simp only [go_sem,la2];omega)
 refine yaj.intro (fun k fr H=> ∃(acc:List Int) (g:Nat),g<m.length/\0<acc.length/\acc.length+k=m.length+2/\acc++orbG (yah m) h (m.length+1-acc.length) g=orbF (yah m) m.length h/\fr=[(6,I g),(5, .sl 1 1 0 acc.length),(2, .ptr 0 0),(1,I h)]/\H=[(1, .cells 3 (.ints acc)),(0, .cells 24 (.lst [roI s,roI m,I L]))]) ?_ ?_
 ·have h2:=hrg h hh
  refine ⟨m.length+1,_,_,?_,[(h:Int)],(yah m h).toNat,by omega,by simp,by simp;omega,?_,rfl,rfl⟩
  ·refine Wk.sub ?_ ?_<;>simp only [go_sem,sevalprocAttr]
   all_goals omega
  ·rw [Int.toNat_of_nonneg h2.1];simp [orbF]
 rintro k fr H ⟨acc,g,hg,ha,hk,hacc,rfl,rfl⟩
 have hg':=hnx g hg
 have hr:=hrg g hg
 have key:((g:Int)=h\/m.length<acc.length)->acc=orbF (yah m) m.length h:=fun hc=>by
  rw [←hacc]
  rcases hc with e|e
  ·have:orbG (yah m) h (m.length+1-acc.length) g=[]:=by
    cases m.length+1-acc.length with
    |zero=>rfl
    |succ f=>simp [orbG,e]
   rw [this,List.append_nil]
  ·rw [show m.length+1-acc.length=0 by omega];simp [orbG]
 repeat' (first|omega|(try apply yaa);simp only [go_sem,sevalprocAttr]|apply yab<;>(intro h_;(try simp only [h_]);revert h_)|apply And.intro|with_reducible intro h_|trivial|simp only [go_sem,la2];omega)
 ·refine ⟨yae.fn rfl hg' ?_⟩
  repeat' (first|omega|(try apply yaa);simp only [go_sem,sevalprocAttr]|apply yab<;>(intro h_;(try simp only [h_]);revert h_)|apply And.intro|with_reducible intro h_|trivial|simp only [go_sem,la2];omega)
  refine ⟨k-1,_,_,?_,?_,⟨acc++[(g:Int)],(yah m g).toNat,by omega,by simp,by simp;omega,?_,rfl,rfl⟩⟩
  ·omega
  ·refine Wk.sub ?_ ?_<;>simp only [go_sem,sevalprocAttr]
   all_goals omega
  ·rw [←hacc,Int.toNat_of_nonneg hr.1,show m.length+1-acc.length=(m.length+1-(acc++[(g:Int)]).length)+1 by simp;omega]
   rw [orbG,if_neg (by omega)];simp
 all_goals first
  |exact congrArg List.length (key (by omega))
  |(rw [List.take_length];exact key (by omega))
end Go.Proofs.YtbblgobamoabkaaGreatDoor
