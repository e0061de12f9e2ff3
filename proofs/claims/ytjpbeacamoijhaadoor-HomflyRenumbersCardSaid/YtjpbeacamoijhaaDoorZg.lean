/- Inlined calls: what is kept of the callers' slots. -/
import Derived.Test.YtjpbeacamoijhaaDoorZf
import Derived.Shelf.SlSortCmp.NoneTotal
import Derived.Test.YtjpbeacamoijhaaDoorProg
import Derived.Test.YtjpbeacamoijhaaDoorZa
import Derived.Test.YtjpbeacamoijhaaDoorZc
namespace Go.Proofs.YtjpbeacamoijhaaDoor
open Go Go.RowKit
set_option maxRecDepth 100000
set_option maxHeartbeats 8000000
set_option linter.unusedVariables false
set_option linter.unusedSimpArgs false
theorem Wk.app {F A fr:Fr} {H H':Hp} (hA:subF F H' A) (hH:subH H H' H') (hfr: ∀t,fget fr t= .any\/s3 H' (fget fr t)=true) (h2: ∀t,1000000<=t->fget F t=fget (lft fr) t) (hl:A.all (fun q=>decide (q.1<1000000))=true):Wk F H (A++lft fr) H':=by
 have hf: ∀t,fget (A++lft fr) t= .any\/(fget (A++lft fr) t=fget F t/\s3 H' (fget (A++lft fr) t)=true):=by
  intro t
  have key: ∀(A:Fr),subF F H' A->A.all (fun q=>decide (q.1<1000000))=true->fget (A++lft fr) t= .any\/(fget (A++lft fr) t=fget F t/\s3 H' (fget (A++lft fr) t)=true):=by
   intro A
   induction A with
   |nil=>
    intro _ _
    rw [List.nil_append]
    rcases Nat.lt_or_ge t 1000000 with h|h
    ·left;rw [ygt,if_neg (by omega)]
    ·have e:=h2 t h
     rw [←e]
     rw [ygt,if_pos h] at e
     rcases hfr (t-1000000) with g|g
     ·left;rw [e];exact g
     ·right;exact ⟨rfl,by rw [e];exact g⟩
   |cons q A ih=>
    intro h1 h3
    obtain ⟨t',x⟩:=q
    obtain ⟨g1,g2,g3⟩:=h1
    simp only [List.all_cons,Bool.and_eq_true] at h3
    rw [List.cons_append]
    simp only [fget]
    split
    ·rename_i e;subst e;right;exact ⟨g1.symm,g2⟩
    ·exact ih g3 h3.2
  exact key A hA hl
 intro B w0 Mx N w ρ a hs
 refine ⟨ρ,(hs.weaken (fun id o ho=>(yfi hH id o ho).1) (fun t=>(hf t).imp id (·.1)) (fun id o ho M hr=>?_) (fun t M v hv=>?_))⟩
 ·have hso:=(yfi hH id o ho).2
  cases o with
  |gone=>trivial
  |cells t c=>
   obtain ⟨k1,arr,k2,k3,k4⟩:=hr
   refine ⟨k1,arr,k2,k3,fun j hj=>?_⟩
   obtain ⟨u,hu,hv⟩:=k4 j hj
   refine ⟨u,hu,?_⟩
   cases c with
   |ints l=>exact hv.pure1 rfl
   |bools l=>exact hv.pure1 rfl
   |lst l=>
    simp only [Cs.len] at hj
    simp only [Cs.get,List.getD_eq_getElem?_getD,List.getElem?_eq_getElem hj,Option.getD_some] at hv⊢
    exact hv.sc3 (List.all_eq_true.1 hso _ (List.getElem_mem hj))
  |gmap t ck l=>
   obtain ⟨es,k1,k2,k3⟩:=hr
   exact ⟨es,k1,k2,fun j e q he hl=>let ⟨g1,g2,g3⟩:=k3 j e q he hl;⟨g1,g2,g3.sc3 (List.all_eq_true.1 hso q (List.mem_of_getElem? hl))⟩⟩
  |iter mid s sn la=>
   obtain ⟨_,k2,k3⟩:=hr
   exact ⟨Option.isSome_iff_exists.1 hso,k2,k3⟩
  |imap t l=>
   obtain ⟨k0,es,ck,k1,k2,k3⟩:=hr
   exact ⟨k0,es,ck,k1,k2,fun j e k x he hl=>let ⟨g1,g2,g3⟩:=k3 j e k x he hl;⟨g1,g2.sc3 (List.all_eq_true.1 hso (k,x) (List.mem_of_getElem? hl)),g3⟩⟩
  |fmap t c=>exact hr
 ·rcases hf t with e|⟨_,e⟩
  ·rw [e];exact .any _
  ·exact hv.sc3 e
theorem ysb: ∀fr:Fr,unl (lft fr)=fr
 |[]=>rfl
 |(s,x)::r=>by simp [lft,unl,ysb r]
attribute [go_sem] ysb
theorem Wk.appC {F A fr:Fr} {H H' ok:Hp} (hfr:fr.all (fun q=>s3 ok q.2)=true) (hA:subF F H' A) (hH:subH H H' H') (hok: ∀i,(hget ok i).isSome=true->(hget H' i).isSome=true) (h2: ∀t,1000000<=t->fget F t=fget (lft fr) t) (hl:A.all (fun q=>decide (q.1<1000000))=true):Wk F H (A++lft fr) H':=
 Wk.app hA hH (fun t=>(y73 hfr t).imp id (y56 hok _)) h2 hl
end Go.Proofs.YtjpbeacamoijhaaDoor
namespace Go.Proofs.YtjpbeacamoijhaaDoor
open Go Go.RowKit
set_option maxRecDepth 100000
set_option maxHeartbeats 8000000
set_option linter.unusedVariables false
set_option linter.unusedSimpArgs false
def yh5:List (List Nat):=[[20,21,22,23,24,25,26,27,28],[19,21,22,23,24,25,26,27,28],[19,20,22,24,25,26,27],[19,20,21,24,25,26,27],[19,20,24,25,26,27],[19,20,21,22,23,25,26],[19,20,21,22,23,24],[19,20,21,22,23,24],[19,20,21,22,23],[19,20],[]]
def yh6:List (List Nat):=[[],[0],[0,1],[0,1,2],[0,1],[0,1,2,3,4],[0,1,2,3,4,5],[0,1,2,3,4,5],[0,1,2,3,4],[0,1],[]]
abbrev suT:Nat:=81+1000000000
abbrev suH (m:SumM) (p q:List (Int×Int)):Hp:=[(4, .cells 81 (.lst [.mp 3])),(3, .gmap suT m.length (gmL 0 m)),(2, .cells 33 (.lst [.bool false, .nils])),(1, .cells 33 (.lst [.bool false,bvT q])),(0, .cells 33 (.lst [.bool false,bvT p]))]
def suO:Hp:=[(4, .gone),(3, .gone),(2, .gone),(1, .gone),(0, .gone)]
theorem y8g {H:Hp} (h: ∀i,i<5->(hget H i).isSome=true): ∀i,(hget suO i).isSome=true->(hget H i).isSome=true:=fun i hi=>by
 by_cases h5:i<5
 ·exact h i h5
 ·simp only [suO,hget] at hi
  repeat rw [if_neg (by omega)] at hi
  cases hi
theorem ysc (m:SumM) (p q:List (Int×Int)): ∀i,(hget suO i).isSome=true->(hget (suH m p q) i).isSome=true:=y8g fun i hi=>by
 rcases (show i=0\/i=1\/i=2\/i=3\/i=4 by omega) with rfl|rfl|rfl|rfl|rfl<;>rfl
theorem ysd (c:Int) (hc:c=1\/c= -1) (P p q:List (Int×Int)) (hP:P.length<=100000) (hb: ∀t∈P,-1125899906842624<=t.2/\t.2<=1125899906842624) (m:SumM) (j:Nat) (hm:MOk m j) (hj:j<=1000000) {fr:Fr} (hfr:fr.all (fun q=>s3 suO q.2)=true) {K:AV->Fr->Hp->Prop}
  (hK:K (.tup []) fr (suH (mAdd c 0 m P) p q)):yck Tryd.prog 46 [bvT P,I c, .ptr 4 0] fr (suH m p q) K:=by
 have hc3:=ybt P
 refine yck.intro [] Tryd.func46 rfl rfl (by decide) (by simp [Tryd.ntmps46]) ?_;rw [Tryd.ntmps46]
 repeat' (first|omega|(try apply yaa);simp only [go_sem,sevalprocAttr,hc3]|apply yab<;>(intro h_;(try simp only [h_]);revert h_)|apply And.intro|with_reducible intro h_|trivial|simp only [go_sem,la2];omega)
 refine yat.intro (fun n fr' H=> ∃k:Nat,k<=P.length/\n=P.length-k/\fr'=[(10,I k),(9,I P.length),(8,bvT P),(2, .ptr 4 0),(1,I c)]++lft fr/\H=suH (mAdd c 0 m (P.take k)) p q) ?_ ?_
 ·refine ⟨_,_,_,?_,0,by omega,rfl,rfl,rfl⟩
  refine Wk.appC (A:=[(10,I ((0:Nat):Int)),(9,I P.length),(8,bvT P),(2, .ptr 4 0),(1,I c)]) hfr ?_ ?_ (ysc _ _ _) (fun t ht=>?_) rfl
  ·simp only [go_sem,sevalprocAttr,yap]
  ·simp only [go_sem,sevalprocAttr,yap,↓ycz,List.take_zero,mAdd]
  ·simp only [fget]
   repeat rw [if_neg (by omega)]
 rintro n fr' H ⟨k,hk,rfl,rfl,rfl⟩
 by_cases hkl:k<P.length
 ·have bk:decide ((k:Int)<P.length)=true:=by simp;omega
  obtain ⟨g0,g1,g2⟩:=ye4 P k hkl
  have ht:=hb (P.getD k (0,0)) (by rw [List.getD_eq_getElem?_getD,List.getElem?_eq_getElem hkl];exact List.getElem_mem _)
  have et:P.take (k+1)=P.take k++[P.getD k (0,0)]:=by rw [List.take_succ_eq_append_getElem hkl];simp [hkl]
  have em:mAdd c 0 m (P.take (k+1))=mPut (mAdd c 0 m (P.take k)) (P.getD k (0,0)).1 (c*(P.getD k (0,0)).2):=by rw [et,yjz,Int.zero_add]
  have hM:MOk (mAdd c 0 m (P.take k)) (j+k):=by
   have:=hm.add (c:=c) (d:=0) (p:=P.take k) (fun t ht=>by have:=hb t (List.mem_of_mem_take ht);rcases hc with rfl|rfl<;>omega)
   rwa [List.length_take,Nat.min_eq_left hk] at this
  generalize hmk:mAdd c 0 m (P.take k)=mk at*
  generalize hmk1:mAdd c 0 m (P.take (k+1))=mk1 at*
  generalize P.getD k (0,0)=t at*
  have hcv: -1125899906842624<=c*t.2/\c*t.2<=1125899906842624:=by rcases hc with rfl|rfl<;>omega
  cases hf:yfd mk t.1 with
  |none=>
   obtain ⟨f1,f2,f3⟩:=yl9 (c*t.2) 0 hf
   have hp:=ygi 0 0 (c*t.2) (by omega) (by omega) (by unfold InI;omega)
   repeat' (first|omega|(first|apply yaa|(refine yaf.introL (id:=4) yh5 yh6 (by decide+kernel) mixed ?_)|(refine yaf.intro (id:=4) yh5 yh6 (by decide+kernel) mixed ?_)|skip);simp only [go_sem,sevalprocAttr,bk,hc3,g0,g1,g2,↓ycz,f1,f2,f3,↓reduceIte,reduceCtorEq,yh5,yh6]|(refine ⟨yad.fn (r:=?_) rfl ?_ ?_⟩;rotate_left;assumption)|(refine ⟨yan.fn (r:=?_) rfl ?_ ?_⟩;rotate_left;assumption)|apply yab<;>(intro h_;(try simp only [h_]);revert h_)|apply And.intro|with_reducible intro h_|trivial|simp only [go_sem,la2];omega)
   any_goals exact yg3 _ _ _
   refine ⟨_,_,_,?_,?_,k+1,by omega,rfl,rfl,rfl⟩
   ·omega
   ·refine Wk.appC (A:=[(10,I ((k+1:Nat):Int)),(9,I P.length),(8,bvT P),(2, .ptr 4 0),(1,I c)]) hfr ?_ ?_ (ysc _ _ _) (fun t ht=>?_) rfl
    ·simp only [go_sem,sevalprocAttr,yap]
    ·rw [hmk1,em]
     simp only [go_sem,sevalprocAttr,yap,↓ycz,f3]
     all_goals first|exact yg3 _ _ _|(rw [Nat.zero_add] at f2;exact congrArg (AObj.gmap suT _) f2)
    ·simp only [fget]
     repeat rw [if_neg (by omega)]
  |some hl=>
   obtain ⟨h,l⟩:=hl
   obtain ⟨b,f1,f2,f3⟩:=yl8 (c*t.2) 0 hf
   have hB:(-((j+k:Nat)*67108864:Int)<=h/\h<=(j+k:Nat)*67108864)/\0<=l/\l<=(j+k:Nat)*33554432:=hM.bn _ (yjy hf)
   have hp:=ygi h l (c*t.2) (by omega) (by omega) (by unfold InI;omega)
   repeat' (first|omega|(first|apply yaa|(refine yaf.introL (id:=4) yh5 yh6 (by decide+kernel) mixed ?_)|(refine yaf.intro (id:=4) yh5 yh6 (by decide+kernel) mixed ?_)|skip);simp only [go_sem,sevalprocAttr,bk,hc3,g0,g1,g2,↓ycz,f1,f2,f3,↓reduceIte,reduceCtorEq,yh5,yh6]|(refine ⟨yad.fn (r:=?_) rfl ?_ ?_⟩;rotate_left;assumption)|(refine ⟨yan.fn (r:=?_) rfl ?_ ?_⟩;rotate_left;assumption)|apply yab<;>(intro h_;(try simp only [h_]);revert h_)|apply And.intro|with_reducible intro h_|trivial|simp only [go_sem,la2];omega)
   any_goals exact yg3 _ _ _
   refine ⟨_,_,_,?_,?_,k+1,by omega,rfl,rfl,rfl⟩
   ·omega
   ·refine Wk.appC (A:=[(10,I ((k+1:Nat):Int)),(9,I P.length),(8,bvT P),(2, .ptr 4 0),(1,I c)]) hfr ?_ ?_ (ysc _ _ _) (fun t ht=>?_) rfl
    ·simp only [go_sem,sevalprocAttr,yap]
    ·rw [hmk1,em]
     simp only [go_sem,sevalprocAttr,yap,↓ycz,f3]
     all_goals exact yg3 _ _ _
    ·simp only [fget]
     repeat rw [if_neg (by omega)]
 ·obtain rfl:k=P.length:=by omega
  have bk:decide ((P.length:Int)<P.length)=false:=by simp
  rw [List.take_length]
  repeat' (first|omega|(try apply yaa);simp only [go_sem,sevalprocAttr,bk]|apply yab<;>(intro h_;(try simp only [h_]);revert h_)|apply And.intro|with_reducible intro h_|trivial|simp only [go_sem,la2];omega)
  all_goals exact hK
end Go.Proofs.YtjpbeacamoijhaaDoor
set_option linter.unusedSimpArgs false
set_option linter.unusedVariables false
namespace Go.Proofs.YtjpbeacamoijhaaDoor
open Go Go.RowKit
set_option maxRecDepth 100000
def y6l:Go.Shelf.Ren:=⟨fun|6=>60|14=>71|15=>72|20=>79|21=>80|22=>81|23=>82|24=>83|25=>84|26=>85|27=>86|28=>87|29=>88|46=>93|47=>94|48=>95|49=>96|50=>97|57=>100|n=>n,fun|0=>0|3=>3|4=>4|5=>5|9=>9|22=>31|24=>56|25=>100|39=>96|45=>116|46=>117|50=>88|53=>123|55=>110|66=>127|70=>131|76=>133|77=>134|n=>n,fun n=>n⟩
theorem y27:SlLaysF0.n6 Tryd.prog y6l:={
 mixed:=by kernel_rfl
 f6:=⟨"slices.SortFunc[[]unravel/bivariate.term,unravel/bivariate.term]",by decide,Tryd.func60.trans (congrArg some (by kernel_rfl))⟩
 f14:=⟨"slices.pdqsortCmpFunc[unravel/bivariate.term]",by decide,Tryd.func71.trans (congrArg some (by kernel_rfl))⟩
 f15:=Tryd.func72.trans (congrArg some (by kernel_rfl))
 f20:=⟨"slices.insertionSortCmpFunc[unravel/bivariate.term]",by decide,Tryd.func79.trans (congrArg some (by kernel_rfl))⟩
 f21:=⟨"slices.heapSortCmpFunc[unravel/bivariate.term]",by decide,Tryd.func80.trans (congrArg some (by kernel_rfl))⟩
 f22:=⟨"slices.breakPatternsCmpFunc[unravel/bivariate.term]",by decide,Tryd.func81.trans (congrArg some (by kernel_rfl))⟩
 f23:=⟨"slices.choosePivotCmpFunc[unravel/bivariate.term]",by decide,Tryd.func82.trans (congrArg some (by kernel_rfl))⟩
 f24:=⟨"slices.reverseRangeCmpFunc[unravel/bivariate.term]",by decide,Tryd.func83.trans (congrArg some (by kernel_rfl))⟩
 f25:=⟨"slices.partialInsertionSortCmpFunc[unravel/bivariate.term]",by decide,Tryd.func84.trans (congrArg some (by kernel_rfl))⟩
 f26:=⟨"slices.partitionEqualCmpFunc[unravel/bivariate.term]",by decide,Tryd.func85.trans (congrArg some (by kernel_rfl))⟩
 f27:=⟨"slices.partitionCmpFunc[unravel/bivariate.term]",by decide,Tryd.func86.trans (congrArg some (by kernel_rfl))⟩
 f28:=Tryd.func87.trans (congrArg some (by kernel_rfl))
 f29:=Tryd.func88.trans (congrArg some (by kernel_rfl))
 f46:=⟨"slices.siftDownCmpFunc[unravel/bivariate.term]",by decide,Tryd.func93.trans (congrArg some (by kernel_rfl))⟩
 f47:=Tryd.func94.trans (congrArg some (by kernel_rfl))
 f48:=Tryd.func95.trans (congrArg some (by kernel_rfl))
 f49:=⟨"slices.medianAdjacentCmpFunc[unravel/bivariate.term]",by decide,Tryd.func96.trans (congrArg some (by kernel_rfl))⟩
 f50:=⟨"slices.medianCmpFunc[unravel/bivariate.term]",by decide,Tryd.func97.trans (congrArg some (by kernel_rfl))⟩
 f57:=⟨"slices.order2CmpFunc[unravel/bivariate.term]",by decide,Tryd.func100.trans (congrArg some (by kernel_rfl))⟩
 t0:=Tryd.underlying0
 a0:=Tryd.isAgg0
 z0:=Tryd.sizeOf0
 v0:=Tryd.zeroValue0
 t3:=Tryd.underlying3
 a3:=Tryd.isAgg3
 z3:=Tryd.sizeOf3
 v3:=Tryd.zeroValue3
 t4:=Tryd.underlying4
 a4:=Tryd.isAgg4
 z4:=Tryd.sizeOf4
 v4:=Tryd.zeroValue4
 t5:=Tryd.underlying5
 a5:=Tryd.isAgg5
 z5:=Tryd.sizeOf5
 v5:=Tryd.zeroValue5
 t9:=Tryd.underlying9
 a9:=Tryd.isAgg9
 z9:=Tryd.sizeOf9
 v9:=Tryd.zeroValue9
 t22:=Tryd.underlying31
 a22:=Tryd.isAgg31
 z22:=Tryd.sizeOf31
 v22:=Tryd.zeroValue31
 t25:=Tryd.underlying100
 a25:=Tryd.isAgg100
 z25:=Tryd.sizeOf100
 v25:=Tryd.zeroValue100
 t39:=Tryd.underlying96
 a39:=Tryd.isAgg96
 z39:=Tryd.sizeOf96
 v39:=Tryd.zeroValue96
 t45:=Tryd.underlying116
 a45:=Tryd.isAgg116
 z45:=Tryd.sizeOf116
 v45:=Tryd.zeroValue116
 t46:=Tryd.underlying117
 a46:=Tryd.isAgg117
 z46:=Tryd.sizeOf117
 v46:=Tryd.zeroValue117
 t50:=Tryd.underlying88
 a50:=Tryd.isAgg88
 z50:=Tryd.sizeOf88
 v50:=Tryd.zeroValue88
 t53:=Tryd.underlying123
 a53:=Tryd.isAgg123
 z53:=Tryd.sizeOf123
 v53:=Tryd.zeroValue123
 t55:=Tryd.underlying110
 a55:=Tryd.isAgg110
 z55:=Tryd.sizeOf110
 v55:=Tryd.zeroValue110
 t66:=Tryd.underlying127
 a66:=Tryd.isAgg127
 z66:=Tryd.sizeOf127
 v66:=Tryd.zeroValue127
 t70:=Tryd.underlying131
 a70:=Tryd.isAgg131
 z70:=Tryd.sizeOf131
 v70:=Tryd.zeroValue131
 t76:=Tryd.underlying133
 a76:=Tryd.isAgg133
 z76:=Tryd.sizeOf133
 v76:=Tryd.zeroValue133
 t77:=Tryd.underlying134
 a77:=Tryd.isAgg134
 z77:=Tryd.sizeOf134
 v77:=Tryd.zeroValue134}
end Go.Proofs.YtjpbeacamoijhaaDoor
namespace Go.Proofs.YtjpbeacamoijhaaDoor
open Go Go.RowKit
set_option maxRecDepth 100000
set_option maxHeartbeats 4000000
set_option linter.unusedVariables false
set_option linter.unusedSimpArgs false
def encT (t:Int×Int):List Value:=[.int .i64 (bvA t.1), .int .i64 (bvZ t.1), .int .i64 t.2]
def cfT (x y:Int×Int):Int:=if cmpZ (bvA x.1) (bvA y.1)≠0 then cmpZ (bvA x.1) (bvA y.1) else cmpZ (bvZ x.1) (bvZ y.1)
theorem ynj (x y:Int×Int):ltOf cfT x y=decide (x.1<y.1):=by
 unfold ltOf
 rw [decide_eq_decide,y36 x.1 y.1]
 unfold cfT cmpZ
 generalize bvA x.1=a
 generalize bvA y.1=a'
 generalize bvZ x.1=z
 generalize bvZ y.1=z'
 by_cases h1:a<a'
 ·simp [h1]
 ·by_cases h2:a'<a
  ·simp [h1,h2];omega
  ·obtain rfl:a=a':=by omega
   by_cases h3:z<z'
   ·simp [h3]
   ·by_cases h4:z'<z<;>simp [h3,h4]
theorem swoT:Sort.SWO (ltOf cfT) where
 irrefl x:=by rw [ynj];simp
 trans x y z h1 h2:=by rw [ynj] at*;simp at*;omega
 ntrans x y z h1 h2:=by rw [ynj] at*;simp at*;omega
theorem yog: ∀(p:List (Int×Int)) (j:Nat),j<3*p.length-> ∃n:Int,(encT (p.getD (j/3) (0,0)))[j % 3]! = .int .i64 n/\(bvC p).getD j .any=I n
 |[],j,h=>by simp at h
 |t::p,0,_=>⟨bvA t.1,rfl,rfl⟩
 |t::p,1,_=>⟨bvZ t.1,rfl,rfl⟩
 |t::p,2,_=>⟨t.2,rfl,rfl⟩
 |t::p,j+3,h=>by
  obtain ⟨n,h1,h2⟩:=yog p j (by simp only [List.length_cons] at h;omega)
  refine ⟨n,?_,?_⟩
  ·rw [show (j+3)/3=j/3+1 by omega,show (j+3)% 3=j % 3 by omega,List.getD_cons_succ];exact h1
  ·simp only [bvC]
   rw [show j+3=j+1+1+1 by omega]
   simp only [List.getD_cons_succ];exact h2
theorem ycm: ∀{H:Hp} {i:Nat} {o:AObj},hget H i=some o->hset H i o=H
 |[],_,_,h=>by cases h
 |(j,u)::H,i,o,h=>by
  simp only [hget] at h
  simp only [hset]
  by_cases e:j=i
  ·rw [if_pos e] at h⊢;cases h;rw [e]
  ·rw [if_neg e] at h⊢;rw [ycm h]
section
variable {ρr:Go.Shelf.Ren}
theorem ywt (L:SlLaysF0.n6 Tryd.prog ρr) (hF:FnOk Tryd.prog (ρr.f 6)) (aE: ∀w,(isAgg (ρr.t 24)).run Tryd.prog w= .ok true w) (zE: ∀w,(Go.sizeOf (ρr.t 24)).run Tryd.prog w= .ok 3 w) {G:Nat}
  (eg: ∀args w,(callFunc G args).run Tryd.prog w= .ok (.enter G args) w)
  (hcmp: ∀(x y:Int×Int) (W:World),Calls Tryd.prog G #[.agg (encT x).toArray, .agg (encT y).toArray] W fun e w'=>e= .returned (.int .i64 (cfT x y))/\ ∃q os',w'=Sort.grow (W.drewN q) os')
  {id T:Nat} {q:List (Int×Int)} {fr:Fr} {H:Hp} {K:AV->Fr->Hp->Prop} (hid:hget H id=some (.cells T (.lst (bvC q)))) (hq:q.length<=1000000)
  (hK: ∀r:List (Int×Int),r.Perm q->r.Pairwise (fun a b=>a.1<=b.1)->K (.tup []) fr (hset H id (.cells T (.lst (bvC r))))):yck Tryd.prog (ρr.f 6) [.sl 3 id 0 q.length, .fn G []] fr H K:=by
 refine ⟨.inr fun B w0 Mx N w ρ a hs vs hvl hv=>⟨hF,?_⟩⟩
 match vs,hvl,hv with
 |[u0,u1],_,hv=>
  have v0:=hv 0 u0 _ rfl rfl
  have v1:=hv 1 u1 _ rfl rfl
  obtain ⟨vs1,rfl,hl1,_⟩:=v1.fn_inv
  obtain rfl:vs1=[]:=List.eq_nil_of_length_eq_zero hl1
  cases v0 with
  |sl es id' off len cap hdd hc arr t ad ha hb hr=>
   obtain ⟨hsp,arr0,h2,h3,h4⟩:=hs.objs id _ hid
   simp only [Cs.len,ybt] at h3 h4
   by_cases h0:q.length=0
   ·obtain rfl:q=[]:=List.eq_nil_of_length_eq_zero h0
    refine (AnyF.slices_SortFunc_none L (some ad) cap _ w).mono ?_
    rintro e w' ⟨rfl,rfl⟩
    have hk:=hK [] (.refl _) .nil
    rw [ycm hid] at hk
    exact ⟨_, .tup [],ρ,fr,H,rfl,hk,hs, .tup [] [] rfl fun i v x hv=>by simp at hv⟩
   ·have hc0:0<cap:=by omega
    have e0:=ha hc0
    rw [show (ρ id).add 0=ρ id from rfl] at e0
    obtain ⟨ead⟩:ad=⟨(ρ id).block,(ρ id).off,none⟩:=by rw [e0];cases hr':ρ id with|mk b o s=>rw [hr'] at hsp;simp at hsp;rw [hsp]
    rw [h2] at hb
    obtain ⟨rfl,rfl⟩:arr0=arr/\T=t:=by cases hb;exact ⟨rfl,rfl⟩
    have hcell: ∀j,j<3*q.length->arr0[(ρ id).off+j]?=some (encT (q.getD (j/3) (0,0)))[j % 3]! :=fun j hj=>by
     obtain ⟨n,n1,n2⟩:=yog q j hj
     obtain ⟨u,g1,g2⟩:=h4 j hj
     have g3:VR w (MM Mx H ρ) ρ (DD H) u (I n):=by
      have:(Cs.lst (bvC q)).get j=I n:=n2
      rw [←this];exact g2
     rw [g1,n1,g3.int_inv]
    have hH:Sort.HoldsK encT 3 w (ρ id).block (ρ id).off q.toArray:=by
     intro j hj
     rw [Sort.size_flatK,List.size_toArray] at hj
     rw [Sort.get_flatK _ _ _ _ (by simpa using hj)]
     have hc:=hcell j (by omega)
     have hlt:(ρ id).off+j<arr0.size:=(Array.getElem?_eq_some_iff.1 hc).1
     have e1:q.toArray[j/3]! =q.getD (j/3) (0,0):=by
      have hj3:j/3<q.length:=by omega
      simp [List.getD_eq_getElem?_getD,hj3]
     rw [e1]
     refine ⟨?_,by simp [World.frozen?,h2]⟩
     simp only [World.cell?,h2,_root_.id]
     simpa using hc
    refine (AnyQ.slices_SortFunc L 3 aE zE encT (fun _=>rfl) (fun x v hv=>by simp [encT] at hv;rcases hv with rfl|rfl|rfl<;>rfl) cfT swoT G #[] (ρ id).block (ρ id).off cap q.toArray w eg (fun m os dk _ x y=>by simpa using hcmp x y _) hH (yar h2) (by simp;omega)).mono ?_
    rintro e w' ⟨rfl,d',n,os,⟨p1,p2,p3⟩,so,rfl⟩
    have hd:d'.size=q.length:=by simpa using p1
    have hperm:d'.toList.Perm q:=by
     have h5:d'.extract 0 q.toArray.size=d':=by rw [←p1];simp
     have h6:q.toArray.extract 0 q.toArray.size=q.toArray:=by simp
     rw [h5,h6] at p3
     simpa using p3
    have hpw:d'.toList.Pairwise fun a b=>a.1<=b.1:=by
     rw [List.pairwise_iff_getElem]
     intro i j hi hj hij
     have hi':i<d'.size:=by simpa using hi
     have hj':j<d'.size:=by simpa using hj
     have:=so i j (Nat.zero_le _) hij (by simpa using (show j<q.length by omega))
     rw [ynj,getElem!_pos d' i hi',getElem!_pos d' j hj',decide_eq_false_iff_not] at this
     simp only [Array.getElem_toList]
     omega
    have hs1:Sim B w0 Mx N (Sort.putRowK encT 3 w (ρ id).block (ρ id).off d') ρ fr (hset H id (.cells T (.lst (bvC d'.toList)))) a:=by
     have hb1:(Sort.putRowK encT 3 w (ρ id).block (ρ id).off d').heap[(ρ id).block]?=some (.cells (Sort.putCells _root_.id (ρ id).off (Sort.flatK encT 3 d') arr0) T (0,0)):=by
      simp [Sort.putRowK,Sort.putRow,Sort.mapBlock,Array.getElem?_modify,h2,Sort.onCells]
     refine hs.change hid h2 hb1 (by simp [Sort.putCells]) (by simp [Sort.putRowK,Sort.putRow,Sort.mapBlock]) rfl rfl rfl (fun k hk=>by simp [Sort.putRowK,Sort.putRow,Sort.mapBlock,Array.getElem?_modify,Ne.symm hk]) (by simp [Sort.putCells,Cs.len,ybt,hd];omega) fun j hj=>?_
     simp only [Cs.len,ybt,Array.length_toList] at hj
     obtain ⟨n,n1,n2⟩:=yog d'.toList j (by simpa using hj)
     have hlt:(ρ id).off+j<arr0.size:=by omega
     refine ⟨.int .i64 n,?_,by show VR _ _ _ _ _ ((bvC d'.toList).getD j .any);rw [n2];exact .int _ _⟩
     have e1:d'[j/3]! =d'.toList.getD (j/3) (0,0):=by
      have hj3:j/3<d'.size:=by omega
      simp [List.getD_eq_getElem?_getD,hj3]
     simp only [Sort.putCells,Array.getElem?_mapIdx,Array.getElem?_eq_getElem hlt,Option.map_some]
     rw [if_pos ⟨by omega,by rw [Sort.size_flatK];omega⟩,show (ρ id).off+j-(ρ id).off=j by omega,Sort.get_flatK _ _ _ _ (by omega),e1,n1];rfl
    refine ⟨_, .tup [],ρ,fr,_,rfl,hK _ hperm hpw,hs1.later ?_, .tup [] [] rfl fun i v x hv=>by simp at hv⟩
    refine ⟨rfl,rfl,rfl,?_,fun k hk=>?_⟩
    ·simp [sortWorldK,Sort.grow,Sort.putRowK,Sort.putRow,Sort.mapBlock,Sort.ahead]
    ·simp only [sortWorldK,Sort.grow]
     rw [Array.getElem?_append_left (by simpa [Sort.putRowK,Sort.putRow,Sort.mapBlock,Sort.ahead] using hk)]
     simp [Sort.putRowK,Sort.putRow,Sort.mapBlock,Sort.ahead]
end
end Go.Proofs.YtjpbeacamoijhaaDoor
