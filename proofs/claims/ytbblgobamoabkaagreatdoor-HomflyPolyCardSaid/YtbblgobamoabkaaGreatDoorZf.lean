/- Inlined calls: what is kept of the callers' slots. -/
import Derived.Test.YtbblgobamoabkaaGreatDoorZe
import Derived.Shelf.SlSortCmp.NoneTotal
import Derived.Test.YtbblgobamoabkaaGreatDoorProg
import Derived.Test.YtbblgobamoabkaaGreatDoorZb
import Derived.Test.YtbblgobamoabkaaGreatDoorZc
namespace Go.Proofs.YtbblgobamoabkaaGreatDoor
open Go Go.RowKit
set_option maxRecDepth 100000
set_option maxHeartbeats 8000000
set_option linter.unusedVariables false
set_option linter.unusedSimpArgs false
theorem Wk.app {F A fr:Fr} {H H':Hp} (hA:subF F H' A) (hH:subH H H' H') (hfr: ∀t,fget fr t= .any\/s3 H' (fget fr t)=true) (h2: ∀t,1000000<=t->fget F t=fget (lft fr) t) (hl:A.all (fun q=>decide (q.1<1000000))=true):Wk F H (A++lft fr) H':=by
 have hf: ∀t,fget (A++lft fr) t= .any\/(fget (A++lft fr) t=fget F t/\s3 H' (fget (A++lft fr) t)=true):=by
  intro t
  have key: ∀(A:Fr),subF F H' A->A.all (fun q=>decide (q.1<1000000))=true->fget (A++lft fr) t= .any\/(fget (A++lft fr) t=fget F t/\s3 H' (fget (A++lft fr) t)=true):=by
   intro A
   induction A with
   |nil=>
    intro _ _
    rw [List.nil_append]
    rcases Nat.lt_or_ge t 1000000 with h|h
    ·left;rw [ygk,if_neg (by omega)]
    ·have e:=h2 t h
     rw [←e]
     rw [ygk,if_pos h] at e
     rcases hfr (t-1000000) with g|g
     ·left;rw [e];exact g
     ·right;exact ⟨rfl,by rw [e];exact g⟩
   |cons q A ih=>
    intro h1 h3
    obtain ⟨t',x⟩:=q
    obtain ⟨g1,g2,g3⟩:=h1
    simp only [List.all_cons,Bool.and_eq_true] at h3
    rw [List.cons_append]
    simp only [fget]
    split
    ·rename_i e;subst e;right;exact ⟨g1.symm,g2⟩
    ·exact ih g3 h3.2
  exact key A hA hl
 intro B w0 Mx N w ρ a hs
 refine ⟨ρ,(hs.weaken (fun id o ho=>(yex hH id o ho).1) (fun t=>(hf t).imp id (·.1)) (fun id o ho M hr=>?_) (fun t M v hv=>?_))⟩
 ·have hso:=(yex hH id o ho).2
  cases o with
  |gone=>trivial
  |cells t c=>
   obtain ⟨k1,arr,k2,k3,k4⟩:=hr
   refine ⟨k1,arr,k2,k3,fun j hj=>?_⟩
   obtain ⟨u,hu,hv⟩:=k4 j hj
   refine ⟨u,hu,?_⟩
   cases c with
   |ints l=>exact hv.pure1 rfl
   |bools l=>exact hv.pure1 rfl
   |lst l=>
    simp only [Cs.len] at hj
    simp only [Cs.get,List.getD_eq_getElem?_getD,List.getElem?_eq_getElem hj,Option.getD_some] at hv⊢
    exact hv.sc3 (List.all_eq_true.1 hso _ (List.getElem_mem hj))
  |gmap t ck l=>
   obtain ⟨es,k1,k2,k3⟩:=hr
   exact ⟨es,k1,k2,fun j e q he hl=>let ⟨g1,g2,g3⟩:=k3 j e q he hl;⟨g1,g2,g3.sc3 (List.all_eq_true.1 hso q (List.mem_of_getElem? hl))⟩⟩
  |iter mid s sn la=>
   obtain ⟨_,k2,k3⟩:=hr
   exact ⟨Option.isSome_iff_exists.1 hso,k2,k3⟩
  |imap t l=>
   obtain ⟨k0,es,ck,k1,k2,k3⟩:=hr
   exact ⟨k0,es,ck,k1,k2,fun j e k x he hl=>let ⟨g1,g2,g3⟩:=k3 j e k x he hl;⟨g1,g2.sc3 (List.all_eq_true.1 hso (k,x) (List.mem_of_getElem? hl)),g3⟩⟩
  |fmap t c=>exact hr
 ·rcases hf t with e|⟨_,e⟩
  ·rw [e];exact .any _
  ·exact hv.sc3 e
theorem yqb: ∀fr:Fr,unl (lft fr)=fr
 |[]=>rfl
 |(s,x)::r=>by simp [lft,unl,yqb r]
attribute [go_sem] yqb
theorem Wk.appC {F A fr:Fr} {H H' ok:Hp} (hfr:fr.all (fun q=>s3 ok q.2)=true) (hA:subF F H' A) (hH:subH H H' H') (hok: ∀i,(hget ok i).isSome=true->(hget H' i).isSome=true) (h2: ∀t,1000000<=t->fget F t=fget (lft fr) t) (hl:A.all (fun q=>decide (q.1<1000000))=true):Wk F H (A++lft fr) H':=
 Wk.app hA hH (fun t=>(y5g hfr t).imp id (y3x hok _)) h2 hl
end Go.Proofs.YtbblgobamoabkaaGreatDoor
namespace Go.Proofs.YtbblgobamoabkaaGreatDoor
open Go Go.RowKit
set_option maxRecDepth 100000
set_option maxHeartbeats 8000000
set_option linter.unusedVariables false
set_option linter.unusedSimpArgs false
def yhr:List (List Nat):=[[20,21,22,23,24,25,26,27,28],[19,21,22,23,24,25,26,27,28],[19,20,22,24,25,26,27],[19,20,21,24,25,26,27],[19,20,24,25,26,27],[19,20,21,22,23,25,26],[19,20,21,22,23,24],[19,20,21,22,23,24],[19,20,21,22,23],[19,20],[]]
def yhs:List (List Nat):=[[],[0],[0,1],[0,1,2],[0,1],[0,1,2,3,4],[0,1,2,3,4,5],[0,1,2,3,4,5],[0,1,2,3,4],[0,1],[]]
abbrev suT:Nat:=116+1000000000
abbrev suH (m:SumM) (p q:List (Int×Int)):Hp:=[(4, .cells 116 (.lst [.mp 3])),(3, .gmap suT m.length (gmL 0 m)),(2, .cells 29 (.lst [.bool false, .nils])),(1, .cells 29 (.lst [.bool false,bvT q])),(0, .cells 29 (.lst [.bool false,bvT p]))]
def suO:Hp:=[(4, .gone),(3, .gone),(2, .gone),(1, .gone),(0, .gone)]
theorem y5h {H:Hp} (h: ∀i,i<5->(hget H i).isSome=true): ∀i,(hget suO i).isSome=true->(hget H i).isSome=true:=fun i hi=>by
 by_cases h5:i<5
 ·exact h i h5
 ·simp only [suO,hget] at hi
  repeat rw [if_neg (by omega)] at hi
  cases hi
theorem yqc (m:SumM) (p q:List (Int×Int)): ∀i,(hget suO i).isSome=true->(hget (suH m p q) i).isSome=true:=y5h fun i hi=>by
 rcases (show i=0\/i=1\/i=2\/i=3\/i=4 by omega) with rfl|rfl|rfl|rfl|rfl<;>rfl
theorem yqd (c:Int) (hc:c=1\/c= -1) (P p q:List (Int×Int)) (hP:P.length<=100000) (hb: ∀t∈P,-1125899906842624<=t.2/\t.2<=1125899906842624) (m:SumM) (j:Nat) (hm:MOk m j) (hj:j<=1000000) {fr:Fr} (hfr:fr.all (fun q=>s3 suO q.2)=true) {K:AV->Fr->Hp->Prop}
  (hK:K (.tup []) fr (suH (mAdd c 0 m P) p q)):ych Tryz.prog 80 [bvT P,I c, .ptr 4 0] fr (suH m p q) K:=by
 have hc3:=yal P
 refine ych.intro [] Tryz.func80 rfl rfl (by decide) (by simp [Tryz.ntmps80]) ?_;rw [Tryz.ntmps80]
 repeat' (first|omega|(try apply yaa);simp only [go_sem,sevalprocAttr,hc3]|apply yab<;>(intro h_;(try simp only [h_]);revert h_)|apply And.intro|with_reducible intro h_|trivial|simp only [go_sem,la2];omega)
 refine yaj.intro (fun n fr' H=> ∃k:Nat,k<=P.length/\n=P.length-k/\fr'=[(10,I k),(9,I P.length),(8,bvT P),(2, .ptr 4 0),(1,I c)]++lft fr/\H=suH (mAdd c 0 m (P.take k)) p q) ?_ ?_
 ·refine ⟨_,_,_,?_,0,by omega,rfl,rfl,rfl⟩
  refine Wk.appC (A:=[(10,I ((0:Nat):Int)),(9,I P.length),(8,bvT P),(2, .ptr 4 0),(1,I c)]) hfr ?_ ?_ (yqc _ _ _) (fun t ht=>?_) rfl
  ·simp only [go_sem,sevalprocAttr,yad]
  ·simp only [go_sem,sevalprocAttr,yad,↓ycu,List.take_zero,mAdd]
  ·simp only [fget]
   repeat rw [if_neg (by omega)]
 rintro n fr' H ⟨k,hk,rfl,rfl,rfl⟩
 by_cases hkl:k<P.length
 ·have bk:decide ((k:Int)<P.length)=true:=by simp;omega
  obtain ⟨g0,g1,g2⟩:=ybs P k hkl
  have ht:=hb (P.getD k (0,0)) (by rw [List.getD_eq_getElem?_getD,List.getElem?_eq_getElem hkl];exact List.getElem_mem _)
  have et:P.take (k+1)=P.take k++[P.getD k (0,0)]:=by rw [List.take_succ_eq_append_getElem hkl];simp [hkl]
  have em:mAdd c 0 m (P.take (k+1))=mPut (mAdd c 0 m (P.take k)) (P.getD k (0,0)).1 (c*(P.getD k (0,0)).2):=by rw [et,yjl,Int.zero_add]
  have hM:MOk (mAdd c 0 m (P.take k)) (j+k):=by
   have:=hm.add (c:=c) (d:=0) (p:=P.take k) (fun t ht=>by have:=hb t (List.mem_of_mem_take ht);rcases hc with rfl|rfl<;>omega)
   rwa [List.length_take,Nat.min_eq_left hk] at this
  generalize hmk:mAdd c 0 m (P.take k)=mk at*
  generalize hmk1:mAdd c 0 m (P.take (k+1))=mk1 at*
  generalize P.getD k (0,0)=t at*
  have hcv: -1125899906842624<=c*t.2/\c*t.2<=1125899906842624:=by rcases hc with rfl|rfl<;>omega
  cases hf:yer mk t.1 with
  |none=>
   obtain ⟨f1,f2,f3⟩:=ylk (c*t.2) 0 hf
   have hp:=yf3 0 0 (c*t.2) (by omega) (by omega) (by unfold InI;omega)
   repeat' (first|omega|(first|apply yaa|(refine yac.introL (id:=4) yhr yhs (by decide+kernel) mixed ?_)|(refine yac.intro (id:=4) yhr yhs (by decide+kernel) mixed ?_)|skip);simp only [go_sem,sevalprocAttr,bk,hc3,g0,g1,g2,↓ycu,f1,f2,f3,↓reduceIte,reduceCtorEq,yhr,yhs]|(refine ⟨yae.fn (r:=?_) rfl ?_ ?_⟩;rotate_left;assumption)|(refine ⟨yai.fn (r:=?_) rfl ?_ ?_⟩;rotate_left;assumption)|apply yab<;>(intro h_;(try simp only [h_]);revert h_)|apply And.intro|with_reducible intro h_|trivial|simp only [go_sem,la2];omega)
   any_goals exact ygt _ _ _
   refine ⟨_,_,_,?_,?_,k+1,by omega,rfl,rfl,rfl⟩
   ·omega
   ·refine Wk.appC (A:=[(10,I ((k+1:Nat):Int)),(9,I P.length),(8,bvT P),(2, .ptr 4 0),(1,I c)]) hfr ?_ ?_ (yqc _ _ _) (fun t ht=>?_) rfl
    ·simp only [go_sem,sevalprocAttr,yad]
    ·rw [hmk1,em]
     simp only [go_sem,sevalprocAttr,yad,↓ycu,f3]
     all_goals first|exact ygt _ _ _|(rw [Nat.zero_add] at f2;exact congrArg (AObj.gmap suT _) f2)
    ·simp only [fget]
     repeat rw [if_neg (by omega)]
  |some hl=>
   obtain ⟨h,l⟩:=hl
   obtain ⟨b,f1,f2,f3⟩:=ylj (c*t.2) 0 hf
   have hB:(-((j+k:Nat)*67108864:Int)<=h/\h<=(j+k:Nat)*67108864)/\0<=l/\l<=(j+k:Nat)*33554432:=hM.bn _ (yjk hf)
   have hp:=yf3 h l (c*t.2) (by omega) (by omega) (by unfold InI;omega)
   repeat' (first|omega|(first|apply yaa|(refine yac.introL (id:=4) yhr yhs (by decide+kernel) mixed ?_)|(refine yac.intro (id:=4) yhr yhs (by decide+kernel) mixed ?_)|skip);simp only [go_sem,sevalprocAttr,bk,hc3,g0,g1,g2,↓ycu,f1,f2,f3,↓reduceIte,reduceCtorEq,yhr,yhs]|(refine ⟨yae.fn (r:=?_) rfl ?_ ?_⟩;rotate_left;assumption)|(refine ⟨yai.fn (r:=?_) rfl ?_ ?_⟩;rotate_left;assumption)|apply yab<;>(intro h_;(try simp only [h_]);revert h_)|apply And.intro|with_reducible intro h_|trivial|simp only [go_sem,la2];omega)
   any_goals exact ygt _ _ _
   refine ⟨_,_,_,?_,?_,k+1,by omega,rfl,rfl,rfl⟩
   ·omega
   ·refine Wk.appC (A:=[(10,I ((k+1:Nat):Int)),(9,I P.length),(8,bvT P),(2, .ptr 4 0),(1,I c)]) hfr ?_ ?_ (yqc _ _ _) (fun t ht=>?_) rfl
    ·simp only [go_sem,sevalprocAttr,yad]
    ·rw [hmk1,em]
     simp only [go_sem,sevalprocAttr,yad,↓ycu,f3]
     all_goals exact ygt _ _ _
    ·simp only [fget]
     repeat rw [if_neg (by omega)]
 ·obtain rfl:k=P.length:=by omega
  have bk:decide ((P.length:Int)<P.length)=false:=by simp
  rw [List.take_length]
  repeat' (first|omega|(try apply yaa);simp only [go_sem,sevalprocAttr,bk]|apply yab<;>(intro h_;(try simp only [h_]);revert h_)|apply And.intro|with_reducible intro h_|trivial|simp only [go_sem,la2];omega)
  all_goals exact hK
end Go.Proofs.YtbblgobamoabkaaGreatDoor
set_option linter.unusedSimpArgs false
set_option linter.unusedVariables false
namespace Go.Proofs.YtbblgobamoabkaaGreatDoor
open Go Go.RowKit
set_option maxRecDepth 100000
def y3y:Go.Shelf.Ren:=⟨fun|6=>123|14=>150|15=>151|20=>165|21=>166|22=>167|23=>168|24=>169|25=>170|26=>171|27=>172|28=>173|29=>161|46=>178|47=>179|48=>180|49=>181|50=>182|57=>192|n=>n,fun|0=>0|3=>3|4=>4|5=>5|9=>9|22=>27|24=>66|25=>158|39=>155|45=>191|46=>192|50=>104|53=>188|55=>129|66=>200|70=>204|76=>213|77=>214|n=>n,fun n=>n⟩
theorem y07:SlLaysF0.n6 Tryz.prog y3y:={
 mixed:=by kernel_rfl
 f6:=⟨"slices.SortFunc[[]unravel/bivariate.term,unravel/bivariate.term]",by decide,Tryz.func123.trans (congrArg some (by kernel_rfl))⟩
 f14:=⟨"slices.pdqsortCmpFunc[unravel/bivariate.term]",by decide,Tryz.func150.trans (congrArg some (by kernel_rfl))⟩
 f15:=Tryz.func151.trans (congrArg some (by kernel_rfl))
 f20:=⟨"slices.insertionSortCmpFunc[unravel/bivariate.term]",by decide,Tryz.func165.trans (congrArg some (by kernel_rfl))⟩
 f21:=⟨"slices.heapSortCmpFunc[unravel/bivariate.term]",by decide,Tryz.func166.trans (congrArg some (by kernel_rfl))⟩
 f22:=⟨"slices.breakPatternsCmpFunc[unravel/bivariate.term]",by decide,Tryz.func167.trans (congrArg some (by kernel_rfl))⟩
 f23:=⟨"slices.choosePivotCmpFunc[unravel/bivariate.term]",by decide,Tryz.func168.trans (congrArg some (by kernel_rfl))⟩
 f24:=⟨"slices.reverseRangeCmpFunc[unravel/bivariate.term]",by decide,Tryz.func169.trans (congrArg some (by kernel_rfl))⟩
 f25:=⟨"slices.partialInsertionSortCmpFunc[unravel/bivariate.term]",by decide,Tryz.func170.trans (congrArg some (by kernel_rfl))⟩
 f26:=⟨"slices.partitionEqualCmpFunc[unravel/bivariate.term]",by decide,Tryz.func171.trans (congrArg some (by kernel_rfl))⟩
 f27:=⟨"slices.partitionCmpFunc[unravel/bivariate.term]",by decide,Tryz.func172.trans (congrArg some (by kernel_rfl))⟩
 f28:=Tryz.func173.trans (congrArg some (by kernel_rfl))
 f29:=Tryz.func161.trans (congrArg some (by kernel_rfl))
 f46:=⟨"slices.siftDownCmpFunc[unravel/bivariate.term]",by decide,Tryz.func178.trans (congrArg some (by kernel_rfl))⟩
 f47:=Tryz.func179.trans (congrArg some (by kernel_rfl))
 f48:=Tryz.func180.trans (congrArg some (by kernel_rfl))
 f49:=⟨"slices.medianAdjacentCmpFunc[unravel/bivariate.term]",by decide,Tryz.func181.trans (congrArg some (by kernel_rfl))⟩
 f50:=⟨"slices.medianCmpFunc[unravel/bivariate.term]",by decide,Tryz.func182.trans (congrArg some (by kernel_rfl))⟩
 f57:=⟨"slices.order2CmpFunc[unravel/bivariate.term]",by decide,Tryz.func192.trans (congrArg some (by kernel_rfl))⟩
 t0:=Tryz.underlying0
 a0:=Tryz.isAgg0
 z0:=Tryz.sizeOf0
 v0:=Tryz.zeroValue0
 t3:=Tryz.underlying3
 a3:=Tryz.isAgg3
 z3:=Tryz.sizeOf3
 v3:=Tryz.zeroValue3
 t4:=Tryz.underlying4
 a4:=Tryz.isAgg4
 z4:=Tryz.sizeOf4
 v4:=Tryz.zeroValue4
 t5:=Tryz.underlying5
 a5:=Tryz.isAgg5
 z5:=Tryz.sizeOf5
 v5:=Tryz.zeroValue5
 t9:=Tryz.underlying9
 a9:=Tryz.isAgg9
 z9:=Tryz.sizeOf9
 v9:=Tryz.zeroValue9
 t22:=Tryz.underlying27
 a22:=Tryz.isAgg27
 z22:=Tryz.sizeOf27
 v22:=Tryz.zeroValue27
 t25:=Tryz.underlying158
 a25:=Tryz.isAgg158
 z25:=Tryz.sizeOf158
 v25:=Tryz.zeroValue158
 t39:=Tryz.underlying155
 a39:=Tryz.isAgg155
 z39:=Tryz.sizeOf155
 v39:=Tryz.zeroValue155
 t45:=Tryz.underlying191
 a45:=Tryz.isAgg191
 z45:=Tryz.sizeOf191
 v45:=Tryz.zeroValue191
 t46:=Tryz.underlying192
 a46:=Tryz.isAgg192
 z46:=Tryz.sizeOf192
 v46:=Tryz.zeroValue192
 t50:=Tryz.underlying104
 a50:=Tryz.isAgg104
 z50:=Tryz.sizeOf104
 v50:=Tryz.zeroValue104
 t53:=Tryz.underlying188
 a53:=Tryz.isAgg188
 z53:=Tryz.sizeOf188
 v53:=Tryz.zeroValue188
 t55:=Tryz.underlying129
 a55:=Tryz.isAgg129
 z55:=Tryz.sizeOf129
 v55:=Tryz.zeroValue129
 t66:=Tryz.underlying200
 a66:=Tryz.isAgg200
 z66:=Tryz.sizeOf200
 v66:=Tryz.zeroValue200
 t70:=Tryz.underlying204
 a70:=Tryz.isAgg204
 z70:=Tryz.sizeOf204
 v70:=Tryz.zeroValue204
 t76:=Tryz.underlying213
 a76:=Tryz.isAgg213
 z76:=Tryz.sizeOf213
 v76:=Tryz.zeroValue213
 t77:=Tryz.underlying214
 a77:=Tryz.isAgg214
 z77:=Tryz.sizeOf214
 v77:=Tryz.zeroValue214}
end Go.Proofs.YtbblgobamoabkaaGreatDoor
namespace Go.Proofs.YtbblgobamoabkaaGreatDoor
open Go Go.RowKit
set_option maxRecDepth 100000
set_option maxHeartbeats 4000000
set_option linter.unusedVariables false
set_option linter.unusedSimpArgs false
def encT (t:Int×Int):List Value:=[.int .i64 (bvA t.1), .int .i64 (bvZ t.1), .int .i64 t.2]
def cfT (x y:Int×Int):Int:=if cmpZ (bvA x.1) (bvA y.1)≠0 then cmpZ (bvA x.1) (bvA y.1) else cmpZ (bvZ x.1) (bvZ y.1)
theorem ymi (x y:Int×Int):ltOf cfT x y=decide (x.1<y.1):=by
 unfold ltOf
 rw [decide_eq_decide,ymh x.1 y.1]
 unfold cfT cmpZ
 generalize bvA x.1=a
 generalize bvA y.1=a'
 generalize bvZ x.1=z
 generalize bvZ y.1=z'
 by_cases h1:a<a'
 ·simp [h1]
 ·by_cases h2:a'<a
  ·simp [h1,h2];omega
  ·obtain rfl:a=a':=by omega
   by_cases h3:z<z'
   ·simp [h3]
   ·by_cases h4:z'<z<;>simp [h3,h4]
theorem swoT:Sort.SWO (ltOf cfT) where
 irrefl x:=by rw [ymi];simp
 trans x y z h1 h2:=by rw [ymi] at*;simp at*;omega
 ntrans x y z h1 h2:=by rw [ymi] at*;simp at*;omega
theorem ynf: ∀(p:List (Int×Int)) (j:Nat),j<3*p.length-> ∃n:Int,(encT (p.getD (j/3) (0,0)))[j % 3]! = .int .i64 n/\(bvC p).getD j .any=I n
 |[],j,h=>by simp at h
 |t::p,0,_=>⟨bvA t.1,rfl,rfl⟩
 |t::p,1,_=>⟨bvZ t.1,rfl,rfl⟩
 |t::p,2,_=>⟨t.2,rfl,rfl⟩
 |t::p,j+3,h=>by
  obtain ⟨n,h1,h2⟩:=ynf p j (by simp only [List.length_cons] at h;omega)
  refine ⟨n,?_,?_⟩
  ·rw [show (j+3)/3=j/3+1 by omega,show (j+3)% 3=j % 3 by omega,List.getD_cons_succ];exact h1
  ·simp only [bvC]
   rw [show j+3=j+1+1+1 by omega]
   simp only [List.getD_cons_succ];exact h2
theorem yci: ∀{H:Hp} {i:Nat} {o:AObj},hget H i=some o->hset H i o=H
 |[],_,_,h=>by cases h
 |(j,u)::H,i,o,h=>by
  simp only [hget] at h
  simp only [hset]
  by_cases e:j=i
  ·rw [if_pos e] at h⊢;cases h;rw [e]
  ·rw [if_neg e] at h⊢;rw [yci h]
section
variable {ρr:Go.Shelf.Ren}
theorem yu1 (L:SlLaysF0.n6 Tryz.prog ρr) (hF:FnOk Tryz.prog (ρr.f 6)) (aE: ∀w,(isAgg (ρr.t 24)).run Tryz.prog w= .ok true w) (zE: ∀w,(Go.sizeOf (ρr.t 24)).run Tryz.prog w= .ok 3 w) {G:Nat}
  (eg: ∀args w,(callFunc G args).run Tryz.prog w= .ok (.enter G args) w)
  (hcmp: ∀(x y:Int×Int) (W:World),Calls Tryz.prog G #[.agg (encT x).toArray, .agg (encT y).toArray] W fun e w'=>e= .returned (.int .i64 (cfT x y))/\ ∃q os',w'=Sort.grow (W.drewN q) os')
  {id T:Nat} {q:List (Int×Int)} {fr:Fr} {H:Hp} {K:AV->Fr->Hp->Prop} (hid:hget H id=some (.cells T (.lst (bvC q)))) (hq:q.length<=1000000)
  (hK: ∀r:List (Int×Int),r.Perm q->r.Pairwise (fun a b=>a.1<=b.1)->K (.tup []) fr (hset H id (.cells T (.lst (bvC r))))):ych Tryz.prog (ρr.f 6) [.sl 3 id 0 q.length, .fn G []] fr H K:=by
 refine ⟨.inr fun B w0 Mx N w ρ a hs vs hvl hv=>⟨hF,?_⟩⟩
 match vs,hvl,hv with
 |[u0,u1],_,hv=>
  have v0:=hv 0 u0 _ rfl rfl
  have v1:=hv 1 u1 _ rfl rfl
  obtain ⟨vs1,rfl,hl1,_⟩:=v1.fn_inv
  obtain rfl:vs1=[]:=List.eq_nil_of_length_eq_zero hl1
  cases v0 with
  |sl es id' off len cap hdd hc arr t ad ha hb hr=>
   obtain ⟨hsp,arr0,h2,h3,h4⟩:=hs.objs id _ hid
   simp only [Cs.len,yal] at h3 h4
   by_cases h0:q.length=0
   ·obtain rfl:q=[]:=List.eq_nil_of_length_eq_zero h0
    refine (AnyF.slices_SortFunc_none L (some ad) cap _ w).mono ?_
    rintro e w' ⟨rfl,rfl⟩
    have hk:=hK [] (.refl _) .nil
    rw [yci hid] at hk
    exact ⟨_, .tup [],ρ,fr,H,rfl,hk,hs, .tup [] [] rfl fun i v x hv=>by simp at hv⟩
   ·have hc0:0<cap:=by omega
    have e0:=ha hc0
    rw [show (ρ id).add 0=ρ id from rfl] at e0
    obtain ⟨ead⟩:ad=⟨(ρ id).block,(ρ id).off,none⟩:=by rw [e0];cases hr':ρ id with|mk b o s=>rw [hr'] at hsp;simp at hsp;rw [hsp]
    rw [h2] at hb
    obtain ⟨rfl,rfl⟩:arr0=arr/\T=t:=by cases hb;exact ⟨rfl,rfl⟩
    have hcell: ∀j,j<3*q.length->arr0[(ρ id).off+j]?=some (encT (q.getD (j/3) (0,0)))[j % 3]! :=fun j hj=>by
     obtain ⟨n,n1,n2⟩:=ynf q j hj
     obtain ⟨u,g1,g2⟩:=h4 j hj
     have g3:VR w (MM Mx H ρ) ρ (DD H) u (I n):=by
      have:(Cs.lst (bvC q)).get j=I n:=n2
      rw [←this];exact g2
     rw [g1,n1,g3.int_inv]
    have hH:Sort.HoldsK encT 3 w (ρ id).block (ρ id).off q.toArray:=by
     intro j hj
     rw [Sort.size_flatK,List.size_toArray] at hj
     rw [Sort.get_flatK _ _ _ _ (by simpa using hj)]
     have hc:=hcell j (by omega)
     have hlt:(ρ id).off+j<arr0.size:=(Array.getElem?_eq_some_iff.1 hc).1
     have e1:q.toArray[j/3]! =q.getD (j/3) (0,0):=by
      have hj3:j/3<q.length:=by omega
      simp [List.getD_eq_getElem?_getD,hj3]
     rw [e1]
     refine ⟨?_,by simp [World.frozen?,h2]⟩
     simp only [World.cell?,h2,_root_.id]
     simpa using hc
    refine (AnyQ.slices_SortFunc L 3 aE zE encT (fun _=>rfl) (fun x v hv=>by simp [encT] at hv;rcases hv with rfl|rfl|rfl<;>rfl) cfT swoT G #[] (ρ id).block (ρ id).off cap q.toArray w eg (fun m os dk _ x y=>by simpa using hcmp x y _) hH (yan h2) (by simp;omega)).mono ?_
    rintro e w' ⟨rfl,d',n,os,⟨p1,p2,p3⟩,so,rfl⟩
    have hd:d'.size=q.length:=by simpa using p1
    have hperm:d'.toList.Perm q:=by
     have h5:d'.extract 0 q.toArray.size=d':=by rw [←p1];simp
     have h6:q.toArray.extract 0 q.toArray.size=q.toArray:=by simp
     rw [h5,h6] at p3
     simpa using p3
    have hpw:d'.toList.Pairwise fun a b=>a.1<=b.1:=by
     rw [List.pairwise_iff_getElem]
     intro i j hi hj hij
     have hi':i<d'.size:=by simpa using hi
     have hj':j<d'.size:=by simpa using hj
     have:=so i j (Nat.zero_le _) hij (by simpa using (show j<q.length by omega))
     rw [ymi,getElem!_pos d' i hi',getElem!_pos d' j hj',decide_eq_false_iff_not] at this
     simp only [Array.getElem_toList]
     omega
    have hs1:Sim B w0 Mx N (Sort.putRowK encT 3 w (ρ id).block (ρ id).off d') ρ fr (hset H id (.cells T (.lst (bvC d'.toList)))) a:=by
     have hb1:(Sort.putRowK encT 3 w (ρ id).block (ρ id).off d').heap[(ρ id).block]?=some (.cells (Sort.putCells _root_.id (ρ id).off (Sort.flatK encT 3 d') arr0) T (0,0)):=by
      simp [Sort.putRowK,Sort.putRow,Sort.mapBlock,Array.getElem?_modify,h2,Sort.onCells]
     refine hs.change hid h2 hb1 (by simp [Sort.putCells]) (by simp [Sort.putRowK,Sort.putRow,Sort.mapBlock]) rfl rfl rfl (fun k hk=>by simp [Sort.putRowK,Sort.putRow,Sort.mapBlock,Array.getElem?_modify,Ne.symm hk]) (by simp [Sort.putCells,Cs.len,yal,hd];omega) fun j hj=>?_
     simp only [Cs.len,yal,Array.length_toList] at hj
     obtain ⟨n,n1,n2⟩:=ynf d'.toList j (by simpa using hj)
     have hlt:(ρ id).off+j<arr0.size:=by omega
     refine ⟨.int .i64 n,?_,by show VR _ _ _ _ _ ((bvC d'.toList).getD j .any);rw [n2];exact .int _ _⟩
     have e1:d'[j/3]! =d'.toList.getD (j/3) (0,0):=by
      have hj3:j/3<d'.size:=by omega
      simp [List.getD_eq_getElem?_getD,hj3]
     simp only [Sort.putCells,Array.getElem?_mapIdx,Array.getElem?_eq_getElem hlt,Option.map_some]
     rw [if_pos ⟨by omega,by rw [Sort.size_flatK];omega⟩,show (ρ id).off+j-(ρ id).off=j by omega,Sort.get_flatK _ _ _ _ (by omega),e1,n1];rfl
    refine ⟨_, .tup [],ρ,fr,_,rfl,hK _ hperm hpw,hs1.later ?_, .tup [] [] rfl fun i v x hv=>by simp at hv⟩
    refine ⟨rfl,rfl,rfl,?_,fun k hk=>?_⟩
    ·simp [sortWorldK,Sort.grow,Sort.putRowK,Sort.putRow,Sort.mapBlock,Sort.ahead]
    ·simp only [sortWorldK,Sort.grow]
     rw [Array.getElem?_append_left (by simpa [Sort.putRowK,Sort.putRow,Sort.mapBlock,Sort.ahead] using hk)]
     simp [Sort.putRowK,Sort.putRow,Sort.mapBlock,Sort.ahead]
end
end Go.Proofs.YtbblgobamoabkaaGreatDoor
