/- Inlined calls: what is kept of the callers' slots. -/
import Derived.Test.YtjpbeacamoijhaaGreatDoorZb
import Derived.Shelf.SlSortCmp.NoneTotal
import Derived.Test.YtjpbeacamoijhaaGreatDoorProg
import Derived.Test.YtjpbeacamoijhaaGreatDoorZa
import Derived.StillTailTactics
namespace Go.Proofs.YtjpbeacamoijhaaGreatDoor
open Go Go.RowKit
set_option maxRecDepth 100000
set_option maxHeartbeats 8000000
set_option linter.unusedVariables false
set_option linter.unusedSimpArgs false
theorem Wk.app {F A fr:Fr} {H H':Hp} (hA:subF F H' A) (hH:subH H H' H') (pP: ∀t,fget fr t= .any\/s3 H' (fget fr t)=true) (h2: ∀t,1000000<=t->fget F t=fget (lft fr) t) (hl:A.all (fun q=>decide (q.1<1000000))=true):Wk F H (A++lft fr) H':=by
 have hf: ∀t,fget (A++lft fr) t= .any\/(fget (A++lft fr) t=fget F t/\s3 H' (fget (A++lft fr) t)=true):=by
  intro t;have key: ∀(A:Fr),subF F H' A->A.all (fun q=>decide (q.1<1000000))=true->fget (A++lft fr) t= .any\/(fget (A++lft fr) t=fget F t/\s3 H' (fget (A++lft fr) t)=true):=by
   intro A
   induction A with
   |nil=>
    intro _ _;rw [List.nil_append];rcases zzV t 1000000 with h|h
    ·left;rw [Fz,zzI (by omega)]
    ·have e:=h2 t h;rw [<-e];rw [Fz,zzJ h] at e;rcases pP (t-1000000) with g|g
     ·left;rw [e];exact g
     ·right;exact ⟨rfl,by rw [e];exact g⟩
   |cons q A ih=>
    intro h1 h3;obtain ⟨t',x⟩:=q;obtain ⟨g1,g2,g3⟩:=h1;simp only [List.all_cons,zzS] at h3;rw [List.cons_append];simp only [fget]
    split
    ·rename_i e;subst e;right;exact ⟨g1.symm,g2⟩
    ·exact ih g3 h3.2
  exact key A hA hl
 intro B w0 Mx N w ρ a hs;refine ⟨ρ,(hs.weaken (fun id o ho=>(Ed hH id o ho).1) (fun t=>(hf t).imp id (·.1)) (fun id o ho M hr=>?_) (fun t M v hv=>?_))⟩
 ·have oV:=(Ed hH id o ho).2;cases o with
  |gone=>trivial
  |cells t c=>
   obtain ⟨k1,arr,k2,k3,k4⟩:=hr;refine ⟨k1,arr,k2,k3,fun j hj=>?_⟩;obtain ⟨u,hu,hv⟩:=k4 j hj;refine ⟨u,hu,?_⟩;cases c with
   |ints l=>exact hv.cE rfl
   |bools l=>exact hv.cE rfl
   |lst l=>
    simp only [Cs.len] at hj;simp only [Cs.get,zzB,zzH hj,Option.getD_some] at hv⊢;exact hv.vi (List.all_eq_true.1 oV _ (List.getElem_mem hj))
  |gmap t ck l=>
   obtain ⟨es,k1,k2,k3⟩:=hr;exact ⟨es,k1,k2,fun j e q he hl=>let ⟨g1,g2,g3⟩:=k3 j e q he hl;⟨g1,g2,g3.vi (List.all_eq_true.1 oV q (zzN hl))⟩⟩
  |iter mid s sn la=>
   obtain ⟨_,k2,k3⟩:=hr;exact ⟨Option.isSome_iff_exists.1 oV,k2,k3⟩
  |imap t l=>
   obtain ⟨k0,es,ck,k1,k2,k3⟩:=hr;exact ⟨k0,es,ck,k1,k2,fun j e k x he hl=>let ⟨g1,g2,g3⟩:=k3 j e k x he hl;⟨g1,g2.vi (List.all_eq_true.1 oV (k,x) (zzN hl)),g3⟩⟩
  |fmap t c=>exact hr
 ·rcases hf t with e|⟨_,e⟩
  ·rw [e];exact .any _
  ·exact hv.vi e
theorem yti: ∀fr:Fr,unl (lft fr)=fr
 |[]=>rfl
 |(s,x)::r=>by simp [lft,unl,yti r]
attribute [go_sem] yti
theorem Wk.tR {F A fr:Fr} {H H' ok:Hp} (pP:fr.all (fun q=>s3 ok q.2)=true) (hA:subF F H' A) (hH:subH H H' H') (iL: ∀i,(hget ok i).isSome=true->(hget H' i).isSome=true) (h2: ∀t,1000000<=t->fget F t=fget (lft fr) t) (hl:A.all (fun q=>decide (q.1<1000000))=true):Wk F H (A++lft fr) H':=
 Wk.app hA hH (fun t=>(N8 pP t).imp id (y8f iL _)) h2 hl
def DZ:List (List Nat):=[[20,21,22,23,24,25,26,27,28],[19,21,22,23,24,25,26,27,28],[19,20,22,24,25,26,27],[19,20,21,24,25,26,27],[19,20,24,25,26,27],[19,20,21,22,23,25,26],[19,20,21,22,23,24],[19,20,21,22,23,24],[19,20,21,22,23],[19,20],[]]
def DY:List (List Nat):=[[],[0],[0,1],[0,1,2],[0,1],[0,1,2,3,4],[0,1,2,3,4,5],[0,1,2,3,4,5],[0,1,2,3,4],[0,1],[]]
abbrev y8:Nat:=105+1000000000
abbrev Ku (m:bg) (p q:List (Int×Int)):Hp:=[(4, .cells 105 (.lst [.mp 3])),(3, .gmap y8 m.length (gmL 0 m)),(2, .cells 29 (.lst [.bool false, .nils])),(1, .cells 29 (.lst [.bool false,pD q])),(0, .cells 29 (.lst [.bool false,pD p]))]
def Ek:Hp:=[(4, .gone),(3, .gone),(2, .gone),(1, .gone),(0, .gone)]
theorem NX {H:Hp} (h: ∀i,i<5->(hget H i).isSome=true): ∀i,(hget Ek i).isSome=true->(hget H i).isSome=true:=fun i hi=>by
 by_cases h5:i<5
 ·exact h i h5
 ·simp only [Ek,hget] at hi
  repeat rw [zzI (by omega)] at hi
  cases hi
theorem LC (m:bg) (p q:List (Int×Int)): ∀i,(hget Ek i).isSome=true->(hget (Ku m p q) i).isSome=true:=NX fun i hi=>by
 rcases (show i=0\/i=1\/i=2\/i=3\/i=4 by omega) with rfl|rfl|rfl|rfl|rfl<;>rfl
theorem Tk (c:Int) (hc:c=1\/c= -1) (P p q:List (Int×Int)) (hP:P.length<=100000) (hb: ∀t∈P,-1125899906842624<=t.2/\t.2<=1125899906842624) (m:bg) (j:Nat) (hm:oM m j) (hj:j<=1000000) {fr:Fr} (pP:fr.all (fun q=>s3 Ek q.2)=true) {K:AV->Fr->Hp->Prop}
  (hK:K (.tup []) fr (Ku (mAdd c 0 m P) p q)):pS Tryz.prog 118 [pD P,I c, .ptr 4 0] fr (Ku m p q) K:=by
 have EG:=pU P;refine pS.intro [] Tryz.func118 rfl rfl (by decide) (by simp [Tryz.ntmps118]) ?_;rw [Tryz.ntmps118]
 repeat' (first|omega|(try apply ah);simp only [go_sem,sevalprocAttr,EG]|apply ag<;>(intro h_;(try simp only [h_]);revert h_)|apply zzL|with_reducible intro h_|trivial|simp only [go_sem,ai];omega)
 refine cN.intro (fun n fr' H=> ∃k:Nat,k<=P.length/\n=P.length-k/\fr'=[(10,I k),(9,I P.length),(8,pD P),(2, .ptr 4 0),(1,I c)]++lft fr/\H=Ku (mAdd c 0 m (P.take k)) p q) ?_ ?_
 ·refine ⟨_,_,_,?_,0,by omega,rfl,rfl,rfl⟩;refine Wk.tR (A:=[(10,I ((0:Nat):Int)),(9,I P.length),(8,pD P),(2, .ptr 4 0),(1,I c)]) pP ?_ ?_ (LC _ _ _) (fun t ht=>?_) rfl
  ·simp only [go_sem,sevalprocAttr,eG]
  ·simp only [go_sem,sevalprocAttr,eG,↓ur,List.take_zero,mAdd]
  ·simp only [fget]
   repeat rw [zzI (by omega)]
 rintro n fr' H ⟨k,hk,rfl,rfl,rfl⟩;by_cases cJ:k<P.length
 ·have bk:decide ((k:Int)<P.length)=true:=by simp;omega
  obtain ⟨g0,g1,g2⟩:=A2 P k cJ;have ht:=hb (P.getD k (0,0)) (by rw [zzB,zzH cJ];exact List.getElem_mem _);have et:P.take (k+1)=P.take k++[P.getD k (0,0)]:=by rw [List.take_succ_eq_append_getElem cJ];simp [cJ]
  have em:mAdd c 0 m (P.take (k+1))=mPut (mAdd c 0 m (P.take k)) (P.getD k (0,0)).1 (c*(P.getD k (0,0)).2):=by rw [et,Nu,Int.zero_add]
  have hM:oM (mAdd c 0 m (P.take k)) (j+k):=by
   have:=hm.add (c:=c) (d:=0) (p:=P.take k) (fun t ht=>by have:=hb t (List.mem_of_mem_take ht);rcases hc with rfl|rfl<;>omega)
   rwa [List.length_take,Nat.min_eq_left hk] at this
  generalize xA:mAdd c 0 m (P.take k)=mk at*;generalize xz:mAdd c 0 m (P.take (k+1))=p6 at*;generalize P.getD k (0,0)=t at*;have rE: -1125899906842624<=c*t.2/\c*t.2<=1125899906842624:=by rcases hc with rfl|rfl<;>omega
  cases hf:wG mk t.1 with
  |none=>
   obtain ⟨f1,f2,f3⟩:=MO (c*t.2) 0 hf;have hp:=Kg 0 0 (c*t.2) (by omega) (by omega) (by unfold InI;omega)
   repeat' (first|omega|(first|apply ah|(refine ba.aG (id:=4) DZ DY (by decide+kernel) mixed ?_)|(refine ba.intro (id:=4) DZ DY (by decide+kernel) mixed ?_)|skip);simp only [go_sem,sevalprocAttr,bk,EG,g0,g1,g2,↓ur,f1,f2,f3,↓reduceIte,reduceCtorEq,DZ,DY]|(refine ⟨aL.fn (r:=?_) rfl ?_ ?_⟩;rotate_left;assumption)|(refine ⟨bS.fn (r:=?_) rfl ?_ ?_⟩;rotate_left;assumption)|apply ag<;>(intro h_;(try simp only [h_]);revert h_)|apply zzL|with_reducible intro h_|trivial|simp only [go_sem,ai];omega)
   any_goals exact BO _ _ _
   refine ⟨_,_,_,?_,?_,k+1,by omega,rfl,rfl,rfl⟩
   ·omega
   ·refine Wk.tR (A:=[(10,I ((k+1:Nat):Int)),(9,I P.length),(8,pD P),(2, .ptr 4 0),(1,I c)]) pP ?_ ?_ (LC _ _ _) (fun t ht=>?_) rfl
    ·simp only [go_sem,sevalprocAttr,eG]
    ·rw [xz,em];simp only [go_sem,sevalprocAttr,eG,↓ur,f3]
     all_goals first|exact BO _ _ _|(rw [Nat.zero_add] at f2;exact congrArg (AObj.gmap y8 _) f2)
    ·simp only [fget]
     repeat rw [zzI (by omega)]
  |some hl=>
   obtain ⟨h,l⟩:=hl;obtain ⟨b,f1,f2,f3⟩:=MP (c*t.2) 0 hf;have hB:(-((j+k:Nat)*67108864:Int)<=h/\h<=(j+k:Nat)*67108864)/\0<=l/\l<=(j+k:Nat)*33554432:=hM.bn _ (Nv hf);have hp:=Kg h l (c*t.2) (by omega) (by omega) (by unfold InI;omega)
   repeat' (first|omega|(first|apply ah|(refine ba.aG (id:=4) DZ DY (by decide+kernel) mixed ?_)|(refine ba.intro (id:=4) DZ DY (by decide+kernel) mixed ?_)|skip);simp only [go_sem,sevalprocAttr,bk,EG,g0,g1,g2,↓ur,f1,f2,f3,↓reduceIte,reduceCtorEq,DZ,DY]|(refine ⟨aL.fn (r:=?_) rfl ?_ ?_⟩;rotate_left;assumption)|(refine ⟨bS.fn (r:=?_) rfl ?_ ?_⟩;rotate_left;assumption)|apply ag<;>(intro h_;(try simp only [h_]);revert h_)|apply zzL|with_reducible intro h_|trivial|simp only [go_sem,ai];omega)
   any_goals exact BO _ _ _
   refine ⟨_,_,_,?_,?_,k+1,by omega,rfl,rfl,rfl⟩
   ·omega
   ·refine Wk.tR (A:=[(10,I ((k+1:Nat):Int)),(9,I P.length),(8,pD P),(2, .ptr 4 0),(1,I c)]) pP ?_ ?_ (LC _ _ _) (fun t ht=>?_) rfl
    ·simp only [go_sem,sevalprocAttr,eG]
    ·rw [xz,em];simp only [go_sem,sevalprocAttr,eG,↓ur,f3]
     all_goals exact BO _ _ _
    ·simp only [fget]
     repeat rw [zzI (by omega)]
 ·obtain rfl:k=P.length:=by omega
  have bk:decide ((P.length:Int)<P.length)=false:=by simp
  rw [List.take_length]
  repeat' (first|omega|(try apply ah);simp only [go_sem,sevalprocAttr,bk]|apply ag<;>(intro h_;(try simp only [h_]);revert h_)|apply zzL|with_reducible intro h_|trivial|simp only [go_sem,ai];omega)
  all_goals exact hK
end Go.Proofs.YtjpbeacamoijhaaGreatDoor
set_option linter.unusedSimpArgs false
set_option linter.unusedVariables false
namespace Go.Proofs.YtjpbeacamoijhaaGreatDoor
open Go Go.RowKit
set_option maxRecDepth 100000
def y84:Go.Shelf.Ren:=⟨fun|6=>112|14=>154|15=>155|20=>178|21=>179|22=>180|23=>181|24=>182|25=>183|26=>184|27=>185|28=>186|29=>187|46=>198|47=>199|48=>200|49=>201|50=>202|57=>207|n=>n,fun|0=>0|3=>3|4=>4|5=>5|9=>9|22=>27|24=>74|25=>142|39=>138|45=>196|46=>197|50=>126|53=>203|55=>149|66=>209|70=>213|76=>217|77=>218|n=>n,fun n=>n⟩
theorem y5c:SlLaysF0.n6 Tryz.prog y84:={
 mixed:=by kernel_rfl
 f6:=⟨"slices.SortFunc[[]unravel/bivariate.term,unravel/bivariate.term]",by decide,Tryz.func112.trans (congrArg some (by kernel_rfl))⟩
 f14:=⟨"slices.pdqsortCmpFunc[unravel/bivariate.term]",by decide,Tryz.func154.trans (congrArg some (by kernel_rfl))⟩
 f15:=Tryz.func155.trans (congrArg some (by kernel_rfl))
 f20:=⟨"slices.insertionSortCmpFunc[unravel/bivariate.term]",by decide,Tryz.func178.trans (congrArg some (by kernel_rfl))⟩
 f21:=⟨"slices.heapSortCmpFunc[unravel/bivariate.term]",by decide,Tryz.func179.trans (congrArg some (by kernel_rfl))⟩
 f22:=⟨"slices.breakPatternsCmpFunc[unravel/bivariate.term]",by decide,Tryz.func180.trans (congrArg some (by kernel_rfl))⟩
 f23:=⟨"slices.choosePivotCmpFunc[unravel/bivariate.term]",by decide,Tryz.func181.trans (congrArg some (by kernel_rfl))⟩
 f24:=⟨"slices.reverseRangeCmpFunc[unravel/bivariate.term]",by decide,Tryz.func182.trans (congrArg some (by kernel_rfl))⟩
 f25:=⟨"slices.partialInsertionSortCmpFunc[unravel/bivariate.term]",by decide,Tryz.func183.trans (congrArg some (by kernel_rfl))⟩
 f26:=⟨"slices.partitionEqualCmpFunc[unravel/bivariate.term]",by decide,Tryz.func184.trans (congrArg some (by kernel_rfl))⟩
 f27:=⟨"slices.partitionCmpFunc[unravel/bivariate.term]",by decide,Tryz.func185.trans (congrArg some (by kernel_rfl))⟩
 f28:=Tryz.func186.trans (congrArg some (by kernel_rfl))
 f29:=Tryz.func187.trans (congrArg some (by kernel_rfl))
 f46:=⟨"slices.siftDownCmpFunc[unravel/bivariate.term]",by decide,Tryz.func198.trans (congrArg some (by kernel_rfl))⟩
 f47:=Tryz.func199.trans (congrArg some (by kernel_rfl))
 f48:=Tryz.func200.trans (congrArg some (by kernel_rfl))
 f49:=⟨"slices.medianAdjacentCmpFunc[unravel/bivariate.term]",by decide,Tryz.func201.trans (congrArg some (by kernel_rfl))⟩
 f50:=⟨"slices.medianCmpFunc[unravel/bivariate.term]",by decide,Tryz.func202.trans (congrArg some (by kernel_rfl))⟩
 f57:=⟨"slices.order2CmpFunc[unravel/bivariate.term]",by decide,Tryz.func207.trans (congrArg some (by kernel_rfl))⟩
 t0:=Tryz.underlying0
 a0:=Tryz.isAgg0
 z0:=Tryz.sizeOf0
 v0:=Tryz.zeroValue0
 t3:=Tryz.underlying3
 a3:=Tryz.isAgg3
 z3:=Tryz.sizeOf3
 v3:=Tryz.zeroValue3
 t4:=Tryz.underlying4
 a4:=Tryz.isAgg4
 z4:=Tryz.sizeOf4
 v4:=Tryz.zeroValue4
 t5:=Tryz.underlying5
 a5:=Tryz.isAgg5
 z5:=Tryz.sizeOf5
 v5:=Tryz.zeroValue5
 t9:=Tryz.underlying9
 a9:=Tryz.isAgg9
 z9:=Tryz.sizeOf9
 v9:=Tryz.zeroValue9
 t22:=Tryz.underlying27
 a22:=Tryz.isAgg27
 z22:=Tryz.sizeOf27
 v22:=Tryz.zeroValue27
 t25:=Tryz.underlying142
 a25:=Tryz.isAgg142
 z25:=Tryz.sizeOf142
 v25:=Tryz.zeroValue142
 t39:=Tryz.underlying138
 a39:=Tryz.isAgg138
 z39:=Tryz.sizeOf138
 v39:=Tryz.zeroValue138
 t45:=Tryz.underlying196
 a45:=Tryz.isAgg196
 z45:=Tryz.sizeOf196
 v45:=Tryz.zeroValue196
 t46:=Tryz.underlying197
 a46:=Tryz.isAgg197
 z46:=Tryz.sizeOf197
 v46:=Tryz.zeroValue197
 t50:=Tryz.underlying126
 a50:=Tryz.isAgg126
 z50:=Tryz.sizeOf126
 v50:=Tryz.zeroValue126
 t53:=Tryz.underlying203
 a53:=Tryz.isAgg203
 z53:=Tryz.sizeOf203
 v53:=Tryz.zeroValue203
 t55:=Tryz.underlying149
 a55:=Tryz.isAgg149
 z55:=Tryz.sizeOf149
 v55:=Tryz.zeroValue149
 t66:=Tryz.underlying209
 a66:=Tryz.isAgg209
 z66:=Tryz.sizeOf209
 v66:=Tryz.zeroValue209
 t70:=Tryz.underlying213
 a70:=Tryz.isAgg213
 z70:=Tryz.sizeOf213
 v70:=Tryz.zeroValue213
 t76:=Tryz.underlying217
 a76:=Tryz.isAgg217
 z76:=Tryz.sizeOf217
 v76:=Tryz.zeroValue217
 t77:=Tryz.underlying218
 a77:=Tryz.isAgg218
 z77:=Tryz.sizeOf218
 v77:=Tryz.zeroValue218}
set_option maxHeartbeats 4000000
def nF (t:Int×Int):List Value:=[.int .i64 (aJ t.1), .int .i64 (aB t.1), .int .i64 t.2]
def Dj (x y:Int×Int):Int:=if nH (aJ x.1) (aJ y.1)≠0 then nH (aJ x.1) (aJ y.1) else nH (aB x.1) (aB y.1)
theorem I2 (x y:Int×Int):ltOf Dj x y=decide (x.1<y.1):=by
 unfold ltOf;rw [decide_eq_decide,VY x.1 y.1];unfold Dj nH;generalize aJ x.1=a;generalize aJ y.1=a';generalize aB x.1=z;generalize aB y.1=z';by_cases h1:a<a'
 ·simp [h1]
 ·by_cases h2:a'<a
  ·simp [h1,h2];omega
  ·obtain rfl:a=a':=by omega
   by_cases h3:z<z'
   ·simp [h3]
   ·by_cases h4:z'<z<;>simp [h3,h4]
theorem OP:Sort.SWO (ltOf Dj) where
 irrefl x:=by rw [I2];simp
 trans x y z h1 h2:=by rw [I2] at*;simp at*;omega
 ntrans x y z h1 h2:=by rw [I2] at*;simp at*;omega
theorem Me: ∀(p:List (Int×Int)) (j:Nat),j<3*p.length-> ∃n:Int,(nF (p.getD (j/3) (0,0)))[j % 3]! = .int .i64 n/\(bvC p).getD j .any=I n
 |[],j,h=>by simp at h
 |t::p,0,_=>⟨aJ t.1,rfl,rfl⟩
 |t::p,1,_=>⟨aB t.1,rfl,rfl⟩
 |t::p,2,_=>⟨t.2,rfl,rfl⟩
 |t::p,j+3,h=>by
  obtain ⟨n,h1,h2⟩:=Me p j (by simp only [zzG] at h;omega);refine ⟨n,?_,?_⟩
  ·rw [show (j+3)/3=j/3+1 by omega,show (j+3)% 3=j % 3 by omega,List.getD_cons_succ];exact h1
  ·simp only [bvC];rw [show j+3=j+1+1+1 by omega];simp only [List.getD_cons_succ];exact h2
theorem zM: ∀{H:Hp} {i:Nat} {o:AObj},hget H i=some o->hset H i o=H
 |[],_,_,h=>by cases h
 |(j,u)::H,i,o,h=>by
  simp only [hget] at h;simp only [hset];by_cases e:j=i
  ·rw [zzJ e] at h⊢;cases h;rw [e]
  ·rw [zzI e] at h⊢;rw [zM h]
section
variable {ρr:Go.Shelf.Ren}
theorem ZT (L:SlLaysF0.n6 Tryz.prog ρr) (hF:pI Tryz.prog (ρr.f 6)) (aE: ∀w,(isAgg (ρr.t 24)).run Tryz.prog w= .ok true w) (zE: ∀w,(Go.sizeOf (ρr.t 24)).run Tryz.prog w= .ok 3 w) {G:Nat}
  (eg: ∀args w,(callFunc G args).run Tryz.prog w= .ok (.enter G args) w)
  (Qq: ∀(x y:Int×Int) (W:World),Calls Tryz.prog G #[.agg (nF x).toArray, .agg (nF y).toArray] W fun e w'=>e= .returned (.int .i64 (Dj x y))/\ ∃q os',w'=Sort.grow (W.drewN q) os')
  {id T:Nat} {q:List (Int×Int)} {fr:Fr} {H:Hp} {K:AV->Fr->Hp->Prop} (hid:hget H id=some (.cells T (.lst (bvC q)))) (hq:q.length<=1000000)
  (hK: ∀r:List (Int×Int),r.Perm q->r.Pairwise (fun a b=>a.1<=b.1)->K (.tup []) fr (hset H id (.cells T (.lst (bvC r))))):pS Tryz.prog (ρr.f 6) [.sl 3 id 0 q.length, .fn G []] fr H K:=by
 refine ⟨.inr fun B w0 Mx N w ρ a hs vs uE hv=>⟨hF,?_⟩⟩
 match vs,uE,hv with
 |[u0,u1],_,hv=>
  have v0:=hv 0 u0 _ rfl rfl;have v1:=hv 1 u1 _ rfl rfl;obtain ⟨vs1,rfl,ng,_⟩:=v1.eO;obtain rfl:vs1=[]:=zzQ ng;cases v0 with
  |sl es bY off len cap hdd hc arr t ad ha hb hr=>
   obtain ⟨iw,nK,h2,h3,h4⟩:=hs.objs id _ hid;simp only [Cs.len,pU] at h3 h4;by_cases h0:q.length=0
   ·obtain rfl:q=[]:=zzQ h0;refine (AnyF.slices_SortFunc_none L (some ad) cap _ w).mono ?_;rintro e w' ⟨rfl,rfl⟩;have hk:=hK [] (.refl _) .nil;rw [zM hid] at hk;exact ⟨_, .tup [],ρ,fr,H,rfl,hk,hs, .tup [] [] rfl fun i v x hv=>by simp at hv⟩
   ·have wv:0<cap:=by omega
    have e0:=ha wv;rw [show (ρ id).add 0=ρ id from rfl] at e0;obtain ⟨Lf⟩:ad=⟨(ρ id).block,(ρ id).off,none⟩:=by rw [e0];cases nS:ρ id with|mk b o s=>rw [nS] at iw;simp at iw;rw [iw]
    rw [h2] at hb;obtain ⟨rfl,rfl⟩:nK=arr/\T=t:=by cases hb;exact ⟨rfl,rfl⟩
    have jv: ∀j,j<3*q.length->nK[(ρ id).off+j]?=some (nF (q.getD (j/3) (0,0)))[j % 3]! :=fun j hj=>by
     obtain ⟨n,n1,n2⟩:=Me q j hj;obtain ⟨u,g1,g2⟩:=h4 j hj;have g3:VR w (MM Mx H ρ) ρ (DD H) u (I n):=by
      have:(Cs.lst (bvC q)).get j=I n:=n2
      rw [<-this];exact g2
     rw [g1,n1,g3.aq]
    have hH:Sort.HoldsK nF 3 w (ρ id).block (ρ id).off q.toArray:=by
     intro j hj;rw [Sort.size_flatK,List.size_toArray] at hj;rw [Sort.get_flatK _ _ _ _ (by simpa using hj)];have hc:=jv j (by omega);have aD:(ρ id).off+j<nK.size:=(Array.getElem?_eq_some_iff.1 hc).1;have e1:q.toArray[j/3]! =q.getD (j/3) (0,0):=by
      have P7:j/3<q.length:=by omega
      simp [zzB,P7]
     rw [e1];refine ⟨?_,by simp [World.frozen?,h2]⟩;simp only [World.cell?,h2,_root_.id];simpa using hc
    refine (AnyQ.slices_SortFunc L 3 aE zE nF (fun _=>rfl) (fun x v hv=>by simp [nF] at hv;rcases hv with rfl|rfl|rfl<;>rfl) Dj OP G #[] (ρ id).block (ρ id).off cap q.toArray w eg (fun m os dk _ x y=>by simpa using Qq x y _) hH (iW h2) (by simp;omega)).mono ?_;rintro e w' ⟨rfl,d',n,os,⟨p1,p2,p3⟩,so,rfl⟩;have hd:d'.size=q.length:=by simpa using p1
    have G1:d'.toList.Perm q:=by
     have h5:d'.extract 0 q.toArray.size=d':=by rw [<-p1];simp
     have h6:q.toArray.extract 0 q.toArray.size=q.toArray:=by simp
     rw [h5,h6] at p3;simpa using p3
    have hpw:d'.toList.Pairwise fun a b=>a.1<=b.1:=by
     rw [List.pairwise_iff_getElem];intro i j hi hj kB;have oK:i<d'.size:=by simpa using hi
     have jh:j<d'.size:=by simpa using hj
     have:=so i j (Nat.zero_le _) kB (by simpa using (show j<q.length by omega))
     rw [I2,getElem!_pos d' i oK,getElem!_pos d' j jh,decide_eq_false_iff_not] at this;simp only [Array.getElem_toList];omega
    have pM:aK B w0 Mx N (Sort.putRowK nF 3 w (ρ id).block (ρ id).off d') ρ fr (hset H id (.cells T (.lst (bvC d'.toList)))) a:=by
     have iM:(Sort.putRowK nF 3 w (ρ id).block (ρ id).off d').heap[(ρ id).block]?=some (.cells (Sort.putCells _root_.id (ρ id).off (Sort.flatK nF 3 d') nK) T (0,0)):=by
      simp [Sort.putRowK,Sort.putRow,Sort.mapBlock,Array.getElem?_modify,h2,Sort.onCells]
     refine hs.change hid h2 iM (by simp [Sort.putCells]) (by simp [Sort.putRowK,Sort.putRow,Sort.mapBlock]) rfl rfl rfl (fun k hk=>by simp [Sort.putRowK,Sort.putRow,Sort.mapBlock,Array.getElem?_modify,Ne.symm hk]) (by simp [Sort.putCells,Cs.len,pU,hd];omega) fun j hj=>?_;simp only [Cs.len,pU,Array.length_toList] at hj;obtain ⟨n,n1,n2⟩:=Me d'.toList j (by simpa using hj)
     have aD:(ρ id).off+j<nK.size:=by omega
     refine ⟨.int .i64 n,?_,by show VR _ _ _ _ _ ((bvC d'.toList).getD j .any);rw [n2];exact .int _ _⟩;have e1:d'[j/3]! =d'.toList.getD (j/3) (0,0):=by
      have P7:j/3<d'.size:=by omega
      simp [zzB,P7]
     simp only [Sort.putCells,Array.getElem?_mapIdx,Array.getElem?_eq_getElem aD,Option.map_some];rw [zzJ ⟨by omega,by rw [Sort.size_flatK];omega⟩,show (ρ id).off+j-(ρ id).off=j by omega,Sort.get_flatK _ _ _ _ (by omega),e1,n1];rfl
    refine ⟨_, .tup [],ρ,fr,_,rfl,hK _ G1 hpw,pM.later ?_, .tup [] [] rfl fun i v x hv=>by simp at hv⟩;refine ⟨rfl,rfl,rfl,?_,fun k hk=>?_⟩
    ·simp [sortWorldK,Sort.grow,Sort.putRowK,Sort.putRow,Sort.mapBlock,Sort.ahead]
    ·simp only [sortWorldK,Sort.grow];rw [Array.getElem?_append_left (by simpa [Sort.putRowK,Sort.putRow,Sort.mapBlock,Sort.ahead] using hk)];simp [Sort.putRowK,Sort.putRow,Sort.mapBlock,Sort.ahead]
end
theorem F9 (h:Array Obj) (a b c:Obj):((h.push a).push b).push c=h++ #[a,b,c]:=by apply Array.ext';simp
theorem y85 (x:Int) (W:World):Calls Tryz.prog 156 #[.int .i64 x] W fun e w'=>e= .returned (.bool false)/\w'=W:=by
 go_enter Tryz.func156,Tryz.ntmps156
 go_wp2
 go_ret
 exact ⟨by simp,rfl⟩
theorem y1t (x y:Int) (W:World):Calls Tryz.prog 115 #[.int .i64 x, .int .i64 y] W fun e w'=>e= .returned (.int .i64 (nH x y))/\w'=W:=by
 have hn:=y85;unfold nH;by_cases hl:x<y
 ·rw [zzJ hl]
  go_enter Tryz.func115,Tryz.ntmps115
  go_wp2_with (go_at_call 156;refine (hn _ _).mono ?_;rintro e w' ⟨rfl,rfl⟩)
  go_ret
  exact ⟨rfl,rfl⟩
 ·rw [zzI hl];by_cases hg:y<x
  ·rw [zzJ hg]
   go_enter Tryz.func115,Tryz.ntmps115
   go_wp2_with (go_at_call 156;refine (hn _ _).mono ?_;rintro e w' ⟨rfl,rfl⟩)
   go_ret
   exact ⟨rfl,rfl⟩
  ·rw [zzI hg]
   go_enter Tryz.func115,Tryz.ntmps115
   go_wp2_with (go_at_call 156;refine (hn _ _).mono ?_;rintro e w' ⟨rfl,rfl⟩)
   go_ret
   exact ⟨rfl,rfl⟩
theorem OJ (x y:Int) (b cap:Nat) (W:World) (h0:W.cell? ⟨b,0,none⟩=some (.int .i64 x)) (h1:W.cell? ⟨b,1,none⟩=some (.int .i64 y)):
  Calls Tryz.prog 114 #[.slice (some ⟨b,0,none⟩) 2 cap] W fun e w'=>e= .returned (.int .i64 (if x≠0 then x else y))/\w'=W:=by
 by_cases hx:x=0
 ·subst hx;rw [zzI (by simp)];by_cases hy:y=0
  ·subst hy
   go_enter Tryz.func114,Tryz.ntmps114
   go_wp2
   refine wp_loop_rounds 3 ?_;rw [rounds_succ]
   go_wp2
   rw [rounds_succ]
   go_wp2
   rw [rounds_succ]
   go_wp2
   go_ret
   exact ⟨rfl,rfl⟩
  ·have by0:(y !=0)=true:=by rw [bne_iff_ne];exact hy
   go_enter Tryz.func114,Tryz.ntmps114
   go_wp2
   refine wp_loop_rounds 3 ?_;rw [rounds_succ]
   go_wp2
   rw [rounds_succ]
   go_wp2
   go_ret
   exact ⟨rfl,rfl⟩
 ·have bx0:(x !=0)=true:=by rw [bne_iff_ne];exact hx
  rw [zzJ hx]
  go_enter Tryz.func114,Tryz.ntmps114
  go_wp2
  refine wp_loop_rounds 3 ?_;rw [rounds_succ]
  go_wp2
  go_ret
  exact ⟨rfl,rfl⟩
theorem FL (x y:Int×Int) (W:World):Calls Tryz.prog 113 #[.agg (nF x).toArray, .agg (nF y).toArray] W fun e w'=>e= .returned (.int .i64 (Dj x y))/\ ∃q os',w'=Sort.grow (W.drewN q) os':=by
 have hc:=y1t;have ho:=OJ (nH (aJ x.1) (aJ y.1)) (nH (aB x.1) (aB y.1));unfold Dj;generalize (if nH (aJ x.1) (aJ y.1)≠0 then nH (aJ x.1) (aJ y.1) else nH (aB x.1) (aB y.1))=r at*;unfold nF;generalize aJ x.1=a1 at*;generalize aJ y.1=a2 at*;generalize aB x.1=z1 at*;generalize aB y.1=z2 at*;generalize x.2=c1 at*;generalize y.2=c2 at*
 go_enter Tryz.func113,Tryz.ntmps113
 go_upto_region 1 with fail
 obtain ⟨W2,EH⟩: ∃W2,(W.alloc (Obj.cells #[Value.int IntKind.i64 a1,Value.int IntKind.i64 z1,Value.int IntKind.i64 c1] 74)).alloc (Obj.cells #[Value.int IntKind.i64 a2,Value.int IntKind.i64 z2,Value.int IntKind.i64 c2] 74)=W2:=⟨_,rfl⟩;have k0:W2.cell? ⟨W.heap.size,0,none⟩=some (.int .i64 a1):=by rw [<-EH];simp
 have k1:W2.cell? ⟨W.heap.size,1,none⟩=some (.int .i64 z1):=by rw [<-EH];simp
 have k2:W2.cell? ⟨W.heap.size+1,0,none⟩=some (.int .i64 a2):=by rw [<-EH];simp
 have k3:W2.cell? ⟨W.heap.size+1,1,none⟩=some (.int .i64 z2):=by rw [<-EH];simp
 rw [EH];refine wp_region_still_tail 10 (by kernel_rfl) (by kernel_rfl) ?_;simp only [List.take_succ_cons,List.take_zero,List.drop_succ_cons,List.drop_zero];generalize hd:({heap:=W2.heap,tape:=W2.tape,drawn:=W2.drawn+1,os:=W2.os,output:=W2.output}:World)=W3;have j0:W3.cell? ⟨W.heap.size,0,none⟩=some (.int .i64 a1):=by rw [<-hd];exact k0
 have j1:W3.cell? ⟨W.heap.size,1,none⟩=some (.int .i64 z1):=by rw [<-hd];exact k1
 have j2:W3.cell? ⟨W.heap.size+1,0,none⟩=some (.int .i64 a2):=by rw [<-hd];exact k2
 have j3:W3.cell? ⟨W.heap.size+1,1,none⟩=some (.int .i64 z2):=by rw [<-hd];exact k3
 still_step
 still_step
 still_step
 still_step
 still_call (hc _ _ _)
 still_step
 still_step
 still_step
 still_step
 still_call (hc _ _ _)
 refine wpStill_nil ?_
 go_wp2_with (go_at_call 114;refine (ho _ _ _ ?_ ?_).mono ?_;rotate_left 2;rintro e w' ⟨rfl,rfl⟩)
 ·go_ret
  refine ⟨rfl,1, #[.cells #[.int .i64 a1, .int .i64 z1, .int .i64 c1] 74 (0,0), .cells #[.int .i64 a2, .int .i64 z2, .int .i64 c2] 74 (0,0), .cells #[.int .i64 (nH a1 a2), .int .i64 (nH z1 z2)] 3 (0,0)],?_⟩;rw [<-hd,<-EH];exact congrArg (fun h=>(⟨h,W.tape,W.drawn+1,W.os,W.output⟩:World)) (F9 W.heap _ _ _)
 ·simp
 ·simp
theorem y1u {id T:Nat} {q:List (Int×Int)} {fr:Fr} {H:Hp} {K:AV->Fr->Hp->Prop} (hid:hget H id=some (.cells T (.lst (bvC q)))) (hq:q.length<=1000000)
  (hK: ∀r:List (Int×Int),r.Perm q->r.Pairwise (fun a b=>a.1<=b.1)->K (.tup []) fr (hset H id (.cells T (.lst (bvC r))))):pS Tryz.prog 112 [.sl 3 id 0 q.length, .fn 113 []] fr H K:=
 ZT y5c ⟨_,Tryz.func112,rfl,by decide⟩ Tryz.isAgg74 Tryz.sizeOf74 (enters_of Tryz.func113 (by kernel_rfl) rfl) FL hid hq hK
set_option maxHeartbeats 8000000
theorem y1v (m:bg) (sn:List Nat) {b:Nat} {q:Int×Int×Int} (h:m[b]?=some q):kJ m (sn++[b])=kJ m sn++if td q.2=0 then [] else [(q.1,td q.2)]:=by
 rw [y0x]
 have:m.getD b (0,0,0)=q:=by rw [zzB,h];rfl
 rw [this];rfl
theorem OS {sn:List Nat} {N:Nat} (hn:sn.Nodup) (hr: ∀i∈sn,i<N) (ha: ∀i,i<N->i∈sn):sn.Perm (List.range N):=
 (List.perm_ext_iff_of_nodup hn List.nodup_range).2 fun a=>⟨fun h=>List.mem_range.2 (hr a h),fun h=>ha a (List.mem_range.1 h)⟩
abbrev AE:AObj:= .cells 29 (.lst [.bool false, .nils])
abbrev gaH (r:List (Int×Int)):Hp:=[(6, .cells 29 (.lst [.bool false, .sl 3 5 0 r.length])),(5, .cells 74 (.lst (bvC r))),(4, .cells 29 (.lst [.bool false, .sl 3 5 0 r.length])),(2,AE)]
def HL:Hp:=[(2, .gone)]
theorem I1 {H:Hp} (h:(hget H 2).isSome=true): ∀i,(hget HL i).isSome=true->(hget H i).isSome=true:=fun i hi=>by
 by_cases h2:2=i
 ·subst h2;exact h
 ·simp only [HL,hget] at hi;rw [zzI h2] at hi;cases hi
theorem WB (r:List (Int×Int)) (H:Hp):bE (.agg [.bool false, .ro 3 r.length (.lst (List.take (r.length*3) (List.map (snap H 4) (bvC r))))]) (iy false r):=
 bE.of (by rw [TM,zzR (by rw [pU];omega)])
abbrev gaL (m:bg) (sn:List Nat):Hp:=[(7, .iter 3 m.length sn m.length),(6, .cells 29 (.lst [.bool false, .sl 3 5 0 (kJ m sn).length])),(5, .cells 74 (.lst (bvC (kJ m sn)))),(4,AE),(3, .gmap y8 m.length (gmL 0 m)),(2,AE)]
theorem Vm (m:bg) (j:Nat) (hm:oM m j) (hj:j<=10000000000) (hl:m.length<=1000000) (hs: ∀e,-1125899906842624<=mVal m e/\mVal m e<=1125899906842624) (hx: ∀e,mVal m e≠0->(-1048576<=aJ e/\aJ e<=1048576)/\ -1048576<=aB e/\aB e<=1048576) {mid:Nat} {fr fr':Fr} {H:Hp} {K:AV->Fr->Hp->Prop} (hw:Wk ((0, .mp mid)::lft fr) H ((0, .mp 3)::lft fr') [(3, .gmap y8 m.length (gmL 0 m)),(2,AE)]) (pP:fr'.all (fun q=>s3 HL q.2)=true) (YP:fcut 5 (lft fr')=lft fr')
  (hK: ∀r,cM r (mVal m)->r.length<=1000000->K (.agg [.bool false, .sl 3 5 0 r.length]) fr' (gaH r)):
  pS Tryz.prog 72 [.mp mid] fr H K:=by
 have gl:=SQ 0 m;refine pS.intro [.cell 2 29] Tryz.func72 rfl rfl (by decide) (by simp [Tryz.ntmps72]) ?_;rw [Tryz.ntmps72];refine qj.wk hw ?_
 repeat' (first|omega|(try apply ah);simp only [go_sem,sevalprocAttr]|apply ag<;>(intro h_;(try simp only [h_]);revert h_)|apply zzL|with_reducible intro h_|trivial|simp only [go_sem,ai];omega)
 refine qD.Cx (kt:=109) (et:=107) rfl (by simp only [go_sem,sevalprocAttr]) (by simp only [go_sem,sevalprocAttr]) rfl rfl ?_
 repeat' (first|omega|(try apply ah);simp only [go_sem,sevalprocAttr,gl]|apply ag<;>(intro h_;(try simp only [h_]);revert h_)|apply zzL|with_reducible intro h_|trivial|simp only [go_sem,ai];omega)
 refine qD.range (kt:=109) (et:=107) rfl (by simp only [go_sem,sevalprocAttr]) (by simp only [go_sem,sevalprocAttr]) rfl rfl ?_
 repeat' (first|omega|(try apply ah);simp only [go_sem,sevalprocAttr]|apply ag<;>(intro h_;(try simp only [h_]);revert h_)|apply zzL|with_reducible intro h_|trivial|simp only [go_sem,ai];omega)
 refine cN.intro (fun n xZ H1=> ∃sn:List Nat,sn.Nodup/\(∀i∈sn,i<m.length)/\n=m.length-sn.length/\xZ=[(13, .ptr 7 0),(3, .ptr 6 0),(2, .ptr 4 0)]++lft fr'/\
  H1=gaL m sn) ?_ ?_
 ·refine ⟨_,_,_,Wk.tR (A:=[(13, .ptr 7 0),(3, .ptr 6 0),(2, .ptr 4 0)]) pP ?_ ?_ (I1 rfl) (fun t ht=>?_) rfl,[], .nil,(fun i hi=>by cases hi),rfl,rfl,rfl⟩
  ·simp only [go_sem,sevalprocAttr]
  ·simp only [go_sem,sevalprocAttr,↓ur]
   all_goals first|exact BO _ _ _|exact ⟨rfl,rfl,rfl⟩
  ·simp only [fget]
   repeat rw [zzI (by omega)]
 rintro n xZ H1 ⟨sn,hn,hr,rfl,rfl,rfl⟩
 repeat' (first|omega|(try apply ah);simp only [go_sem,sevalprocAttr]|apply ag<;>(intro h_;(try simp only [h_]);revert h_)|apply zzL|with_reducible intro h_|trivial|simp only [go_sem,ai];omega)
 refine qD.uA (mid:=3) (iid:=7) (since:=m.length) (last:=m.length) (t:=y8) (ck:=m.length) (seen:=sn) (l:=gmL 0 m) rfl (by simp only [go_sem,sevalprocAttr]) rfl rfl rfl (fun q hq=>?_) (zzA _) (fun cF=>?_) fun q hq hqn=>?_
 ·obtain ⟨k,u,h1,rfl⟩:=Mo hq
  have:=(List.getElem?_eq_some_iff.1 h1).1
  dsimp only;omega
 ·have hp:sn.Perm (List.range m.length):=OS hn hr fun i hi=>by
   have:=cF _ (Xy 0 m i m[i] (zzH hi))
   simpa using this
  repeat' (first|omega|(try apply ah);simp only [go_sem,sevalprocAttr]|apply ag<;>(intro h_;(try simp only [h_]);revert h_)|apply zzL|with_reducible intro h_|trivial|simp only [go_sem,ai];omega)
  have zl:=MQ m sn;have cP:=Cq hn hr;refine ⟨aL.inline (y1u (q:=kJ m sn) rfl (by omega) fun r Eu ho=>?_)⟩;have hR:=y00 hm.nd hp Eu ho;have hlr:r.length=(kJ m sn).length:=Eu.length_eq;have hK:=hK r hR (by omega);simp only [go_sem,sevalprocAttr];rw [<-hlr]
  refine qj.wk (fr':=[(3, .ptr 6 0),(2, .ptr 4 0)]++lft fr') (H':=[(6, .cells 29 (.lst [.bool false, .sl 3 5 0 r.length])),(5, .cells 74 (.lst (bvC r))),(4,AE),(2,AE)]) (Wk.tR pP ?_ ?_ (I1 rfl) (fun t ht=>?_) rfl) ?_
  ·simp only [go_sem,sevalprocAttr]
  ·simp only [go_sem,sevalprocAttr,eG]
  ·simp only [fget]
   repeat rw [zzI (by omega)]
  repeat' (first|omega|(try apply ah);simp only [go_sem,sevalprocAttr]|apply ag<;>(intro h_;(try simp only [h_]);revert h_)|apply zzL|with_reducible intro h_|trivial|simp only [go_sem,ai];omega)
  all_goals exact hK
 ·obtain ⟨k,u,h1,rfl⟩:=Mo hq;have hk:k<m.length:=(List.getElem?_eq_some_iff.1 h1).1;have C4:k∉sn:=by simpa using hqn
  have rF:=Uy 0 m k u h1;rw [Nat.zero_add] at rF;have hu:u∈m:=zzN h1;have hB:=hm.bn u hu;have hv:mVal m u.1=td u.2:=SS hm.nd hu;have sU:=hs u.1;rw [hv] at sU;have gk:gkA y8 (kE u.1)= .agg [I (aJ u.1),I (aB u.1)]:=by unfold gkA;rw [zzI (by decide),Bc]
  have hnd:(sn++[k]).Nodup:=by rw [List.nodup_append];exact ⟨hn,by simp,fun a ha b hb h=>C4 (by simp at hb;rw [<-hb,<-h];exact ha)⟩
  have PF: ∀i∈sn++[k],i<m.length:=fun i hi=>by
   rcases List.mem_append.1 hi with hi|hi
   ·exact hr i hi
   ·simp at hi;omega
  have CN:=Cq hnd PF;rw [zzF] at CN;simp only [zzG,List.length_nil] at CN;have KL:=Xx 0 m;simp only [go_sem,sevalprocAttr] at KL;have eo:=y1v m sn h1;have YY:=yuo u.2.1 u.2.2 (by omega) (by omega) (by unfold td at sU;omega);rw [show u.2.1*33554432+u.2.2=td u.2 from rfl] at YY;have jD:=hx u.1;rw [hv] at jD;dsimp only;rw [gk,Nat.zero_add]
  have xD:=pU (kJ m sn);have zl:=MQ m sn;have gt:(y8<1000000000)=False:=zzK (by decide);have Y9:(sn++[k]).getLast?=some k:=by simp
  have wA:=wQ (aJ u.1) 1048576 (by decide) (by decide);have wZ:=wQ (aB u.1) 1048576 (by decide) (by decide);by_cases h0:td u.2=0
  ·have b0:(td u.2==0)=true:=by rw [h0];rfl
   rw [zzJ h0,List.append_nil] at eo
   repeat' (first|omega|(try apply ah);simp only [go_sem,sevalprocAttr,Y9,rF,gt,Bc,b0]|(refine ⟨aL.fn (r:=?_) rfl ?_ ?_⟩;rotate_left;assumption)|(refine ⟨bS.fn (r:=?_) rfl ?_ ?_⟩;rotate_left;assumption)|apply ag<;>(intro h_;(try simp only [h_]);revert h_)|apply zzL|with_reducible intro h_|trivial|simp only [go_sem,ai];omega)
   refine ⟨_,_,_,?_,Wk.tR (A:=[(13, .ptr 7 0),(3, .ptr 6 0),(2, .ptr 4 0)]) pP ?_ ?_ (I1 rfl) (fun t ht=>?_) rfl,sn++[k],hnd,PF,rfl,rfl,rfl⟩
   ·rw [zzF];simp only [zzG,List.length_nil];omega
   ·simp only [go_sem,sevalprocAttr]
   ·simp only [go_sem,sevalprocAttr,eo,eG]
    all_goals exact wN _ (fun _ _ _ _=>rfl) _ _
   ·simp only [fget]
    repeat rw [zzI (by omega)]
    try rw [YP]
  ·have b0:(td u.2==0)=false:=by rw [zzU];exact h0
   have zi:=jD h0;rw [zzI h0] at eo;rw [decide_eq_true (by omega),decide_eq_true (by omega),Bool.and_self] at wA wZ
   repeat' (first|omega|(try apply ah);simp only [go_sem,sevalprocAttr,Y9,rF,gt,Bc,KL,xD,b0]|(refine ⟨aL.fn (r:=?_) rfl ?_ ?_⟩;rotate_left;assumption)|(refine ⟨bS.fn (r:=?_) rfl ?_ ?_⟩;rotate_left;assumption)|apply ag<;>(intro h_;(try simp only [h_]);revert h_)|apply zzL|with_reducible intro h_|trivial|simp only [go_sem,ai];omega)
   refine ⟨_,_,_,?_,Wk.tR (A:=[(13, .ptr 7 0),(3, .ptr 6 0),(2, .ptr 4 0)]) pP ?_ ?_ (I1 rfl) (fun t ht=>?_) rfl,sn++[k],hnd,PF,rfl,rfl,rfl⟩
   ·rw [zzF];simp only [zzG,List.length_nil];omega
   ·simp only [go_sem,sevalprocAttr]
   ·simp only [go_sem,sevalprocAttr,eo,eG,MD,St,List.all_append,bvC]
    all_goals exact wN _ (fun _ _ _ _=>rfl) _ _
   ·simp only [fget]
    repeat rw [zzI (by omega)]
    try rw [YP]
end Go.Proofs.YtjpbeacamoijhaaGreatDoor
namespace Go.Proofs.YtjpbeacamoijhaaGreatDoor
def cb (f:Int->Int) (N:Int):Prop:= ∀e,f e≠0->(-N<=aJ e/\aJ e<=N)/\ -N<=aB e/\aB e<=N
def nL (f:Int->Int):Prop:= ∀e,-1125899906842624<=f e/\f e<=1125899906842624
theorem cb.mono {f:Int->Int} {N M:Int} (h:cb f N) (hm:N<=M):cb f M:=fun e he=>by have:=h e he;omega
theorem cb.add {f g:Int->Int} {N:Int} (hf:cb f N) (hg:cb g N) (c:Int):cb (fun e=>f e+c*g e) N:=fun e he=>by
 by_cases h:f e=0
 ·exact hg e fun h'=>he (by simp [h,h'])
 ·exact hf e h
theorem WA {e e':Int} {N M:Int} (h:(-N<=aJ (e-e')/\aJ (e-e')<=N)/\ -N<=aB (e-e')/\aB (e-e')<=N) (h': -M<=aB e'/\aB e'<=M) (hN:N<=1048576) (hM:M<=1048576):aJ e=aJ (e-e')+aJ e'/\aB e=aB (e-e')+aB e':=by
 have h1:=MG (aJ (e-e')) (aB (e-e')) (aJ e') (aB e');rw [rm,rm,show e-e'+e'=e by omega] at h1;have h2:aJ e=aJ (bA (aJ (e-e')+aJ e') (aB (e-e')+aB e')):=congrArg aJ h1;have h3:aB e=aB (bA (aJ (e-e')+aJ e') (aB (e-e')+aB e')):=congrArg aB h1;rw [rn (by omega)] at h2;rw [nM (by omega)] at h3;exact ⟨h2,h3⟩
theorem cb.shift {f:Int->Int} {N M a z:Int} (h:cb f N) (ha: -M<=a/\a<=M) (hz: -M<=z/\z<=M) (hN:N<=1048576) (hM:M<=1048576):cb (fun e=>f (e-bA a z)) (N+M):=fun e he=>by
 have h1:=h _ he;have h2:=WA h1 (M:=M) (by rw [nM (by omega)];exact hz) hN hM;rw [rn (by omega),nM (by omega)] at h2;omega
theorem cM.kL {p:List (Int×Int)} {f:Int->Int} (h:cM p f) {N:Int} (hs:cb f N) (hN:N<=150):p.length<=100000:=by
 have hm: ∀t∈p,(-N<=aJ t.1/\aJ t.1<=N)/\ -N<=aB t.1/\aB t.1<=N:=fun t ht=>hs _ (h.mem ht).2;have ha:fi (p.map fun t=>(aJ t.1*301+aB t.1,t.2)):=by
  refine ⟨?_,fun t ht=>?_⟩
  ·rw [List.pairwise_map];refine h.asc.asc.imp_of_mem fun {a b} ma mb mQ=>?_;have h1:=hm a ma;have h2:=hm b mb;rcases (VY _ _).1 mQ with h3|⟨h3,h4⟩
   ·show aJ a.1*301+aB a.1<aJ b.1*301+aB b.1;omega
   ·show aJ a.1*301+aB a.1<aJ b.1*301+aB b.1;omega
  ·obtain ⟨u,hu,rfl⟩:=List.mem_map.1 ht;exact h.asc.nz u hu
 have:=ha.len (a:= -45300) (b:=45300) fun t ht=>by
  obtain ⟨u,hu,rfl⟩:=List.mem_map.1 ht
  have:=hm u hu
  show-45300<=aJ u.1*301+aB u.1/\aJ u.1*301+aB u.1<=45300;omega
 simp only [List.length_map] at this;omega
theorem cM.oc {p:List (Int×Int)} {f:Int->Int} (h:cM p f) {N:Int} (hs:cb f N) {t:Int×Int} (ht:t∈p):(-N<=aJ t.1/\aJ t.1<=N)/\ -N<=aB t.1/\aB t.1<=N:=hs _ (h.mem ht).2
theorem Be {f:Int->Int} {N:Int} (hs:cb f N) (hN:N<=1048576): ∃p,cM p f:=by
 have oX: ∀e,f e≠0-> -20000000000000<=e/\e<=20000000000000:=fun e he=>by
  have h1:=hs e he;have h2:=rm e;unfold bA at h2;omega
 obtain ⟨M,hM⟩: ∃M:Nat,M=20000000000000:=⟨_,rfl⟩;refine ⟨tmI (-(M:Int)) ((List.range (2*M+1)).map fun (i:Nat)=>f ((i:Int)-M)),Sv _ _,fun e=>?_⟩;rw [Su];by_cases h0:f e=0
 ·rw [h0]
  split
  ·by_cases h1:(e- -(M:Int)).toNat<2*M+1
   ·simp only [zzB,zzO,List.getElem?_range h1,Option.map_some,Option.getD_some];rw [show (((e- -(M:Int)).toNat:Nat):Int)-M=e by omega,h0]
   ·rw [zzB,zzP (by simp;omega)];rfl
  ·rfl
 ·have:=oX e h0
  rw [zzJ (by omega)];have h1:(e- -(M:Int)).toNat<2*M+1:=by omega
  simp only [zzB,zzO,List.getElem?_range h1,Option.map_some,Option.getD_some];rw [show (((e- -(M:Int)).toNat:Nat):Int)-M=e by omega]
theorem cM.uniq {p q:List (Int×Int)} {f:Int->Int} (h:cM p f) (h':cM q f):p=q:=fi.ext h.asc h'.asc fun e=>by rw [h.cf,h'.cf]
theorem Tj (d:Int): ∀(p:List (Int×Int)) (e:Int),cfL (p.map fun t=>(t.1+d,t.2)) e=cfL p (e-d)
 |[],_=>rfl
 |t::p,e=>by
  simp only [List.map_cons,cfL];rw [Tj d p e];by_cases h:t.1+d=e
  ·rw [zzJ h,zzJ (by omega)]
  ·rw [zzI h,zzI (by omega)]
theorem cM.shift {p:List (Int×Int)} {f:Int->Int} (h:cM p f) (d:Int):cM (p.map fun t=>(t.1+d,t.2)) (fun e=>f (e-d)):=by
 refine ⟨⟨?_,fun t ht=>?_⟩,fun e=>by rw [Tj,h.cf]⟩
 ·rw [List.pairwise_map];exact h.asc.asc.imp fun {a b} mQ=>by show a.1+d<b.1+d;omega
 ·obtain ⟨u,hu,rfl⟩:=List.mem_map.1 ht;exact h.asc.nz u hu
open Go Go.RowKit
set_option maxRecDepth 100000
set_option maxHeartbeats 8000000
theorem Ti {p q r:List (Int×Int)} {f g:Int->Int} {N:Int} (c:Int) (hc:c=1\/c= -1) (hp:cM p f) (hq:cM q g) (sp:cb f N) (sq:cb g N) (hN:N<=150) (bp:nL f) (bq:nL g) (hr:cM r (fun e=>f e+c*g e)) (br:nL fun e=>f e+c*g e):
  Fn Tryz.prog 79 [iy false p,iy false q,I c] (iy false r):=by
 have lp:=hp.kL sp hN;have lq:=hq.kL sq hN;have cp:=pU p;have cq:=pU q;have mp: ∀t∈p,-1125899906842624<=t.2/\t.2<=1125899906842624:=fun t ht=>by rw [(hp.mem ht).1];exact bp _
 have mq: ∀t∈q,-1125899906842624<=t.2/\t.2<=1125899906842624:=fun t ht=>by rw [(hq.mem ht).1];exact bq _
 have M1:=oM.nil.add (c:=1) (d:=0) (p:=p) fun t ht=>by have:=mp t ht;omega
 have M2:=M1.add (c:=c) (d:=0) (p:=q) fun t ht=>by have:=mq t ht;rcases hc with rfl|rfl<;>omega
 have hv: ∀e,mVal (mAdd c 0 (mAdd 1 0 [] p) q) e=f e+c*g e:=fun e=>by
  rw [JN,JN,MS,Int.sub_zero,hp.cf,hq.cf];omega
 have sr:cb (fun e=>f e+c*g e) N:=sp.add sq c;refine Fn.aG [.cell 6 29] Tryz.func79 rfl rfl (by decide) (by simp [Tryz.ntmps79]) ?_;rw [Tryz.ntmps79]
 repeat' (first|omega|(try apply ah);simp only [go_sem,sevalprocAttr]|apply ag<;>(intro h_;(try simp only [h_]);revert h_)|apply zzL|with_reducible intro h_|trivial|simp only [go_sem,ai];omega)
 refine qD.makeMap (kt:=109) (et:=107) (n:=p.length+q.length) rfl (by simp only [go_sem,sevalprocAttr]) (by simp only [go_sem,sevalprocAttr]) rfl ?_
 repeat' (first|omega|(try apply ah);simp only [go_sem,sevalprocAttr]|apply ag<;>(intro h_;(try simp only [h_]);revert h_)|apply zzL|with_reducible intro h_|trivial|simp only [go_sem,ai];omega)
 refine ⟨aL.inline (Tk 1 (.inl rfl) p p q lp mp [] 0 oM.nil (by omega) (by simp only [go_sem,sevalprocAttr,Ek,eG]) ?_)⟩
 repeat' (first|omega|(try apply ah);simp only [go_sem,sevalprocAttr]|apply ag<;>(intro h_;(try simp only [h_]);revert h_)|apply zzL|with_reducible intro h_|trivial|simp only [go_sem,ai];omega)
 refine ⟨aL.inline (Tk c hc q p q lq mq (mAdd 1 0 [] p) (0+p.length) M1 (by omega) (by simp only [go_sem,sevalprocAttr,Ek,eG]) ?_)⟩
 repeat' (first|omega|(try apply ah);simp only [go_sem,sevalprocAttr]|apply ag<;>(intro h_;(try simp only [h_]);revert h_)|apply zzL|with_reducible intro h_|trivial|simp only [go_sem,ai];omega)
 refine ⟨aL.inline (Vm (mAdd c 0 (mAdd 1 0 [] p) q) (0+p.length+q.length) M2 (by omega) (by have:=M2.len;omega) (fun e=>by rw [hv];exact br e) (fun e he=>by rw [hv] at he;have:=sr e he;omega) (fr':=[(6, .ptr 2 0)]) (Wk.sub ?_ ?_) (by simp only [go_sem,sevalprocAttr,HL]) rfl fun r' nS qA=>?_)⟩
 ·simp only [go_sem,sevalprocAttr]
 ·simp only [go_sem,sevalprocAttr,↓ur]
  all_goals exact wN _ (fun _ _ _ _=>rfl) _ _
 obtain rfl:r'=r:=fi.ext nS.asc hr.asc fun e=>by rw [nS.cf,hr.cf,hv]
 repeat' (first|omega|(try apply ah);simp only [go_sem,sevalprocAttr]|apply ag<;>(intro h_;(try simp only [h_]);revert h_)|apply zzL|with_reducible intro h_|trivial|simp only [go_sem,ai];omega)
 all_goals first
  |exact Kb _ _ ‹_›
  |exact WB r' _
  |(rw [pU];omega)
theorem y86 {p q r:List (Int×Int)} {f g:Int->Int} {N:Int} (hp:cM p f) (hq:cM q g) (sp:cb f N) (sq:cb g N) (hN:N<=150) (bp:nL f) (bq:nL g) (hr:cM r (fun e=>f e+1*g e)) (br:nL fun e=>f e+1*g e):
  Fn Tryz.prog 30 [iy false p,iy false q] (iy false r):=by
 have h:=Ti 1 (.inl rfl) hp hq sp sq hN bp bq hr br;refine Fn.aG [.cell 4 29] Tryz.func30 rfl rfl (by decide) (by simp [Tryz.ntmps30]) ?_;rw [Tryz.ntmps30]
 repeat' (first|omega|(try apply ah);simp only [go_sem,sevalprocAttr,eG]|(refine ⟨aL.fn (r:=?_) rfl ?_ ?_⟩;rotate_left;assumption)|(refine ⟨bS.fn (r:=?_) rfl ?_ ?_⟩;rotate_left;assumption)|apply ag<;>(intro h_;(try simp only [h_]);revert h_)|apply zzL|with_reducible intro h_|trivial|simp only [go_sem,ai];omega)
 all_goals exact bE.refl _
theorem RY {p q r:List (Int×Int)} {f g:Int->Int} {N:Int} (hp:cM p f) (hq:cM q g) (sp:cb f N) (sq:cb g N) (hN:N<=150) (bp:nL f) (bq:nL g) (hr:cM r (fun e=>f e+ -1*g e)) (br:nL fun e=>f e+ -1*g e):
  Fn Tryz.prog 43 [iy false p,iy false q] (iy false r):=by
 have h:=Ti (-1) (.inr rfl) hp hq sp sq hN bp bq hr br;refine Fn.aG [.cell 4 29] Tryz.func43 rfl rfl (by decide) (by simp [Tryz.ntmps43]) ?_;rw [Tryz.ntmps43]
 repeat' (first|omega|(try apply ah);simp only [go_sem,sevalprocAttr,eG]|(refine ⟨aL.fn (r:=?_) rfl ?_ ?_⟩;rotate_left;assumption)|(refine ⟨bS.fn (r:=?_) rfl ?_ ?_⟩;rotate_left;assumption)|apply ag<;>(intro h_;(try simp only [h_]);revert h_)|apply zzL|with_reducible intro h_|trivial|simp only [go_sem,ai];omega)
 all_goals exact bE.refl _
def z6 (a b:Int):Int:=if a<b then b else a
def bvHt (p:List (Int×Int)):Nat->Int
 |0=>0
 |k+1=>z6 (z6 (bvHt p k) (p.getD k (0,0)).2) (-(p.getD k (0,0)).2)
theorem JM {p:List (Int×Int)} {B:Int} (h0:0<=B) (h: ∀i,-B<=(p.getD i (0,0)).2/\(p.getD i (0,0)).2<=B): ∀k,0<=bvHt p k/\bvHt p k<=B
 |0=>⟨Int.le_refl _,h0⟩
 |k+1=>by
  have:=JM h0 h k
  have:=h k
  simp only [bvHt,z6]
  split<;>split<;>omega
theorem U2 (p:List (Int×Int)) (hp:p.length<=100000) (hb: ∀i,-1125899906842624<=(p.getD i (0,0)).2/\(p.getD i (0,0)).2<=1125899906842624):Fn Tryz.prog 74 [iy false p] (I (bvHt p p.length)):=by
 have hc:=pU p;have hB:=JM (p:=p) (B:=1125899906842624) (by decide) hb;refine Fn.intro [.tmp 2] Tryz.func74 rfl rfl (by decide) (by simp [Tryz.ntmps74]) ?_;rw [Tryz.ntmps74]
 repeat' (first|omega|(try apply ah);simp only [go_sem,sevalprocAttr,hc]|apply ag<;>(intro h_;(try simp only [h_]);revert h_)|apply zzL|with_reducible intro h_|trivial|simp only [go_sem,ai];omega)
 refine cN.intro (fun n fr H=> ∃k:Nat,k<=p.length/\n=p.length-k/\fr=[(9,I k),(8,I p.length),(7,pD p),(3,I (bvHt p k))]/\H=[]) ?_ ?_
 ·refine ⟨_,_,_,Wk.sub ?_ ?_,0,by omega,rfl,rfl,rfl⟩
  ·simp only [go_sem,sevalprocAttr,eG,bvHt]
  ·simp only [go_sem,sevalprocAttr]
 rintro n fr H ⟨k,hk,rfl,rfl,rfl⟩;have hBk:=hB k;by_cases cJ:k<p.length
 ·have bk:decide ((k:Int)<p.length)=true:=by simp;omega
  obtain ⟨g0,g1,g2⟩:=A2 p k cJ;have hv:=hb k;have es:bvHt p (k+1)=z6 (z6 (bvHt p k) (p.getD k (0,0)).2) (-(p.getD k (0,0)).2):=rfl;generalize aJ (p.getD k (0,0)).1=x at*;generalize aB (p.getD k (0,0)).1=y at*;generalize (p.getD k (0,0)).2=v at*;have Zc:bvHt p (k+1)=z6 (z6 (bvHt p k) v) (0-v):=by rw [es];congr 1;omega
  unfold z6 at Zc;generalize bvHt p k=h at*
  repeat' (first|omega|(try apply ah);simp only [go_sem,sevalprocAttr,bk,hc,g0,g1,g2]|apply ag<;>(intro h_;(try simp only [h_]);revert h_)|apply zzL|with_reducible intro h_|trivial|simp only [go_sem,ai];omega)
  refine ⟨_,_,_,?_,Wk.sub ?_ ?_,k+1,by omega,rfl,rfl,rfl⟩
  ·omega
  ·simp only [go_sem,sevalprocAttr,eG,Zc]
  ·simp only [go_sem,sevalprocAttr]
 ·obtain rfl:k=p.length:=by omega
  have bk:decide ((p.length:Int)<p.length)=false:=by simp
  repeat' (first|omega|(try apply ah);simp only [go_sem,sevalprocAttr,bk]|apply ag<;>(intro h_;(try simp only [h_]);revert h_)|apply zzL|with_reducible intro h_|trivial|simp only [go_sem,ai];omega)
def AU:Tr:= .node [(0, .node [(1,trD [2,3,4,5]),(2,trD [1,3,4,5])]),(2,trD [0,1,3,4,5])]
def vW:List (List Nat):=[[63,64,65,66,67,68,69,70,71,72],[62,64,65,66,67,68,69,70,71,72],[62,63,65,67,68,69,70,71],[62,63,64,67,68,69,70,71],[62,63,67,68,69,70,71],[62,63,64,65,66,69,70],[62,63,64,65,66,69,70],[62,63,64,65,66,67,68],[62,63,64,65,66,67,68],[62,63,64,65,66],[62,63],[]]
def vV:List (List Nat):=[[],[0],[0,1],[0,1,2],[0,1],[0,1,2,3,4],[0,1,2,3,4],[0,1,2,3,4,5,6],[0,1,2,3,4,5,6],[0,1,2,3,4],[0,1],[]]
theorem RX (p:List (Int×Int)): ∀(k i:Nat),i<k->(p.getD i (0,0)).2<=bvHt p k/\ -(p.getD i (0,0)).2<=bvHt p k
 |0,i,h=>by omega
 |k+1,i,h=>by
  have h1:bvHt p k<=bvHt p (k+1)/\(p.getD k (0,0)).2<=bvHt p (k+1)/\ -(p.getD k (0,0)).2<=bvHt p (k+1):=by
   simp only [bvHt,z6]
   split<;>split<;>omega
  rcases zzV i k with hi|hi
  ·have:=RX p k i hi;omega
  ·obtain rfl:i=k:=by omega
   omega
theorem RW {p:List (Int×Int)} {B:Int} (h0:0<=B) (h: ∀t∈p,-B<=t.2/\t.2<=B) (k:Nat):bvHt p k<=B:=by
 refine (JM h0 (fun i=>?_) k).2;by_cases hi:i<p.length
 ·rw [zzB,zzH hi];exact h _ (List.getElem_mem _)
 ·rw [zzB,zzP (by omega)];simp only [Option.getD_none];omega
theorem VM {x y A B:Int} (hx: -A<=x/\x<=A) (hy: -B<=y/\y<=B): -(A*B)<=x*y/\x*y<=A*B:=by
 have h1:x.natAbs<=A.toNat:=by omega
 have h2:y.natAbs<=B.toNat:=by omega
 have h3:=Nat.mul_le_mul h1 h2;rw [<-Int.natAbs_mul] at h3;have h4:((A.toNat*B.toNat:Nat):Int)=A*B:=by
  rw [Int.natCast_mul,Int.toNat_of_nonneg (by omega),Int.toNat_of_nonneg (by omega)]
 omega
abbrev muH (m:bg) (p q:List (Int×Int)) (t:Int×Int):Hp:=[(4, .cells 74 (.lst [I (aJ t.1),I (aB t.1),I t.2])),(3, .gmap y8 m.length (gmL 0 m)),(2,AE),(1, .cells 29 (.lst [.bool false,pD q])),(0, .cells 29 (.lst [.bool false,pD p]))]
abbrev O7 (m:bg) (p q:List (Int×Int)):Hp:=[(3, .gmap y8 m.length (gmL 0 m)),(2,AE),(1, .cells 29 (.lst [.bool false,pD q])),(0, .cells 29 (.lst [.bool false,pD p]))]
theorem RV {p q r:List (Int×Int)} {f g:Int->Int} {N:Int} {A B:Int} (hp:cM p f) (hq:cM q g) (rD:p≠[]) (Bu:q≠[]) (sp:cb f N) (sq:cb g N) (hN:N<=150)
  (hA: ∀e,-A<=f e/\f e<=A) (hB: ∀e,-B<=g e/\g e<=B) (Y7:A*B<=1125899906842624) (K6:A<=1125899906842624) (QO:1<=B/\B<=1125899906842624) (hr:cM r (fun e=>cvL p g e)) (br:nL fun e=>cvL p g e) (sr:cb (fun e=>cvL p g e) 1000000):
  Fn Tryz.prog 25 [iy false p,iy false q] (iy false r):=by
 have lp:=hp.kL sp hN;have lq:=hq.kL sq hN;have cp:=pU p;have cq:=pU q;have mp: ∀t∈p,-A<=t.2/\t.2<=A:=fun t ht=>by rw [(hp.mem ht).1];exact hA _
 have mq: ∀t∈q,-B<=t.2/\t.2<=B:=fun t ht=>by rw [(hq.mem ht).1];exact hB _
 have A0:0<=A:=by have:=hA 0;omega
 have mm: ∀s∈p,∀t∈q,-1125899906842624<=s.2*t.2/\s.2*t.2<=1125899906842624:=fun s hs t ht=>by
  have:=VM (mp s hs) (mq t ht);omega
 have p0:0<p.length:=List.length_pos_iff.2 rD;have q0:0<q.length:=List.length_pos_iff.2 Bu;have Q6:((p.length:Int)==0)=false:=by rw [zzU];omega
 have bq0:((q.length:Int)==0)=false:=by rw [zzU];omega
 have gB: ∀(l:List (Int×Int)) (C:Int),C<=1125899906842624->(∀t∈l,-C<=t.2/\t.2<=C)-> ∀i,-1125899906842624<=(l.getD i (0,0)).2/\(l.getD i (0,0)).2<=1125899906842624:=fun l C hC h i=>by
  by_cases hi:i<l.length
  ·rw [zzB,zzH hi];have:=h _ (List.getElem_mem hi);simp only [Option.getD_some];omega
  ·rw [zzB,zzP (by omega)];simp
 have hP:=U2 p lp (gB p A K6 mp);have hQ:=U2 q lq (gB q B QO.2 mq);have uP:bvHt p p.length<=A:=RW A0 mp _;have lP:0<=bvHt p p.length:=(JM (B:=1125899906842624) (by decide) (gB p A K6 mp) _).1;have uQ:bvHt q q.length<=B:=RW (by omega) mq _;have lQ:1<=bvHt q q.length:=by
  have h1:=RX q q.length 0 q0;have h2:q.getD 0 (0,0)∈q:=MH q0;have h3:=hq.asc.nz _ h2;omega
 obtain ⟨D,hD⟩: ∃D,(1125899906842624:Int).tdiv (bvHt q q.length)=D:=⟨_,rfl⟩;have Y5:bvHt p p.length<=D/\D<=1125899906842624:=by
  rw [Int.tdiv_eq_ediv_of_nonneg (by decide)] at hD;rw [<-hD];refine ⟨(Int.le_ediv_iff_mul_le (by omega)).2 ?_,Int.ediv_le_self _ (by decide)⟩
  have:=VM (x:=bvHt p p.length) (y:=bvHt q q.length) (A:=A) (B:=B) (by omega) (by omega)
  omega
 have bD:decide (D<bvHt p p.length)=false:=by rw [decide_eq_false_iff_not];omega
 have qn:(bvHt q q.length=0)=False:=zzK (by omega);generalize bvHt p p.length=HP at*;generalize bvHt q q.length=HQ at*;refine Fn.aG [.cell 4 29] Tryz.func25 rfl rfl (by decide) (by simp [Tryz.ntmps25]) ?_;rw [Tryz.ntmps25]
 repeat' (first|omega|(first|apply ah|(refine ba.intro (id:=5) [[31],[31],[29,30],[],[],[]] [[],[],[0,1],[],[],[]] (by decide+kernel) mixed ?_)|(refine ba.bR (id:=5) (AU) (by decide+kernel) mixed ?_)|(refine ba.aG (id:=15) vW vV (by decide+kernel) mixed ?_)|(refine ba.intro (id:=15) vW vV (by decide+kernel) mixed ?_)|skip);simp only [go_sem,sevalprocAttr,Q6,bq0,eG,hD,bD,qn,↓reduceIte,reduceCtorEq,AU,vW,vV]|(refine ⟨aL.fn (r:=?_) rfl ?_ ?_⟩;rotate_left;assumption)|(refine ⟨bS.fn (r:=?_) rfl ?_ ?_⟩;rotate_left;assumption)|apply ag<;>(intro h_;(try simp only [h_]);revert h_)|apply zzL|with_reducible intro h_|trivial|simp only [go_sem,ai];omega)
 have K0: ∀i,i<=p.length->oM (jd q [] (p.take i)) (i*q.length):=fun i hi=>by
  have:=oM.nil.mul (q:=q) (p:=p.take i) fun s hs t ht=>mm s (List.mem_of_mem_take hs) t ht
  rwa [List.length_take,Nat.min_eq_left hi,Nat.zero_add] at this
 refine cN.intro (fun n fr H=> ∃i:Nat,i<=p.length/\n=p.length-i/\fr=[(40,I i),(39,I p.length),(38,pD p),(5, .mp 3),(4, .ptr 2 0),(3, .ptr 1 0),(2, .ptr 0 0)]/\H=O7 (jd q [] (p.take i)) p q) ?_ ?_
 ·refine ⟨_,_,_,Wk.sub ?_ ?_,0,by omega,rfl,rfl,rfl⟩
  ·simp only [go_sem,sevalprocAttr,eG]
  ·simp only [go_sem,sevalprocAttr,eG,List.take_zero,jd,gmL]
   all_goals rfl
 rintro n fr H ⟨i,hi,rfl,rfl,rfl⟩;by_cases pO:i<p.length
 ·have bi:decide ((i:Int)<p.length)=true:=by simp;omega
  obtain ⟨g0,g1,g2⟩:=A2 p i pO;have uF:p.getD i (0,0)∈p:=MH pO;have es:p.take (i+1)=p.take i++[p.getD i (0,0)]:=by rw [List.take_succ_eq_append_getElem pO];simp [pO]
  have em:jd q [] (p.take (i+1))=mAdd (p.getD i (0,0)).2 (p.getD i (0,0)).1 (jd q [] (p.take i)) q:=by rw [es,Uz]
  have hM:=K0 i hi;have hiq:i*q.length+q.length<=10000000000:=by
   have:=Nat.mul_le_mul (show i+1<=100000 by omega) lq
   rw [Nat.add_mul] at this;omega
  have hsS:=hp.oc sp uF;have oX:=mm _ uF;have hsA:=mp _ uF;generalize hmi:jd q [] (p.take i)=mi at*;generalize p.getD i (0,0)=s at*
  repeat' (first|omega|(first|apply ah|(refine ba.intro (id:=5) [[31],[31],[29,30],[],[],[]] [[],[],[0,1],[],[],[]] (by decide+kernel) mixed ?_)|(refine ba.bR (id:=5) (AU) (by decide+kernel) mixed ?_)|(refine ba.aG (id:=15) vW vV (by decide+kernel) mixed ?_)|(refine ba.intro (id:=15) vW vV (by decide+kernel) mixed ?_)|skip);simp only [go_sem,sevalprocAttr,bi,cp,g0,g1,g2,eG,↓reduceIte,reduceCtorEq,AU,vW,vV]|(refine ⟨aL.fn (r:=?_) rfl ?_ ?_⟩;rotate_left;assumption)|(refine ⟨bS.fn (r:=?_) rfl ?_ ?_⟩;rotate_left;assumption)|apply ag<;>(intro h_;(try simp only [h_]);revert h_)|apply zzL|with_reducible intro h_|trivial|simp only [go_sem,ai];omega)
  have hMk: ∀k,k<=q.length->oM (mAdd s.2 s.1 mi (q.take k)) (i*q.length+k):=fun k hk=>by
   have:=hM.add (c:=s.2) (d:=s.1) (p:=q.take k) fun t ht=>oX t (List.mem_of_mem_take ht)
   rwa [List.length_take,Nat.min_eq_left hk] at this
  refine cN.intro (fun n fr H=> ∃k:Nat,k<=q.length/\n=q.length-k/\fr=[(47,I k),(46,I q.length),(45,pD q),(7, .ptr 4 0),(40,I i),(39,I p.length),(38,pD p),(5, .mp 3),(4, .ptr 2 0),(3, .ptr 1 0),(2, .ptr 0 0)]/\H=muH (mAdd s.2 s.1 mi (q.take k)) p q s) ?_ ?_
  ·refine ⟨_,_,_,Wk.sub ?_ ?_,0,by omega,rfl,rfl,rfl⟩
   ·simp only [go_sem,sevalprocAttr,eG]
   ·simp only [go_sem,sevalprocAttr,eG,List.take_zero,mAdd,↓ur]
    all_goals exact wN _ (fun _ _ _ _=>rfl) _ _
  rintro n fr H ⟨k,hk,rfl,rfl,rfl⟩;by_cases cJ:k<q.length
  ·have bk:decide ((k:Int)<q.length)=true:=by simp;omega
   obtain ⟨k0,k1,k2⟩:=A2 q k cJ;have Py:q.getD k (0,0)∈q:=MH cJ;have et:q.take (k+1)=q.take k++[q.getD k (0,0)]:=by rw [List.take_succ_eq_append_getElem cJ];simp [cJ]
   have em:mAdd s.2 s.1 mi (q.take (k+1))=mPut (mAdd s.2 s.1 mi (q.take k)) (s.1+(q.getD k (0,0)).1) (s.2*(q.getD k (0,0)).2):=by rw [et,Nu]
   have hMm:=hMk k hk;have htS:=hq.oc sq Py;have rE:=oX _ Py;have htB:=mq _ Py;generalize xA:mAdd s.2 s.1 mi (q.take k)=mk at*;generalize xz:mAdd s.2 s.1 mi (q.take (k+1))=p6 at*;generalize q.getD k (0,0)=t at*;have eA:=ME (e:=s.1) (e':=t.1) (by unfold re;omega) (by unfold re;omega);have ek:dV (aJ s.1+aJ t.1) (aB s.1+aB t.1)=kE (s.1+t.1):=by rw [<-eA.1,<-eA.2]
   cases hf:wG mk (s.1+t.1) with
   |none=>
    obtain ⟨f1,f2,f3⟩:=MO (s.2*t.2) 0 hf;have og:=Kg 0 0 (s.2*t.2) (by omega) (by omega) (by unfold InI;omega)
    repeat' (first|omega|(first|apply ah|(refine ba.intro (id:=5) [[31],[31],[29,30],[],[],[]] [[],[],[0,1],[],[],[]] (by decide+kernel) mixed ?_)|(refine ba.bR (id:=5) (AU) (by decide+kernel) mixed ?_)|(refine ba.aG (id:=15) vW vV (by decide+kernel) mixed ?_)|(refine ba.intro (id:=15) vW vV (by decide+kernel) mixed ?_)|skip);simp only [go_sem,sevalprocAttr,bk,cq,k0,k1,k2,↓ur,ek,f1,f2,f3,eG,↓reduceIte,reduceCtorEq,AU,vW,vV]|(refine ⟨aL.fn (r:=?_) rfl ?_ ?_⟩;rotate_left;assumption)|(refine ⟨bS.fn (r:=?_) rfl ?_ ?_⟩;rotate_left;assumption)|apply ag<;>(intro h_;(try simp only [h_]);revert h_)|apply zzL|with_reducible intro h_|trivial|simp only [go_sem,ai];omega)
    any_goals exact wN _ (fun _ _ _ _=>rfl) _ _
    refine ⟨_,_,_,?_,Wk.sub ?_ ?_,k+1,by omega,rfl,rfl,rfl⟩
    ·omega
    ·simp only [go_sem,sevalprocAttr,eG]
    ·rw [xz,em];simp only [go_sem,sevalprocAttr,eG,↓ur,f3]
     all_goals first|exact wN _ (fun _ _ _ _=>rfl) _ _|(rw [Nat.zero_add] at f2;exact congrArg (AObj.gmap y8 _) f2)
   |some hl=>
    obtain ⟨h,l⟩:=hl;obtain ⟨b,f1,f2,f3⟩:=MP (s.2*t.2) 0 hf;have hBn:(-((i*q.length+k:Nat)*67108864:Int)<=h/\h<=(i*q.length+k:Nat)*67108864)/\0<=l/\l<=(i*q.length+k:Nat)*33554432:=hMm.bn _ (Nv hf);generalize i*q.length=iq at*;have og:=Kg h l (s.2*t.2) (by omega) (by omega) (by unfold InI;omega)
    repeat' (first|omega|(first|apply ah|(refine ba.intro (id:=5) [[31],[31],[29,30],[],[],[]] [[],[],[0,1],[],[],[]] (by decide+kernel) mixed ?_)|(refine ba.bR (id:=5) (AU) (by decide+kernel) mixed ?_)|(refine ba.aG (id:=15) vW vV (by decide+kernel) mixed ?_)|(refine ba.intro (id:=15) vW vV (by decide+kernel) mixed ?_)|skip);simp only [go_sem,sevalprocAttr,bk,cq,k0,k1,k2,↓ur,ek,f1,f2,f3,eG,↓reduceIte,reduceCtorEq,AU,vW,vV]|(refine ⟨aL.fn (r:=?_) rfl ?_ ?_⟩;rotate_left;assumption)|(refine ⟨bS.fn (r:=?_) rfl ?_ ?_⟩;rotate_left;assumption)|apply ag<;>(intro h_;(try simp only [h_]);revert h_)|apply zzL|with_reducible intro h_|trivial|simp only [go_sem,ai];omega)
    any_goals exact wN _ (fun _ _ _ _=>rfl) _ _
    refine ⟨_,_,_,?_,Wk.sub ?_ ?_,k+1,by omega,rfl,rfl,rfl⟩
    ·omega
    ·simp only [go_sem,sevalprocAttr,eG]
    ·rw [xz,em];simp only [go_sem,sevalprocAttr,eG,↓ur,f3]
     all_goals exact wN _ (fun _ _ _ _=>rfl) _ _
  ·obtain rfl:k=q.length:=by omega
   have bk:decide ((q.length:Int)<q.length)=false:=by simp
   rw [List.take_length];rw [<-em]
   repeat' (first|omega|(try apply ah);simp only [go_sem,sevalprocAttr,bk]|apply ag<;>(intro h_;(try simp only [h_]);revert h_)|apply zzL|with_reducible intro h_|trivial|simp only [go_sem,ai];omega)
   refine ⟨_,_,_,?_,Wk.sub ?_ ?_,i+1,by omega,rfl,rfl,rfl⟩
   ·omega
   ·simp only [go_sem,sevalprocAttr,eG]
   ·simp only [go_sem,sevalprocAttr,eG,↓ur]
    all_goals exact wN _ (fun _ _ _ _=>rfl) _ _
 ·obtain rfl:i=p.length:=by omega
  have bi:decide ((p.length:Int)<p.length)=false:=by simp
  have hM:=K0 p.length (zzA _);rw [List.take_length] at hM⊢;have hv: ∀e,mVal (jd q [] p) e=cvL p g e:=fun e=>by
   rw [Tx,MS,Int.zero_add];congr 1;funext x;exact hq.cf x
  repeat' (first|omega|(try apply ah);simp only [go_sem,sevalprocAttr,bi]|apply ag<;>(intro h_;(try simp only [h_]);revert h_)|apply zzL|with_reducible intro h_|trivial|simp only [go_sem,ai];omega)
  have hKl:(jd q [] p).length<=1000000:=by
   refine s4.len (M:=2*N) (s4.mul (fun _ h=>by cases h) fun s hs t ht=>?_) hM.nd (by omega);have h1:=hp.oc sp hs;have h2:=hq.oc sq ht
   have:=ME (e:=s.1) (e':=t.1) (by unfold re;omega) (by unfold re;omega)
   omega
  have pN:p.length*q.length<=10000000000:=Nat.mul_le_mul lp lq;refine ⟨aL.inline (Vm (jd q [] p) (p.length*q.length) hM pN hKl (fun e=>by rw [hv];exact br e) (fun e he=>by rw [hv] at he;have:=sr e he;omega) (fr':=[(4, .ptr 2 0)]) (Wk.sub ?_ ?_) (by simp only [go_sem,sevalprocAttr,HL]) rfl fun r' nS qA=>?_)⟩
  ·simp only [go_sem,sevalprocAttr]
  ·simp only [go_sem,sevalprocAttr,↓ur]
   all_goals exact wN _ (fun _ _ _ _=>rfl) _ _
  obtain rfl:r'=r:=fi.ext nS.asc hr.asc fun e=>by rw [nS.cf,hr.cf,hv]
  repeat' (first|omega|(try apply ah);simp only [go_sem,sevalprocAttr]|apply ag<;>(intro h_;(try simp only [h_]);revert h_)|apply zzL|with_reducible intro h_|trivial|simp only [go_sem,ai];omega)
  all_goals first
   |exact Kb _ _ ‹_›
   |exact WB r' _
   |(rw [pU];omega)
end Go.Proofs.YtjpbeacamoijhaaGreatDoor
