/- Layer 13: terms are added to the map of sums. -/
import Derived.Test.YtjpbeacamoijhaaGreatDoorZf
import Derived.Shelf.SlSortCmp.NoneTotal
import Derived.Test.YtjpbeacamoijhaaGreatDoorProg
import Derived.Test.YtjpbeacamoijhaaGreatDoorZb
import Derived.Test.YtjpbeacamoijhaaGreatDoorZc
import Derived.StillTailTactics
namespace Go.Proofs.YtjpbeacamoijhaaGreatDoor
open Go Go.RowKit
set_option maxRecDepth 100000
set_option maxHeartbeats 8000000
set_option linter.unusedVariables false
set_option linter.unusedSimpArgs false
def C6:List (List Nat):=[[20,21,22,23,24,25,26,27,28],[19,21,22,23,24,25,26,27,28],[19,20,22,24,25,26,27],[19,20,21,24,25,26,27],[19,20,24,25,26,27],[19,20,21,22,23,25,26],[19,20,21,22,23,24],[19,20,21,22,23,24],[19,20,21,22,23],[19,20],[]]
def C5:List (List Nat):=[[],[0],[0,1],[0,1,2],[0,1],[0,1,2,3,4],[0,1,2,3,4,5],[0,1,2,3,4,5],[0,1,2,3,4],[0,1],[]]
abbrev su:Nat:=105+1000000000
abbrev Jy (m:aP) (p q:List (Int×Int)):Hp:=[(4, .cells 105 (.lst [.mp 3])),(3, .gmap su m.length (gmL 0 m)),(2, .cells 29 (.lst [.bool false, .nils])),(1, .cells 29 (.lst [.bool false,mu q])),(0, .cells 29 (.lst [.bool false,mu p]))]
def Dw:Hp:=[(4, .gone),(3, .gone),(2, .gone),(1, .gone),(0, .gone)]
theorem MJ {H:Hp} (h: ∀i,i<5->(hget H i).isSome=true): ∀i,(hget Dw i).isSome=true->(hget H i).isSome=true:=fun i hi=>by
 by_cases h5:i<5
 ·exact h i h5
 ·simp only [Dw,hget] at hi
  repeat rw [if_neg (by omega)] at hi
  cases hi
theorem KD (m:aP) (p q:List (Int×Int)): ∀i,(hget Dw i).isSome=true->(hget (Jy m p q) i).isSome=true:=MJ fun i hi=>by
 rcases (show i=0\/i=1\/i=2\/i=3\/i=4 by omega) with rfl|rfl|rfl|rfl|rfl<;>rfl
theorem RB (c:Int) (hc:c=1\/c= -1) (P p q:List (Int×Int)) (hP:P.length<=100000) (hb: ∀t∈P,-1125899906842624<=t.2/\t.2<=1125899906842624) (m:aP) (j:Nat) (hm:lj m j) (hj:j<=1000000) {fr:Fr} (pd:fr.all (fun q=>s3 Dw q.2)=true) {K:AV->Fr->Hp->Prop}
  (hK:K (.tup []) fr (Jy (mAdd c 0 m P) p q)):qb Tryz.prog 118 [mu P,I c, .ptr 4 0] fr (Jy m p q) K:=by
 have DR:=pg P;refine qb.intro [] Tryz.func118 rfl rfl (by decide) (by simp [Tryz.ntmps118]) ?_;rw [Tryz.ntmps118]
 repeat' (first|omega|(try apply ah);simp only [go_sem,sevalprocAttr,DR]|apply ag<;>(intro h_;(try simp only [h_]);revert h_)|apply And.intro|with_reducible intro h_|trivial|simp only [go_sem,ai];omega)
 refine dn.intro (fun n fr' H=> ∃k:Nat,k<=P.length/\n=P.length-k/\fr'=[(10,I k),(9,I P.length),(8,mu P),(2, .ptr 4 0),(1,I c)]++lft fr/\H=Jy (mAdd c 0 m (P.take k)) p q) ?_ ?_
 ·refine ⟨_,_,_,?_,0,by omega,rfl,rfl,rfl⟩;refine Wk.tm (A:=[(10,I ((0:Nat):Int)),(9,I P.length),(8,mu P),(2, .ptr 4 0),(1,I c)]) pd ?_ ?_ (KD _ _ _) (fun t ht=>?_) rfl
  ·simp only [go_sem,sevalprocAttr,dq]
  ·simp only [go_sem,sevalprocAttr,dq,↓qe,List.take_zero,mAdd]
  ·simp only [fget]
   repeat rw [if_neg (by omega)]
 rintro n fr' H ⟨k,hk,rfl,rfl,rfl⟩;by_cases cT:k<P.length
 ·have bk:decide ((k:Int)<P.length)=true:=by simp;omega
  obtain ⟨g0,g1,g2⟩:=yO P k cT;have ht:=hb (P.getD k (0,0)) (by rw [List.getD_eq_getElem?_getD,List.getElem?_eq_getElem cT];exact List.getElem_mem _);have et:P.take (k+1)=P.take k++[P.getD k (0,0)]:=by rw [List.take_succ_eq_append_getElem cT];simp [cT]
  have em:mAdd c 0 m (P.take (k+1))=mPut (mAdd c 0 m (P.take k)) (P.getD k (0,0)).1 (c*(P.getD k (0,0)).2):=by rw [et,Mf,Int.zero_add]
  have hM:lj (mAdd c 0 m (P.take k)) (j+k):=by
   have:=hm.add (c:=c) (d:=0) (p:=P.take k) (fun t ht=>by have:=hb t (List.mem_of_mem_take ht);rcases hc with rfl|rfl<;>omega)
   rwa [List.length_take,Nat.min_eq_left hk] at this
  generalize vL:mAdd c 0 m (P.take k)=mk at*;generalize rB:mAdd c 0 m (P.take (k+1))=sR at*;generalize P.getD k (0,0)=t at*;have qO: -1125899906842624<=c*t.2/\c*t.2<=1125899906842624:=by rcases hc with rfl|rfl<;>omega
  cases hf:uw mk t.1 with
  |none=>
   obtain ⟨f1,f2,f3⟩:=Ex (c*t.2) 0 hf;have hp:=Dq 0 0 (c*t.2) (by omega) (by omega) (by unfold InI;omega)
   repeat' (first|omega|(first|apply ah|(refine bd.aH (id:=4) C6 C5 (by decide+kernel) mixed ?_)|(refine bd.intro (id:=4) C6 C5 (by decide+kernel) mixed ?_)|skip);simp only [go_sem,sevalprocAttr,bk,DR,g0,g1,g2,↓qe,f1,f2,f3,↓reduceIte,reduceCtorEq,C6,C5]|(refine ⟨aO.fn (r:=?_) rfl ?_ ?_⟩;rotate_left;assumption)|(refine ⟨c8.fn (r:=?_) rfl ?_ ?_⟩;rotate_left;assumption)|apply ag<;>(intro h_;(try simp only [h_]);revert h_)|apply And.intro|with_reducible intro h_|trivial|simp only [go_sem,ai];omega)
   any_goals exact A2 _ _ _
   refine ⟨_,_,_,?_,?_,k+1,by omega,rfl,rfl,rfl⟩
   ·omega
   ·refine Wk.tm (A:=[(10,I ((k+1:Nat):Int)),(9,I P.length),(8,mu P),(2, .ptr 4 0),(1,I c)]) pd ?_ ?_ (KD _ _ _) (fun t ht=>?_) rfl
    ·simp only [go_sem,sevalprocAttr,dq]
    ·rw [rB,em];simp only [go_sem,sevalprocAttr,dq,↓qe,f3]
     all_goals first|exact A2 _ _ _|(rw [Nat.zero_add] at f2;exact congrArg (AObj.gmap su _) f2)
    ·simp only [fget]
     repeat rw [if_neg (by omega)]
  |some hl=>
   obtain ⟨h,l⟩:=hl;obtain ⟨b,f1,f2,f3⟩:=LG (c*t.2) 0 hf;have hB:(-((j+k:Nat)*67108864:Int)<=h/\h<=(j+k:Nat)*67108864)/\0<=l/\l<=(j+k:Nat)*33554432:=hM.bn _ (Ji hf);have hp:=Dq h l (c*t.2) (by omega) (by omega) (by unfold InI;omega)
   repeat' (first|omega|(first|apply ah|(refine bd.aH (id:=4) C6 C5 (by decide+kernel) mixed ?_)|(refine bd.intro (id:=4) C6 C5 (by decide+kernel) mixed ?_)|skip);simp only [go_sem,sevalprocAttr,bk,DR,g0,g1,g2,↓qe,f1,f2,f3,↓reduceIte,reduceCtorEq,C6,C5]|(refine ⟨aO.fn (r:=?_) rfl ?_ ?_⟩;rotate_left;assumption)|(refine ⟨c8.fn (r:=?_) rfl ?_ ?_⟩;rotate_left;assumption)|apply ag<;>(intro h_;(try simp only [h_]);revert h_)|apply And.intro|with_reducible intro h_|trivial|simp only [go_sem,ai];omega)
   any_goals exact A2 _ _ _
   refine ⟨_,_,_,?_,?_,k+1,by omega,rfl,rfl,rfl⟩
   ·omega
   ·refine Wk.tm (A:=[(10,I ((k+1:Nat):Int)),(9,I P.length),(8,mu P),(2, .ptr 4 0),(1,I c)]) pd ?_ ?_ (KD _ _ _) (fun t ht=>?_) rfl
    ·simp only [go_sem,sevalprocAttr,dq]
    ·rw [rB,em];simp only [go_sem,sevalprocAttr,dq,↓qe,f3]
     all_goals exact A2 _ _ _
    ·simp only [fget]
     repeat rw [if_neg (by omega)]
 ·obtain rfl:k=P.length:=by omega
  have bk:decide ((P.length:Int)<P.length)=false:=by simp
  rw [List.take_length]
  repeat' (first|omega|(try apply ah);simp only [go_sem,sevalprocAttr,bk]|apply ag<;>(intro h_;(try simp only [h_]);revert h_)|apply And.intro|with_reducible intro h_|trivial|simp only [go_sem,ai];omega)
  all_goals exact hK
end Go.Proofs.YtjpbeacamoijhaaGreatDoor
set_option linter.unusedSimpArgs false
set_option linter.unusedVariables false
namespace Go.Proofs.YtjpbeacamoijhaaGreatDoor
open Go Go.RowKit
set_option maxRecDepth 100000
def ZT:Go.Shelf.Ren:=⟨fun|6=>112|14=>154|15=>155|20=>178|21=>179|22=>180|23=>181|24=>182|25=>183|26=>184|27=>185|28=>186|29=>187|46=>198|47=>199|48=>200|49=>201|50=>202|57=>207|n=>n,fun|0=>0|3=>3|4=>4|5=>5|9=>9|22=>27|24=>74|25=>142|39=>138|45=>196|46=>197|50=>126|53=>203|55=>149|66=>209|70=>213|76=>217|77=>218|n=>n,fun n=>n⟩
theorem y4r:SlLaysF0.n6 Tryz.prog ZT:={
 mixed:=by kernel_rfl
 f6:=⟨"slices.SortFunc[[]unravel/bivariate.term,unravel/bivariate.term]",by decide,Tryz.func112.trans (congrArg some (by kernel_rfl))⟩
 f14:=⟨"slices.pdqsortCmpFunc[unravel/bivariate.term]",by decide,Tryz.func154.trans (congrArg some (by kernel_rfl))⟩
 f15:=Tryz.func155.trans (congrArg some (by kernel_rfl))
 f20:=⟨"slices.insertionSortCmpFunc[unravel/bivariate.term]",by decide,Tryz.func178.trans (congrArg some (by kernel_rfl))⟩
 f21:=⟨"slices.heapSortCmpFunc[unravel/bivariate.term]",by decide,Tryz.func179.trans (congrArg some (by kernel_rfl))⟩
 f22:=⟨"slices.breakPatternsCmpFunc[unravel/bivariate.term]",by decide,Tryz.func180.trans (congrArg some (by kernel_rfl))⟩
 f23:=⟨"slices.choosePivotCmpFunc[unravel/bivariate.term]",by decide,Tryz.func181.trans (congrArg some (by kernel_rfl))⟩
 f24:=⟨"slices.reverseRangeCmpFunc[unravel/bivariate.term]",by decide,Tryz.func182.trans (congrArg some (by kernel_rfl))⟩
 f25:=⟨"slices.partialInsertionSortCmpFunc[unravel/bivariate.term]",by decide,Tryz.func183.trans (congrArg some (by kernel_rfl))⟩
 f26:=⟨"slices.partitionEqualCmpFunc[unravel/bivariate.term]",by decide,Tryz.func184.trans (congrArg some (by kernel_rfl))⟩
 f27:=⟨"slices.partitionCmpFunc[unravel/bivariate.term]",by decide,Tryz.func185.trans (congrArg some (by kernel_rfl))⟩
 f28:=Tryz.func186.trans (congrArg some (by kernel_rfl))
 f29:=Tryz.func187.trans (congrArg some (by kernel_rfl))
 f46:=⟨"slices.siftDownCmpFunc[unravel/bivariate.term]",by decide,Tryz.func198.trans (congrArg some (by kernel_rfl))⟩
 f47:=Tryz.func199.trans (congrArg some (by kernel_rfl))
 f48:=Tryz.func200.trans (congrArg some (by kernel_rfl))
 f49:=⟨"slices.medianAdjacentCmpFunc[unravel/bivariate.term]",by decide,Tryz.func201.trans (congrArg some (by kernel_rfl))⟩
 f50:=⟨"slices.medianCmpFunc[unravel/bivariate.term]",by decide,Tryz.func202.trans (congrArg some (by kernel_rfl))⟩
 f57:=⟨"slices.order2CmpFunc[unravel/bivariate.term]",by decide,Tryz.func207.trans (congrArg some (by kernel_rfl))⟩
 t0:=Tryz.underlying0
 a0:=Tryz.isAgg0
 z0:=Tryz.sizeOf0
 v0:=Tryz.zeroValue0
 t3:=Tryz.underlying3
 a3:=Tryz.isAgg3
 z3:=Tryz.sizeOf3
 v3:=Tryz.zeroValue3
 t4:=Tryz.underlying4
 a4:=Tryz.isAgg4
 z4:=Tryz.sizeOf4
 v4:=Tryz.zeroValue4
 t5:=Tryz.underlying5
 a5:=Tryz.isAgg5
 z5:=Tryz.sizeOf5
 v5:=Tryz.zeroValue5
 t9:=Tryz.underlying9
 a9:=Tryz.isAgg9
 z9:=Tryz.sizeOf9
 v9:=Tryz.zeroValue9
 t22:=Tryz.underlying27
 a22:=Tryz.isAgg27
 z22:=Tryz.sizeOf27
 v22:=Tryz.zeroValue27
 t25:=Tryz.underlying142
 a25:=Tryz.isAgg142
 z25:=Tryz.sizeOf142
 v25:=Tryz.zeroValue142
 t39:=Tryz.underlying138
 a39:=Tryz.isAgg138
 z39:=Tryz.sizeOf138
 v39:=Tryz.zeroValue138
 t45:=Tryz.underlying196
 a45:=Tryz.isAgg196
 z45:=Tryz.sizeOf196
 v45:=Tryz.zeroValue196
 t46:=Tryz.underlying197
 a46:=Tryz.isAgg197
 z46:=Tryz.sizeOf197
 v46:=Tryz.zeroValue197
 t50:=Tryz.underlying126
 a50:=Tryz.isAgg126
 z50:=Tryz.sizeOf126
 v50:=Tryz.zeroValue126
 t53:=Tryz.underlying203
 a53:=Tryz.isAgg203
 z53:=Tryz.sizeOf203
 v53:=Tryz.zeroValue203
 t55:=Tryz.underlying149
 a55:=Tryz.isAgg149
 z55:=Tryz.sizeOf149
 v55:=Tryz.zeroValue149
 t66:=Tryz.underlying209
 a66:=Tryz.isAgg209
 z66:=Tryz.sizeOf209
 v66:=Tryz.zeroValue209
 t70:=Tryz.underlying213
 a70:=Tryz.isAgg213
 z70:=Tryz.sizeOf213
 v70:=Tryz.zeroValue213
 t76:=Tryz.underlying217
 a76:=Tryz.isAgg217
 z76:=Tryz.sizeOf217
 v76:=Tryz.zeroValue217
 t77:=Tryz.underlying218
 a77:=Tryz.isAgg218
 z77:=Tryz.sizeOf218
 v77:=Tryz.zeroValue218}
set_option maxHeartbeats 4000000
def mL (t:Int×Int):List Value:=[.int .i64 (aN t.1), .int .i64 (az t.1), .int .i64 t.2]
def Cu (x y:Int×Int):Int:=if mM (aN x.1) (aN y.1)≠0 then mM (aN x.1) (aN y.1) else mM (az x.1) (az y.1)
theorem Ig (x y:Int×Int):ltOf Cu x y=decide (x.1<y.1):=by
 unfold ltOf;rw [decide_eq_decide,Uf x.1 y.1];unfold Cu mM;generalize aN x.1=a;generalize aN y.1=a';generalize az x.1=z;generalize az y.1=z';by_cases h1:a<a'
 ·simp [h1]
 ·by_cases h2:a'<a
  ·simp [h1,h2];omega
  ·obtain rfl:a=a':=by omega
   by_cases h3:z<z'
   ·simp [h3]
   ·by_cases h4:z'<z<;>simp [h3,h4]
theorem MX:Sort.SWO (ltOf Cu) where
 irrefl x:=by rw [Ig];simp
 trans x y z h1 h2:=by rw [Ig] at*;simp at*;omega
 ntrans x y z h1 h2:=by rw [Ig] at*;simp at*;omega
theorem LC: ∀(p:List (Int×Int)) (j:Nat),j<3*p.length-> ∃n:Int,(mL (p.getD (j/3) (0,0)))[j % 3]! = .int .i64 n/\(bvC p).getD j .any=I n
 |[],j,h=>by simp at h
 |t::p,0,_=>⟨aN t.1,rfl,rfl⟩
 |t::p,1,_=>⟨az t.1,rfl,rfl⟩
 |t::p,2,_=>⟨t.2,rfl,rfl⟩
 |t::p,j+3,h=>by
  obtain ⟨n,h1,h2⟩:=LC p j (by simp only [List.length_cons] at h;omega);refine ⟨n,?_,?_⟩
  ·rw [show (j+3)/3=j/3+1 by omega,show (j+3)% 3=j % 3 by omega,List.getD_cons_succ];exact h1
  ·simp only [bvC];rw [show j+3=j+1+1+1 by omega];simp only [List.getD_cons_succ];exact h2
theorem yS: ∀{H:Hp} {i:Nat} {o:AObj},hget H i=some o->hset H i o=H
 |[],_,_,h=>by cases h
 |(j,u)::H,i,o,h=>by
  simp only [hget] at h;simp only [hset];by_cases e:j=i
  ·rw [if_pos e] at h⊢;cases h;rw [e]
  ·rw [if_neg e] at h⊢;rw [yS h]
section
variable {ρr:Go.Shelf.Ren}
theorem XO (L:SlLaysF0.n6 Tryz.prog ρr) (hF:oW Tryz.prog (ρr.f 6)) (aE: ∀w,(isAgg (ρr.t 24)).run Tryz.prog w= .ok true w) (zE: ∀w,(Go.sizeOf (ρr.t 24)).run Tryz.prog w= .ok 3 w) {G:Nat}
  (eg: ∀args w,(callFunc G args).run Tryz.prog w= .ok (.enter G args) w)
  (OE: ∀(x y:Int×Int) (W:World),Calls Tryz.prog G #[.agg (mL x).toArray, .agg (mL y).toArray] W fun e w'=>e= .returned (.int .i64 (Cu x y))/\ ∃q os',w'=Sort.grow (W.drewN q) os')
  {id T:Nat} {q:List (Int×Int)} {fr:Fr} {H:Hp} {K:AV->Fr->Hp->Prop} (hid:hget H id=some (.cells T (.lst (bvC q)))) (hq:q.length<=1000000)
  (hK: ∀r:List (Int×Int),r.Perm q->r.Pairwise (fun a b=>a.1<=b.1)->K (.tup []) fr (hset H id (.cells T (.lst (bvC r))))):qb Tryz.prog (ρr.f 6) [.sl 3 id 0 q.length, .fn G []] fr H K:=by
 refine ⟨.inr fun B w0 Mx N w ρ a hs vs vG hv=>⟨hF,?_⟩⟩
 match vs,vG,hv with
 |[u0,u1],_,hv=>
  have v0:=hv 0 u0 _ rfl rfl;have v1:=hv 1 u1 _ rfl rfl;obtain ⟨vs1,rfl,nU,_⟩:=v1.dS;obtain rfl:vs1=[]:=List.eq_nil_of_length_eq_zero nU;cases v0 with
  |sl es bO off len cap hdd hc arr t ad ha hb hr=>
   obtain ⟨gS,mP,h2,h3,h4⟩:=hs.objs id _ hid;simp only [Cs.len,pg] at h3 h4;by_cases h0:q.length=0
   ·obtain rfl:q=[]:=List.eq_nil_of_length_eq_zero h0;refine (AnyF.slices_SortFunc_none L (some ad) cap _ w).mono ?_;rintro e w' ⟨rfl,rfl⟩;have hk:=hK [] (.refl _) .nil;rw [yS hid] at hk;exact ⟨_, .tup [],ρ,fr,H,rfl,hk,hs, .tup [] [] rfl fun i v x hv=>by simp at hv⟩
   ·have vO:0<cap:=by omega
    have e0:=ha vO;rw [show (ρ id).add 0=ρ id from rfl] at e0;obtain ⟨Km⟩:ad=⟨(ρ id).block,(ρ id).off,none⟩:=by rw [e0];cases nS:ρ id with|mk b o s=>rw [nS] at gS;simp at gS;rw [gS]
    rw [h2] at hb;obtain ⟨rfl,rfl⟩:mP=arr/\T=t:=by cases hb;exact ⟨rfl,rfl⟩
    have iY: ∀j,j<3*q.length->mP[(ρ id).off+j]?=some (mL (q.getD (j/3) (0,0)))[j % 3]! :=fun j hj=>by
     obtain ⟨n,n1,n2⟩:=LC q j hj;obtain ⟨u,g1,g2⟩:=h4 j hj;have g3:VR w (MM Mx H ρ) ρ (DD H) u (I n):=by
      have:(Cs.lst (bvC q)).get j=I n:=n2
      rw [←this];exact g2
     rw [g1,n1,g3.av]
    have hH:Sort.HoldsK mL 3 w (ρ id).block (ρ id).off q.toArray:=by
     intro j hj;rw [Sort.size_flatK,List.size_toArray] at hj;rw [Sort.get_flatK _ _ _ _ (by simpa using hj)];have hc:=iY j (by omega);have ay:(ρ id).off+j<mP.size:=(Array.getElem?_eq_some_iff.1 hc).1;have e1:q.toArray[j/3]! =q.getD (j/3) (0,0):=by
      have Oj:j/3<q.length:=by omega
      simp [List.getD_eq_getElem?_getD,Oj]
     rw [e1];refine ⟨?_,by simp [World.frozen?,h2]⟩;simp only [World.cell?,h2,_root_.id];simpa using hc
    refine (AnyQ.slices_SortFunc L 3 aE zE mL (fun _=>rfl) (fun x v hv=>by simp [mL] at hv;rcases hv with rfl|rfl|rfl<;>rfl) Cu MX G #[] (ρ id).block (ρ id).off cap q.toArray w eg (fun m os dk _ x y=>by simpa using OE x y _) hH (iD h2) (by simp;omega)).mono ?_;rintro e w' ⟨rfl,d',n,os,⟨p1,p2,p3⟩,so,rfl⟩;have hd:d'.size=q.length:=by simpa using p1
    have Ge:d'.toList.Perm q:=by
     have h5:d'.extract 0 q.toArray.size=d':=by rw [←p1];simp
     have h6:q.toArray.extract 0 q.toArray.size=q.toArray:=by simp
     rw [h5,h6] at p3;simpa using p3
    have hpw:d'.toList.Pairwise fun a b=>a.1<=b.1:=by
     rw [List.pairwise_iff_getElem];intro i j hi hj ke;have sB:i<d'.size:=by simpa using hi
     have iQ:j<d'.size:=by simpa using hj
     have:=so i j (Nat.zero_le _) ke (by simpa using (show j<q.length by omega))
     rw [Ig,getElem!_pos d' i sB,getElem!_pos d' j iQ,decide_eq_false_iff_not] at this;simp only [Array.getElem_toList];omega
    have o9:aC B w0 Mx N (Sort.putRowK mL 3 w (ρ id).block (ρ id).off d') ρ fr (hset H id (.cells T (.lst (bvC d'.toList)))) a:=by
     have iE:(Sort.putRowK mL 3 w (ρ id).block (ρ id).off d').heap[(ρ id).block]?=some (.cells (Sort.putCells _root_.id (ρ id).off (Sort.flatK mL 3 d') mP) T (0,0)):=by
      simp [Sort.putRowK,Sort.putRow,Sort.mapBlock,Array.getElem?_modify,h2,Sort.onCells]
     refine hs.change hid h2 iE (by simp [Sort.putCells]) (by simp [Sort.putRowK,Sort.putRow,Sort.mapBlock]) rfl rfl rfl (fun k hk=>by simp [Sort.putRowK,Sort.putRow,Sort.mapBlock,Array.getElem?_modify,Ne.symm hk]) (by simp [Sort.putCells,Cs.len,pg,hd];omega) fun j hj=>?_;simp only [Cs.len,pg,Array.length_toList] at hj;obtain ⟨n,n1,n2⟩:=LC d'.toList j (by simpa using hj)
     have ay:(ρ id).off+j<mP.size:=by omega
     refine ⟨.int .i64 n,?_,by show VR _ _ _ _ _ ((bvC d'.toList).getD j .any);rw [n2];exact .int _ _⟩;have e1:d'[j/3]! =d'.toList.getD (j/3) (0,0):=by
      have Oj:j/3<d'.size:=by omega
      simp [List.getD_eq_getElem?_getD,Oj]
     simp only [Sort.putCells,Array.getElem?_mapIdx,Array.getElem?_eq_getElem ay,Option.map_some];rw [if_pos ⟨by omega,by rw [Sort.size_flatK];omega⟩,show (ρ id).off+j-(ρ id).off=j by omega,Sort.get_flatK _ _ _ _ (by omega),e1,n1];rfl
    refine ⟨_, .tup [],ρ,fr,_,rfl,hK _ Ge hpw,o9.later ?_, .tup [] [] rfl fun i v x hv=>by simp at hv⟩;refine ⟨rfl,rfl,rfl,?_,fun k hk=>?_⟩
    ·simp [sortWorldK,Sort.grow,Sort.putRowK,Sort.putRow,Sort.mapBlock,Sort.ahead]
    ·simp only [sortWorldK,Sort.grow];rw [Array.getElem?_append_left (by simpa [Sort.putRowK,Sort.putRow,Sort.mapBlock,Sort.ahead] using hk)];simp [Sort.putRowK,Sort.putRow,Sort.mapBlock,Sort.ahead]
end
theorem Fp (h:Array Obj) (a b c:Obj):((h.push a).push b).push c=h++ #[a,b,c]:=by apply Array.ext';simp
theorem ZS (x:Int) (W:World):Calls Tryz.prog 156 #[.int .i64 x] W fun e w'=>e= .returned (.bool false)/\w'=W:=by
 go_enter Tryz.func156,Tryz.ntmps156
 go_wp2
 go_ret
 exact ⟨by simp,rfl⟩
theorem y1g (x y:Int) (W:World):Calls Tryz.prog 115 #[.int .i64 x, .int .i64 y] W fun e w'=>e= .returned (.int .i64 (mM x y))/\w'=W:=by
 have hn:=ZS;unfold mM;by_cases hl:x<y
 ·rw [if_pos hl]
  go_enter Tryz.func115,Tryz.ntmps115
  go_wp2_with (go_at_call 156;refine (hn _ _).mono ?_;rintro e w' ⟨rfl,rfl⟩)
  go_ret
  exact ⟨rfl,rfl⟩
 ·rw [if_neg hl];by_cases hg:y<x
  ·rw [if_pos hg]
   go_enter Tryz.func115,Tryz.ntmps115
   go_wp2_with (go_at_call 156;refine (hn _ _).mono ?_;rintro e w' ⟨rfl,rfl⟩)
   go_ret
   exact ⟨rfl,rfl⟩
  ·rw [if_neg hg]
   go_enter Tryz.func115,Tryz.ntmps115
   go_wp2_with (go_at_call 156;refine (hn _ _).mono ?_;rintro e w' ⟨rfl,rfl⟩)
   go_ret
   exact ⟨rfl,rfl⟩
theorem MS (x y:Int) (b cap:Nat) (W:World) (h0:W.cell? ⟨b,0,none⟩=some (.int .i64 x)) (h1:W.cell? ⟨b,1,none⟩=some (.int .i64 y)):
  Calls Tryz.prog 114 #[.slice (some ⟨b,0,none⟩) 2 cap] W fun e w'=>e= .returned (.int .i64 (if x≠0 then x else y))/\w'=W:=by
 by_cases hx:x=0
 ·subst hx;rw [if_neg (by simp)];by_cases hy:y=0
  ·subst hy
   go_enter Tryz.func114,Tryz.ntmps114
   go_wp2
   refine wp_loop_rounds 3 ?_;rw [rounds_succ]
   go_wp2
   rw [rounds_succ]
   go_wp2
   rw [rounds_succ]
   go_wp2
   go_ret
   exact ⟨rfl,rfl⟩
  ·have by0:(y !=0)=true:=by rw [bne_iff_ne];exact hy
   go_enter Tryz.func114,Tryz.ntmps114
   go_wp2
   refine wp_loop_rounds 3 ?_;rw [rounds_succ]
   go_wp2
   rw [rounds_succ]
   go_wp2
   go_ret
   exact ⟨rfl,rfl⟩
 ·have bx0:(x !=0)=true:=by rw [bne_iff_ne];exact hx
  rw [if_pos hx]
  go_enter Tryz.func114,Tryz.ntmps114
  go_wp2
  refine wp_loop_rounds 3 ?_;rw [rounds_succ]
  go_wp2
  go_ret
  exact ⟨rfl,rfl⟩
theorem EV (x y:Int×Int) (W:World):Calls Tryz.prog 113 #[.agg (mL x).toArray, .agg (mL y).toArray] W fun e w'=>e= .returned (.int .i64 (Cu x y))/\ ∃q os',w'=Sort.grow (W.drewN q) os':=by
 have hc:=y1g;have ho:=MS (mM (aN x.1) (aN y.1)) (mM (az x.1) (az y.1));unfold Cu;generalize (if mM (aN x.1) (aN y.1)≠0 then mM (aN x.1) (aN y.1) else mM (az x.1) (az y.1))=r at*;unfold mL;generalize aN x.1=a1 at*;generalize aN y.1=a2 at*;generalize az x.1=z1 at*;generalize az y.1=z2 at*;generalize x.2=c1 at*;generalize y.2=c2 at*
 go_enter Tryz.func113,Tryz.ntmps113
 go_upto_region 1 with fail
 obtain ⟨W2,DT⟩: ∃W2,(W.alloc (Obj.cells #[Value.int IntKind.i64 a1,Value.int IntKind.i64 z1,Value.int IntKind.i64 c1] 74)).alloc (Obj.cells #[Value.int IntKind.i64 a2,Value.int IntKind.i64 z2,Value.int IntKind.i64 c2] 74)=W2:=⟨_,rfl⟩;have k0:W2.cell? ⟨W.heap.size,0,none⟩=some (.int .i64 a1):=by rw [←DT];simp
 have k1:W2.cell? ⟨W.heap.size,1,none⟩=some (.int .i64 z1):=by rw [←DT];simp
 have k2:W2.cell? ⟨W.heap.size+1,0,none⟩=some (.int .i64 a2):=by rw [←DT];simp
 have k3:W2.cell? ⟨W.heap.size+1,1,none⟩=some (.int .i64 z2):=by rw [←DT];simp
 rw [DT];refine wp_region_still_tail 10 (by kernel_rfl) (by kernel_rfl) ?_;simp only [List.take_succ_cons,List.take_zero,List.drop_succ_cons,List.drop_zero];generalize hd:({heap:=W2.heap,tape:=W2.tape,drawn:=W2.drawn+1,os:=W2.os,output:=W2.output}:World)=W3;have j0:W3.cell? ⟨W.heap.size,0,none⟩=some (.int .i64 a1):=by rw [←hd];exact k0
 have j1:W3.cell? ⟨W.heap.size,1,none⟩=some (.int .i64 z1):=by rw [←hd];exact k1
 have j2:W3.cell? ⟨W.heap.size+1,0,none⟩=some (.int .i64 a2):=by rw [←hd];exact k2
 have j3:W3.cell? ⟨W.heap.size+1,1,none⟩=some (.int .i64 z2):=by rw [←hd];exact k3
 still_step
 still_step
 still_step
 still_step
 still_call (hc _ _ _)
 still_step
 still_step
 still_step
 still_step
 still_call (hc _ _ _)
 refine wpStill_nil ?_
 go_wp2_with (go_at_call 114;refine (ho _ _ _ ?_ ?_).mono ?_;rotate_left 2;rintro e w' ⟨rfl,rfl⟩)
 ·go_ret
  refine ⟨rfl,1, #[.cells #[.int .i64 a1, .int .i64 z1, .int .i64 c1] 74 (0,0), .cells #[.int .i64 a2, .int .i64 z2, .int .i64 c2] 74 (0,0), .cells #[.int .i64 (mM a1 a2), .int .i64 (mM z1 z2)] 3 (0,0)],?_⟩;rw [←hd,←DT];exact congrArg (fun h=>(⟨h,W.tape,W.drawn+1,W.os,W.output⟩:World)) (Fp W.heap _ _ _)
 ·simp
 ·simp
theorem y1h {id T:Nat} {q:List (Int×Int)} {fr:Fr} {H:Hp} {K:AV->Fr->Hp->Prop} (hid:hget H id=some (.cells T (.lst (bvC q)))) (hq:q.length<=1000000)
  (hK: ∀r:List (Int×Int),r.Perm q->r.Pairwise (fun a b=>a.1<=b.1)->K (.tup []) fr (hset H id (.cells T (.lst (bvC r))))):qb Tryz.prog 112 [.sl 3 id 0 q.length, .fn 113 []] fr H K:=
 XO y4r ⟨_,Tryz.func112,rfl,by decide⟩ Tryz.isAgg74 Tryz.sizeOf74 (enters_of Tryz.func113 (by kernel_rfl) rfl) EV hid hq hK
end Go.Proofs.YtjpbeacamoijhaaGreatDoor
