/- Layer 13: Mul. -/
import Derived.Test.YtjpbeacamoijhaaGreatDoorZh
namespace Go.Proofs.YtjpbeacamoijhaaGreatDoor
open Go Go.RowKit
set_option maxRecDepth 100000
set_option maxHeartbeats 8000000
set_option linter.unusedVariables false
set_option linter.unusedSimpArgs false
def zS:Tr:= .node [(0, .node [(1,trD [2,3,4,5]),(2,trD [1,3,4,5])]),(2,trD [0,1,3,4,5])]
def vm:List (List Nat):=[[63,64,65,66,67,68,69,70,71,72],[62,64,65,66,67,68,69,70,71,72],[62,63,65,67,68,69,70,71],[62,63,64,67,68,69,70,71],[62,63,67,68,69,70,71],[62,63,64,65,66,69,70],[62,63,64,65,66,69,70],[62,63,64,65,66,67,68],[62,63,64,65,66,67,68],[62,63,64,65,66],[62,63],[]]
def vk:List (List Nat):=[[],[0],[0,1],[0,1,2],[0,1],[0,1,2,3,4],[0,1,2,3,4],[0,1,2,3,4,5,6],[0,1,2,3,4,5,6],[0,1,2,3,4],[0,1],[]]
theorem Qg (p:List (Int×Int)): ∀(k i:Nat),i<k->(p.getD i (0,0)).2<=bvHt p k/\ -(p.getD i (0,0)).2<=bvHt p k
 |0,i,h=>by omega
 |k+1,i,h=>by
  have h1:bvHt p k<=bvHt p (k+1)/\(p.getD k (0,0)).2<=bvHt p (k+1)/\ -(p.getD k (0,0)).2<=bvHt p (k+1):=by
   simp only [bvHt,y8]
   split<;>split<;>omega
  rcases Nat.lt_or_ge i k with hi|hi
  ·have:=Qg p k i hi;omega
  ·obtain rfl:i=k:=by omega
   omega
theorem Qf {p:List (Int×Int)} {B:Int} (h0:0<=B) (h: ∀t∈p,-B<=t.2/\t.2<=B) (k:Nat):bvHt p k<=B:=by
 refine (IG h0 (fun i=>?_) k).2;by_cases hi:i<p.length
 ·rw [List.getD_eq_getElem?_getD,List.getElem?_eq_getElem hi];exact h _ (List.getElem_mem _)
 ·rw [List.getD_eq_getElem?_getD,List.getElem?_eq_none (by omega)];simp only [Option.getD_none];omega
theorem T9 {x y A B:Int} (hx: -A<=x/\x<=A) (hy: -B<=y/\y<=B): -(A*B)<=x*y/\x*y<=A*B:=by
 have h1:x.natAbs<=A.toNat:=by omega
 have h2:y.natAbs<=B.toNat:=by omega
 have h3:=Nat.mul_le_mul h1 h2;rw [←Int.natAbs_mul] at h3;have h4:((A.toNat*B.toNat:Nat):Int)=A*B:=by
  rw [Int.natCast_mul,Int.toNat_of_nonneg (by omega),Int.toNat_of_nonneg (by omega)]
 omega
abbrev muH (m:aP) (p q:List (Int×Int)) (t:Int×Int):Hp:=[(4, .cells 74 (.lst [I (aN t.1),I (az t.1),I t.2])),(3, .gmap su m.length (gmL 0 m)),(2,u5),(1, .cells 29 (.lst [.bool false,mu q])),(0, .cells 29 (.lst [.bool false,mu p]))]
abbrev Ng (m:aP) (p q:List (Int×Int)):Hp:=[(3, .gmap su m.length (gmL 0 m)),(2,u5),(1, .cells 29 (.lst [.bool false,mu q])),(0, .cells 29 (.lst [.bool false,mu p]))]
theorem ZQ {p q r:List (Int×Int)} {f g:Int->Int} {N:Int} {A B:Int} (hp:dL p f) (hq:dL q g) (ud:p≠[]) (Gd:q≠[]) (sp:c7 f N) (sq:c7 g N) (hN:N<=150)
  (hA: ∀e,-A<=f e/\f e<=A) (hB: ∀e,-B<=g e/\g e<=B) (hAB:A*B<=1125899906842624) (WV:A<=1125899906842624) (hB1:1<=B/\B<=1125899906842624) (hr:dL r (fun e=>cvL p g e)) (br:kW fun e=>cvL p g e) (sr:c7 (fun e=>cvL p g e) 1000000):
  Fn Tryz.prog 25 [jo false p,jo false q] (jo false r):=by
 have lp:=hp.od sp hN;have lq:=hq.od sq hN;have cp:=pg p;have cq:=pg q;have mp: ∀t∈p,-A<=t.2/\t.2<=A:=fun t ht=>by rw [(hp.mem ht).1];exact hA _
 have mq: ∀t∈q,-B<=t.2/\t.2<=B:=fun t ht=>by rw [(hq.mem ht).1];exact hB _
 have A0:0<=A:=by have:=hA 0;omega
 have mm: ∀s∈p,∀t∈q,-1125899906842624<=s.2*t.2/\s.2*t.2<=1125899906842624:=fun s hs t ht=>by
  have:=T9 (mp s hs) (mq t ht);omega
 have p0:0<p.length:=List.length_pos_iff.2 ud;have q0:0<q.length:=List.length_pos_iff.2 Gd;have bp0:((p.length:Int)==0)=false:=by rw [beq_eq_false_iff_ne];omega
 have bq0:((q.length:Int)==0)=false:=by rw [beq_eq_false_iff_ne];omega
 have gB: ∀(l:List (Int×Int)) (C:Int),C<=1125899906842624->(∀t∈l,-C<=t.2/\t.2<=C)-> ∀i,-1125899906842624<=(l.getD i (0,0)).2/\(l.getD i (0,0)).2<=1125899906842624:=fun l C hC h i=>by
  by_cases hi:i<l.length
  ·rw [List.getD_eq_getElem?_getD,List.getElem?_eq_getElem hi];have:=h _ (List.getElem_mem hi);simp only [Option.getD_some];omega
  ·rw [List.getD_eq_getElem?_getD,List.getElem?_eq_none (by omega)];simp
 have hP:=Tm p lp (gB p A WV mp);have hQ:=Tm q lq (gB q B hB1.2 mq);have uP:bvHt p p.length<=A:=Qf A0 mp _;have lP:0<=bvHt p p.length:=(IG (B:=1125899906842624) (by decide) (gB p A WV mp) _).1;have uQ:bvHt q q.length<=B:=Qf (by omega) mq _;have lQ:1<=bvHt q q.length:=by
  have h1:=Qg q q.length 0 q0;have h2:q.getD 0 (0,0)∈q:=Is q0;have h3:=hq.asc.nz _ h2;omega
 obtain ⟨D,hD⟩: ∃D,(1125899906842624:Int).tdiv (bvHt q q.length)=D:=⟨_,rfl⟩;have WT:bvHt p p.length<=D/\D<=1125899906842624:=by
  rw [Int.tdiv_eq_ediv_of_nonneg (by decide)] at hD;rw [←hD];refine ⟨(Int.le_ediv_iff_mul_le (by omega)).2 ?_,Int.ediv_le_self _ (by decide)⟩
  have:=T9 (x:=bvHt p p.length) (y:=bvHt q q.length) (A:=A) (B:=B) (by omega) (by omega)
  omega
 have bD:decide (D<bvHt p p.length)=false:=by rw [decide_eq_false_iff_not];omega
 have qn:(bvHt q q.length=0)=False:=eq_false (by omega);generalize bvHt p p.length=HP at*;generalize bvHt q q.length=HQ at*;refine Fn.aH [.cell 4 29] Tryz.func25 rfl rfl (by decide) (by simp [Tryz.ntmps25]) ?_;rw [Tryz.ntmps25]
 repeat' (first|omega|(first|apply ah|(refine bd.intro (id:=5) [[31],[31],[29,30],[],[],[]] [[],[],[0,1],[],[],[]] (by decide+kernel) mixed ?_)|(refine bd.bY (id:=5) (zS) (by decide+kernel) mixed ?_)|(refine bd.aH (id:=15) vm vk (by decide+kernel) mixed ?_)|(refine bd.intro (id:=15) vm vk (by decide+kernel) mixed ?_)|skip);simp only [go_sem,sevalprocAttr,bp0,bq0,dq,hD,bD,qn,↓reduceIte,reduceCtorEq,zS,vm,vk]|(refine ⟨aO.fn (r:=?_) rfl ?_ ?_⟩;rotate_left;assumption)|(refine ⟨c8.fn (r:=?_) rfl ?_ ?_⟩;rotate_left;assumption)|apply ag<;>(intro h_;(try simp only [h_]);revert h_)|apply And.intro|with_reducible intro h_|trivial|simp only [go_sem,ai];omega)
 have J9: ∀i,i<=p.length->lj (iM q [] (p.take i)) (i*q.length):=fun i hi=>by
  have:=lj.nil.mul (q:=q) (p:=p.take i) fun s hs t ht=>mm s (List.mem_of_mem_take hs) t ht
  rwa [List.length_take,Nat.min_eq_left hi,Nat.zero_add] at this
 refine dn.intro (fun n fr H=> ∃i:Nat,i<=p.length/\n=p.length-i/\fr=[(40,I i),(39,I p.length),(38,mu p),(5, .mp 3),(4, .ptr 2 0),(3, .ptr 1 0),(2, .ptr 0 0)]/\H=Ng (iM q [] (p.take i)) p q) ?_ ?_
 ·refine ⟨_,_,_,Wk.sub ?_ ?_,0,by omega,rfl,rfl,rfl⟩
  ·simp only [go_sem,sevalprocAttr,dq]
  ·simp only [go_sem,sevalprocAttr,dq,List.take_zero,iM,gmL]
   all_goals rfl
 rintro n fr H ⟨i,hi,rfl,rfl,rfl⟩;by_cases pb:i<p.length
 ·have bi:decide ((i:Int)<p.length)=true:=by simp;omega
  obtain ⟨g0,g1,g2⟩:=yO p i pb;have tZ:p.getD i (0,0)∈p:=Is pb;have es:p.take (i+1)=p.take i++[p.getD i (0,0)]:=by rw [List.take_succ_eq_append_getElem pb];simp [pb]
  have em:iM q [] (p.take (i+1))=mAdd (p.getD i (0,0)).2 (p.getD i (0,0)).1 (iM q [] (p.take i)) q:=by rw [es,SB]
  have hM:=J9 i hi;have hiq:i*q.length+q.length<=10000000000:=by
   have:=Nat.mul_le_mul (show i+1<=100000 by omega) lq
   rw [Nat.add_mul] at this;omega
  have hsS:=hp.qm sp tZ;have oq:=mm _ tZ;have hsA:=mp _ tZ;generalize hmi:iM q [] (p.take i)=mi at*;generalize p.getD i (0,0)=s at*
  repeat' (first|omega|(first|apply ah|(refine bd.intro (id:=5) [[31],[31],[29,30],[],[],[]] [[],[],[0,1],[],[],[]] (by decide+kernel) mixed ?_)|(refine bd.bY (id:=5) (zS) (by decide+kernel) mixed ?_)|(refine bd.aH (id:=15) vm vk (by decide+kernel) mixed ?_)|(refine bd.intro (id:=15) vm vk (by decide+kernel) mixed ?_)|skip);simp only [go_sem,sevalprocAttr,bi,cp,g0,g1,g2,dq,↓reduceIte,reduceCtorEq,zS,vm,vk]|(refine ⟨aO.fn (r:=?_) rfl ?_ ?_⟩;rotate_left;assumption)|(refine ⟨c8.fn (r:=?_) rfl ?_ ?_⟩;rotate_left;assumption)|apply ag<;>(intro h_;(try simp only [h_]);revert h_)|apply And.intro|with_reducible intro h_|trivial|simp only [go_sem,ai];omega)
  have hMk: ∀k,k<=q.length->lj (mAdd s.2 s.1 mi (q.take k)) (i*q.length+k):=fun k hk=>by
   have:=hM.add (c:=s.2) (d:=s.1) (p:=q.take k) fun t ht=>oq t (List.mem_of_mem_take ht)
   rwa [List.length_take,Nat.min_eq_left hk] at this
  refine dn.intro (fun n fr H=> ∃k:Nat,k<=q.length/\n=q.length-k/\fr=[(47,I k),(46,I q.length),(45,mu q),(7, .ptr 4 0),(40,I i),(39,I p.length),(38,mu p),(5, .mp 3),(4, .ptr 2 0),(3, .ptr 1 0),(2, .ptr 0 0)]/\H=muH (mAdd s.2 s.1 mi (q.take k)) p q s) ?_ ?_
  ·refine ⟨_,_,_,Wk.sub ?_ ?_,0,by omega,rfl,rfl,rfl⟩
   ·simp only [go_sem,sevalprocAttr,dq]
   ·simp only [go_sem,sevalprocAttr,dq,List.take_zero,mAdd,↓qe]
    all_goals exact sb _ (fun _ _ _ _=>rfl) _ _
  rintro n fr H ⟨k,hk,rfl,rfl,rfl⟩;by_cases cT:k<q.length
  ·have bk:decide ((k:Int)<q.length)=true:=by simp;omega
   obtain ⟨k0,k1,k2⟩:=yO q k cT;have DF:q.getD k (0,0)∈q:=Is cT;have et:q.take (k+1)=q.take k++[q.getD k (0,0)]:=by rw [List.take_succ_eq_append_getElem cT];simp [cT]
   have em:mAdd s.2 s.1 mi (q.take (k+1))=mPut (mAdd s.2 s.1 mi (q.take k)) (s.1+(q.getD k (0,0)).1) (s.2*(q.getD k (0,0)).2):=by rw [et,Mf]
   have hMm:=hMk k hk;have htS:=hq.qm sq DF;have qO:=oq _ DF;have htB:=mq _ DF;generalize vL:mAdd s.2 s.1 mi (q.take k)=mk at*;generalize rB:mAdd s.2 s.1 mi (q.take (k+1))=sR at*;generalize q.getD k (0,0)=t at*;have eA:=QE (e:=s.1) (e':=t.1) (by unfold tj;omega) (by unfold tj;omega);have ek:dj (aN s.1+aN t.1) (az s.1+az t.1)=kE (s.1+t.1):=by rw [←eA.1,←eA.2]
   cases hf:uw mk (s.1+t.1) with
   |none=>
    obtain ⟨f1,f2,f3⟩:=Ex (s.2*t.2) 0 hf;have mD:=Dq 0 0 (s.2*t.2) (by omega) (by omega) (by unfold InI;omega)
    repeat' (first|omega|(first|apply ah|(refine bd.intro (id:=5) [[31],[31],[29,30],[],[],[]] [[],[],[0,1],[],[],[]] (by decide+kernel) mixed ?_)|(refine bd.bY (id:=5) (zS) (by decide+kernel) mixed ?_)|(refine bd.aH (id:=15) vm vk (by decide+kernel) mixed ?_)|(refine bd.intro (id:=15) vm vk (by decide+kernel) mixed ?_)|skip);simp only [go_sem,sevalprocAttr,bk,cq,k0,k1,k2,↓qe,ek,f1,f2,f3,dq,↓reduceIte,reduceCtorEq,zS,vm,vk]|(refine ⟨aO.fn (r:=?_) rfl ?_ ?_⟩;rotate_left;assumption)|(refine ⟨c8.fn (r:=?_) rfl ?_ ?_⟩;rotate_left;assumption)|apply ag<;>(intro h_;(try simp only [h_]);revert h_)|apply And.intro|with_reducible intro h_|trivial|simp only [go_sem,ai];omega)
    any_goals exact sb _ (fun _ _ _ _=>rfl) _ _
    refine ⟨_,_,_,?_,Wk.sub ?_ ?_,k+1,by omega,rfl,rfl,rfl⟩
    ·omega
    ·simp only [go_sem,sevalprocAttr,dq]
    ·rw [rB,em];simp only [go_sem,sevalprocAttr,dq,↓qe,f3]
     all_goals first|exact sb _ (fun _ _ _ _=>rfl) _ _|(rw [Nat.zero_add] at f2;exact congrArg (AObj.gmap su _) f2)
   |some hl=>
    obtain ⟨h,l⟩:=hl;obtain ⟨b,f1,f2,f3⟩:=LG (s.2*t.2) 0 hf;have hBn:(-((i*q.length+k:Nat)*67108864:Int)<=h/\h<=(i*q.length+k:Nat)*67108864)/\0<=l/\l<=(i*q.length+k:Nat)*33554432:=hMm.bn _ (Ji hf);generalize i*q.length=iq at*;have mD:=Dq h l (s.2*t.2) (by omega) (by omega) (by unfold InI;omega)
    repeat' (first|omega|(first|apply ah|(refine bd.intro (id:=5) [[31],[31],[29,30],[],[],[]] [[],[],[0,1],[],[],[]] (by decide+kernel) mixed ?_)|(refine bd.bY (id:=5) (zS) (by decide+kernel) mixed ?_)|(refine bd.aH (id:=15) vm vk (by decide+kernel) mixed ?_)|(refine bd.intro (id:=15) vm vk (by decide+kernel) mixed ?_)|skip);simp only [go_sem,sevalprocAttr,bk,cq,k0,k1,k2,↓qe,ek,f1,f2,f3,dq,↓reduceIte,reduceCtorEq,zS,vm,vk]|(refine ⟨aO.fn (r:=?_) rfl ?_ ?_⟩;rotate_left;assumption)|(refine ⟨c8.fn (r:=?_) rfl ?_ ?_⟩;rotate_left;assumption)|apply ag<;>(intro h_;(try simp only [h_]);revert h_)|apply And.intro|with_reducible intro h_|trivial|simp only [go_sem,ai];omega)
    any_goals exact sb _ (fun _ _ _ _=>rfl) _ _
    refine ⟨_,_,_,?_,Wk.sub ?_ ?_,k+1,by omega,rfl,rfl,rfl⟩
    ·omega
    ·simp only [go_sem,sevalprocAttr,dq]
    ·rw [rB,em];simp only [go_sem,sevalprocAttr,dq,↓qe,f3]
     all_goals exact sb _ (fun _ _ _ _=>rfl) _ _
  ·obtain rfl:k=q.length:=by omega
   have bk:decide ((q.length:Int)<q.length)=false:=by simp
   rw [List.take_length];rw [←em]
   repeat' (first|omega|(try apply ah);simp only [go_sem,sevalprocAttr,bk]|apply ag<;>(intro h_;(try simp only [h_]);revert h_)|apply And.intro|with_reducible intro h_|trivial|simp only [go_sem,ai];omega)
   refine ⟨_,_,_,?_,Wk.sub ?_ ?_,i+1,by omega,rfl,rfl,rfl⟩
   ·omega
   ·simp only [go_sem,sevalprocAttr,dq]
   ·simp only [go_sem,sevalprocAttr,dq,↓qe]
    all_goals exact sb _ (fun _ _ _ _=>rfl) _ _
 ·obtain rfl:i=p.length:=by omega
  have bi:decide ((p.length:Int)<p.length)=false:=by simp
  have hM:=J9 p.length (Nat.le_refl _);rw [List.take_length] at hM⊢;have hv: ∀e,mVal (iM q [] p) e=cvL p g e:=fun e=>by
   rw [RC,IK,Int.zero_add];congr 1;funext x;exact hq.cf x
  repeat' (first|omega|(try apply ah);simp only [go_sem,sevalprocAttr,bi]|apply ag<;>(intro h_;(try simp only [h_]);revert h_)|apply And.intro|with_reducible intro h_|trivial|simp only [go_sem,ai];omega)
  have hKl:(iM q [] p).length<=1000000:=by
   refine sE.len (M:=2*N) (sE.mul (fun _ h=>by cases h) fun s hs t ht=>?_) hM.nd (by omega);have h1:=hp.qm sp hs;have h2:=hq.qm sq ht
   have:=QE (e:=s.1) (e':=t.1) (by unfold tj;omega) (by unfold tj;omega)
   omega
  have pa:p.length*q.length<=10000000000:=Nat.mul_le_mul lp lq;refine ⟨aO.inline (Ms (iM q [] p) (p.length*q.length) hM pa hKl (fun e=>by rw [hv];exact br e) (fun e he=>by rw [hv] at he;have:=sr e he;omega) (fr':=[(4, .ptr 2 0)]) (Wk.sub ?_ ?_) (by simp only [go_sem,sevalprocAttr,DX]) rfl fun r' nS ox=>?_)⟩
  ·simp only [go_sem,sevalprocAttr]
  ·simp only [go_sem,sevalprocAttr,↓qe]
   all_goals exact sb _ (fun _ _ _ _=>rfl) _ _
  obtain rfl:r'=r:=gM.ext nS.asc hr.asc fun e=>by rw [nS.cf,hr.cf,hv]
  repeat' (first|omega|(try apply ah);simp only [go_sem,sevalprocAttr]|apply ag<;>(intro h_;(try simp only [h_]);revert h_)|apply And.intro|with_reducible intro h_|trivial|simp only [go_sem,ai];omega)
  all_goals first
   |exact ED _ _ ‹_›
   |exact KP r' _
   |(rw [pg];omega)
end Go.Proofs.YtjpbeacamoijhaaGreatDoor
