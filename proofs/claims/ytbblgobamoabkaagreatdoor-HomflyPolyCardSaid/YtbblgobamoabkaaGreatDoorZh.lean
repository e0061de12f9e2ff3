/- Layer 13: the height of a polynomial. -/
import Derived.Test.YtbblgobamoabkaaGreatDoorZc
import Derived.Test.YtbblgobamoabkaaGreatDoorZg
namespace Go.Proofs.YtbblgobamoabkaaGreatDoor
open Go Go.RowKit
set_option maxRecDepth 100000
set_option maxHeartbeats 8000000
set_option linter.unusedVariables false
set_option linter.unusedSimpArgs false
def mx2 (a b:Int):Int:=if a<b then b else a
def bvHt (p:List (Int×Int)):Nat->Int
 |0=>0
 |k+1=>mx2 (mx2 (bvHt p k) (p.getD k (0,0)).2) (-(p.getD k (0,0)).2)
theorem yip {p:List (Int×Int)} {B:Int} (h0:0<=B) (h: ∀i,-B<=(p.getD i (0,0)).2/\(p.getD i (0,0)).2<=B): ∀k,0<=bvHt p k/\bvHt p k<=B
 |0=>⟨Int.le_refl _,h0⟩
 |k+1=>by
  have:=yip h0 h k
  have:=h k
  simp only [bvHt,mx2]
  split<;>split<;>omega
theorem ymk (p:List (Int×Int)) (hp:p.length<=100000) (hb: ∀i,-1125899906842624<=(p.getD i (0,0)).2/\(p.getD i (0,0)).2<=1125899906842624):Fn Tryz.prog 115 [bvP false p] (I (bvHt p p.length)):=by
 have hc:=yal p
 have hB:=yip (p:=p) (B:=1125899906842624) (by decide) hb
 refine Fn.intro [.tmp 2] Tryz.func115 rfl rfl (by decide) (by simp [Tryz.ntmps115]) ?_;rw [Tryz.ntmps115]
 repeat' (first|omega|(try apply yaa);simp only [go_sem,sevalprocAttr,hc]|apply yab<;>(intro h_;(try simp only [h_]);revert h_)|apply And.intro|with_reducible intro h_|trivial|simp only [go_sem,la2];omega)
 refine yaj.intro (fun n fr H=> ∃k:Nat,k<=p.length/\n=p.length-k/\fr=[(9,I k),(8,I p.length),(7,bvT p),(3,I (bvHt p k))]/\H=[]) ?_ ?_
 ·refine ⟨_,_,_,Wk.sub ?_ ?_,0,by omega,rfl,rfl,rfl⟩
  ·simp only [go_sem,sevalprocAttr,yad,bvHt]
  ·simp only [go_sem,sevalprocAttr]
 rintro n fr H ⟨k,hk,rfl,rfl,rfl⟩
 have hBk:=hB k
 by_cases hkl:k<p.length
 ·have bk:decide ((k:Int)<p.length)=true:=by simp;omega
  obtain ⟨g0,g1,g2⟩:=ybs p k hkl
  have hv:=hb k
  have es:bvHt p (k+1)=mx2 (mx2 (bvHt p k) (p.getD k (0,0)).2) (-(p.getD k (0,0)).2):=rfl
  generalize bvA (p.getD k (0,0)).1=x at*
  generalize bvZ (p.getD k (0,0)).1=y at*
  generalize (p.getD k (0,0)).2=v at*
  have es2:bvHt p (k+1)=mx2 (mx2 (bvHt p k) v) (0-v):=by rw [es];congr 1;omega
  unfold mx2 at es2
  generalize bvHt p k=h at*
  repeat' (first|omega|(try apply yaa);simp only [go_sem,sevalprocAttr,bk,hc,g0,g1,g2]|apply yab<;>(intro h_;(try simp only [h_]);revert h_)|apply And.intro|with_reducible intro h_|trivial|simp only [go_sem,la2];omega)
  refine ⟨_,_,_,?_,Wk.sub ?_ ?_,k+1,by omega,rfl,rfl,rfl⟩
  ·omega
  ·simp only [go_sem,sevalprocAttr,yad,es2]
  ·simp only [go_sem,sevalprocAttr]
 ·obtain rfl:k=p.length:=by omega
  have bk:decide ((p.length:Int)<p.length)=false:=by simp
  repeat' (first|omega|(try apply yaa);simp only [go_sem,sevalprocAttr,bk]|apply yab<;>(intro h_;(try simp only [h_]);revert h_)|apply And.intro|with_reducible intro h_|trivial|simp only [go_sem,la2];omega)
end Go.Proofs.YtbblgobamoabkaaGreatDoor
namespace Go.Proofs.YtbblgobamoabkaaGreatDoor
open Go Go.RowKit
set_option maxRecDepth 100000
set_option maxHeartbeats 8000000
set_option linter.unusedVariables false
set_option linter.unusedSimpArgs false
def yfn:Tr:= .node [(0, .node [(1,trD [2,3,4,5]),(2,trD [1,3,4,5])]),(2,trD [0,1,3,4,5])]
def yc8:List (List Nat):=[[63,64,65,66,67,68,69,70,71,72],[62,64,65,66,67,68,69,70,71,72],[62,63,65,67,68,69,70,71],[62,63,64,67,68,69,70,71],[62,63,67,68,69,70,71],[62,63,64,65,66,69,70],[62,63,64,65,66,69,70],[62,63,64,65,66,67,68],[62,63,64,65,66,67,68],[62,63,64,65,66],[62,63],[]]
def yc9:List (List Nat):=[[],[0],[0,1],[0,1,2],[0,1],[0,1,2,3,4],[0,1,2,3,4],[0,1,2,3,4,5,6],[0,1,2,3,4,5,6],[0,1,2,3,4],[0,1],[]]
theorem ysz (p:List (Int×Int)): ∀(k i:Nat),i<k->(p.getD i (0,0)).2<=bvHt p k/\ -(p.getD i (0,0)).2<=bvHt p k
 |0,i,h=>by omega
 |k+1,i,h=>by
  have h1:bvHt p k<=bvHt p (k+1)/\(p.getD k (0,0)).2<=bvHt p (k+1)/\ -(p.getD k (0,0)).2<=bvHt p (k+1):=by
   simp only [bvHt,mx2]
   split<;>split<;>omega
  rcases Nat.lt_or_ge i k with hi|hi
  ·have:=ysz p k i hi;omega
  ·obtain rfl:i=k:=by omega
   omega
theorem ys0 {p:List (Int×Int)} {B:Int} (h0:0<=B) (h: ∀t∈p,-B<=t.2/\t.2<=B) (k:Nat):bvHt p k<=B:=by
 refine (yip h0 (fun i=>?_) k).2
 by_cases hi:i<p.length
 ·rw [List.getD_eq_getElem?_getD,List.getElem?_eq_getElem hi];exact h _ (List.getElem_mem _)
 ·rw [List.getD_eq_getElem?_getD,List.getElem?_eq_none (by omega)];simp only [Option.getD_none];omega
theorem y1w {x y A B:Int} (hx: -A<=x/\x<=A) (hy: -B<=y/\y<=B): -(A*B)<=x*y/\x*y<=A*B:=by
 have h1:x.natAbs<=A.toNat:=by omega
 have h2:y.natAbs<=B.toNat:=by omega
 have h3:=Nat.mul_le_mul h1 h2
 rw [←Int.natAbs_mul] at h3
 have h4:((A.toNat*B.toNat:Nat):Int)=A*B:=by
  rw [Int.natCast_mul,Int.toNat_of_nonneg (by omega),Int.toNat_of_nonneg (by omega)]
 omega
abbrev muH (m:SumM) (p q:List (Int×Int)) (t:Int×Int):Hp:=[(4, .cells 66 (.lst [I (bvA t.1),I (bvZ t.1),I t.2])),(3, .gmap suT m.length (gmL 0 m)),(2,gaB),(1, .cells 29 (.lst [.bool false,bvT q])),(0, .cells 29 (.lst [.bool false,bvT p]))]
abbrev muH0 (m:SumM) (p q:List (Int×Int)):Hp:=[(3, .gmap suT m.length (gmL 0 m)),(2,gaB),(1, .cells 29 (.lst [.bool false,bvT q])),(0, .cells 29 (.lst [.bool false,bvT p]))]
theorem y31 {p q r:List (Int×Int)} {f g:Int->Int} {N:Int} {A B:Int} (hp:yak p f) (hq:yak q g) (hp0:p≠[]) (hq0:q≠[]) (sp:SupB f N) (sq:SupB g N) (hN:N<=150)
  (hA: ∀e,-A<=f e/\f e<=A) (hB: ∀e,-B<=g e/\g e<=B) (hAB:A*B<=1125899906842624) (hA1:A<=1125899906842624) (hB1:1<=B/\B<=1125899906842624) (hr:yak r (fun e=>cvL p g e)) (br:BndB fun e=>cvL p g e) (sr:SupB (fun e=>cvL p g e) 1000000):
  Fn Tryz.prog 71 [bvP false p,bvP false q] (bvP false r):=by
 have lp:=hp.lenB sp hN
 have lq:=hq.lenB sq hN
 have cp:=yal p
 have cq:=yal q
 have mp: ∀t∈p,-A<=t.2/\t.2<=A:=fun t ht=>by rw [(hp.mem ht).1];exact hA _
 have mq: ∀t∈q,-B<=t.2/\t.2<=B:=fun t ht=>by rw [(hq.mem ht).1];exact hB _
 have A0:0<=A:=by have:=hA 0;omega
 have mm: ∀s∈p,∀t∈q,-1125899906842624<=s.2*t.2/\s.2*t.2<=1125899906842624:=fun s hs t ht=>by
  have:=y1w (mp s hs) (mq t ht);omega
 have p0:0<p.length:=List.length_pos_iff.2 hp0
 have q0:0<q.length:=List.length_pos_iff.2 hq0
 have bp0:((p.length:Int)==0)=false:=by rw [beq_eq_false_iff_ne];omega
 have bq0:((q.length:Int)==0)=false:=by rw [beq_eq_false_iff_ne];omega
 have gB: ∀(l:List (Int×Int)) (C:Int),C<=1125899906842624->(∀t∈l,-C<=t.2/\t.2<=C)-> ∀i,-1125899906842624<=(l.getD i (0,0)).2/\(l.getD i (0,0)).2<=1125899906842624:=fun l C hC h i=>by
  by_cases hi:i<l.length
  ·rw [List.getD_eq_getElem?_getD,List.getElem?_eq_getElem hi];have:=h _ (List.getElem_mem hi);simp only [Option.getD_some];omega
  ·rw [List.getD_eq_getElem?_getD,List.getElem?_eq_none (by omega)];simp
 have hP:=ymk p lp (gB p A hA1 mp)
 have hQ:=ymk q lq (gB q B hB1.2 mq)
 have uP:bvHt p p.length<=A:=ys0 A0 mp _
 have lP:0<=bvHt p p.length:=(yip (B:=1125899906842624) (by decide) (gB p A hA1 mp) _).1
 have uQ:bvHt q q.length<=B:=ys0 (by omega) mq _
 have lQ:1<=bvHt q q.length:=by
  have h1:=ysz q q.length 0 q0
  have h2:q.getD 0 (0,0)∈q:=ycd q0
  have h3:=hq.asc.nz _ h2
  omega
 obtain ⟨D,hD⟩: ∃D,(1125899906842624:Int).tdiv (bvHt q q.length)=D:=⟨_,rfl⟩
 have hD2:bvHt p p.length<=D/\D<=1125899906842624:=by
  rw [Int.tdiv_eq_ediv_of_nonneg (by decide)] at hD
  rw [←hD]
  refine ⟨(Int.le_ediv_iff_mul_le (by omega)).2 ?_,Int.ediv_le_self _ (by decide)⟩
  have:=y1w (x:=bvHt p p.length) (y:=bvHt q q.length) (A:=A) (B:=B) (by omega) (by omega)
  omega
 have bD:decide (D<bvHt p p.length)=false:=by rw [decide_eq_false_iff_not];omega
 have qn:(bvHt q q.length=0)=False:=eq_false (by omega)
 generalize bvHt p p.length=HP at*
 generalize bvHt q q.length=HQ at*
 refine Fn.introL [.cell 4 29] Tryz.func71 rfl rfl (by decide) (by simp [Tryz.ntmps71]) ?_;rw [Tryz.ntmps71]
 repeat' (first|omega|(first|apply yaa|(refine yac.intro (id:=5) [[31],[31],[29,30],[],[],[]] [[],[],[0,1],[],[],[]] (by decide+kernel) mixed ?_)|(refine yac.introT (id:=5) (yfn) (by decide+kernel) mixed ?_)|(refine yac.introL (id:=15) yc8 yc9 (by decide+kernel) mixed ?_)|(refine yac.intro (id:=15) yc8 yc9 (by decide+kernel) mixed ?_)|skip);simp only [go_sem,sevalprocAttr,bp0,bq0,yad,hD,bD,qn,↓reduceIte,reduceCtorEq,yfn,yc8,yc9]|(refine ⟨yae.fn (r:=?_) rfl ?_ ?_⟩;rotate_left;assumption)|(refine ⟨yai.fn (r:=?_) rfl ?_ ?_⟩;rotate_left;assumption)|apply yab<;>(intro h_;(try simp only [h_]);revert h_)|apply And.intro|with_reducible intro h_|trivial|simp only [go_sem,la2];omega)
 have hMo: ∀i,i<=p.length->MOk (mMul q [] (p.take i)) (i*q.length):=fun i hi=>by
  have:=MOk.nil.mul (q:=q) (p:=p.take i) fun s hs t ht=>mm s (List.mem_of_mem_take hs) t ht
  rwa [List.length_take,Nat.min_eq_left hi,Nat.zero_add] at this
 refine yaj.intro (fun n fr H=> ∃i:Nat,i<=p.length/\n=p.length-i/\fr=[(40,I i),(39,I p.length),(38,bvT p),(5, .mp 3),(4, .ptr 2 0),(3, .ptr 1 0),(2, .ptr 0 0)]/\H=muH0 (mMul q [] (p.take i)) p q) ?_ ?_
 ·refine ⟨_,_,_,Wk.sub ?_ ?_,0,by omega,rfl,rfl,rfl⟩
  ·simp only [go_sem,sevalprocAttr,yad]
  ·simp only [go_sem,sevalprocAttr,yad,List.take_zero,mMul,gmL]
   all_goals rfl
 rintro n fr H ⟨i,hi,rfl,rfl,rfl⟩
 by_cases hil:i<p.length
 ·have bi:decide ((i:Int)<p.length)=true:=by simp;omega
  obtain ⟨g0,g1,g2⟩:=ybs p i hil
  have hsm:p.getD i (0,0)∈p:=ycd hil
  have es:p.take (i+1)=p.take i++[p.getD i (0,0)]:=by rw [List.take_succ_eq_append_getElem hil];simp [hil]
  have em:mMul q [] (p.take (i+1))=mAdd (p.getD i (0,0)).2 (p.getD i (0,0)).1 (mMul q [] (p.take i)) q:=by rw [es,yob]
  have hM:=hMo i hi
  have hiq:i*q.length+q.length<=10000000000:=by
   have:=Nat.mul_le_mul (show i+1<=100000 by omega) lq
   rw [Nat.add_mul] at this;omega
  have hsS:=hp.memB sp hsm
  have hs2:=mm _ hsm
  have hsA:=mp _ hsm
  generalize hmi:mMul q [] (p.take i)=mi at*
  generalize p.getD i (0,0)=s at*
  repeat' (first|omega|(first|apply yaa|(refine yac.intro (id:=5) [[31],[31],[29,30],[],[],[]] [[],[],[0,1],[],[],[]] (by decide+kernel) mixed ?_)|(refine yac.introT (id:=5) (yfn) (by decide+kernel) mixed ?_)|(refine yac.introL (id:=15) yc8 yc9 (by decide+kernel) mixed ?_)|(refine yac.intro (id:=15) yc8 yc9 (by decide+kernel) mixed ?_)|skip);simp only [go_sem,sevalprocAttr,bi,cp,g0,g1,g2,yad,↓reduceIte,reduceCtorEq,yfn,yc8,yc9]|(refine ⟨yae.fn (r:=?_) rfl ?_ ?_⟩;rotate_left;assumption)|(refine ⟨yai.fn (r:=?_) rfl ?_ ?_⟩;rotate_left;assumption)|apply yab<;>(intro h_;(try simp only [h_]);revert h_)|apply And.intro|with_reducible intro h_|trivial|simp only [go_sem,la2];omega)
  have hMk: ∀k,k<=q.length->MOk (mAdd s.2 s.1 mi (q.take k)) (i*q.length+k):=fun k hk=>by
   have:=hM.add (c:=s.2) (d:=s.1) (p:=q.take k) fun t ht=>hs2 t (List.mem_of_mem_take ht)
   rwa [List.length_take,Nat.min_eq_left hk] at this
  refine yaj.intro (fun n fr H=> ∃k:Nat,k<=q.length/\n=q.length-k/\fr=[(47,I k),(46,I q.length),(45,bvT q),(7, .ptr 4 0),(40,I i),(39,I p.length),(38,bvT p),(5, .mp 3),(4, .ptr 2 0),(3, .ptr 1 0),(2, .ptr 0 0)]/\H=muH (mAdd s.2 s.1 mi (q.take k)) p q s) ?_ ?_
  ·refine ⟨_,_,_,Wk.sub ?_ ?_,0,by omega,rfl,rfl,rfl⟩
   ·simp only [go_sem,sevalprocAttr,yad]
   ·simp only [go_sem,sevalprocAttr,yad,List.take_zero,mAdd,↓ycu]
    all_goals exact ycn _ (fun _ _ _ _=>rfl) _ _
  rintro n fr H ⟨k,hk,rfl,rfl,rfl⟩
  by_cases hkl:k<q.length
  ·have bk:decide ((k:Int)<q.length)=true:=by simp;omega
   obtain ⟨k0,k1,k2⟩:=ybs q k hkl
   have htm:q.getD k (0,0)∈q:=ycd hkl
   have et:q.take (k+1)=q.take k++[q.getD k (0,0)]:=by rw [List.take_succ_eq_append_getElem hkl];simp [hkl]
   have em:mAdd s.2 s.1 mi (q.take (k+1))=mPut (mAdd s.2 s.1 mi (q.take k)) (s.1+(q.getD k (0,0)).1) (s.2*(q.getD k (0,0)).2):=by rw [et,yjl]
   have hMm:=hMk k hk
   have htS:=hq.memB sq htm
   have hcv:=hs2 _ htm
   have htB:=mq _ htm
   generalize hmk:mAdd s.2 s.1 mi (q.take k)=mk at*
   generalize hmk1:mAdd s.2 s.1 mi (q.take (k+1))=mk1 at*
   generalize q.getD k (0,0)=t at*
   have eA:=ynb (e:=s.1) (e':=t.1) (by unfold bvOk;omega) (by unfold bvOk;omega)
   have ek:kEnc (bvA s.1+bvA t.1) (bvZ s.1+bvZ t.1)=kE (s.1+t.1):=by rw [←eA.1,←eA.2]
   cases hf:yer mk (s.1+t.1) with
   |none=>
    obtain ⟨f1,f2,f3⟩:=ylk (s.2*t.2) 0 hf
    have hpl:=yf3 0 0 (s.2*t.2) (by omega) (by omega) (by unfold InI;omega)
    repeat' (first|omega|(first|apply yaa|(refine yac.intro (id:=5) [[31],[31],[29,30],[],[],[]] [[],[],[0,1],[],[],[]] (by decide+kernel) mixed ?_)|(refine yac.introT (id:=5) (yfn) (by decide+kernel) mixed ?_)|(refine yac.introL (id:=15) yc8 yc9 (by decide+kernel) mixed ?_)|(refine yac.intro (id:=15) yc8 yc9 (by decide+kernel) mixed ?_)|skip);simp only [go_sem,sevalprocAttr,bk,cq,k0,k1,k2,↓ycu,ek,f1,f2,f3,yad,↓reduceIte,reduceCtorEq,yfn,yc8,yc9]|(refine ⟨yae.fn (r:=?_) rfl ?_ ?_⟩;rotate_left;assumption)|(refine ⟨yai.fn (r:=?_) rfl ?_ ?_⟩;rotate_left;assumption)|apply yab<;>(intro h_;(try simp only [h_]);revert h_)|apply And.intro|with_reducible intro h_|trivial|simp only [go_sem,la2];omega)
    any_goals exact ycn _ (fun _ _ _ _=>rfl) _ _
    refine ⟨_,_,_,?_,Wk.sub ?_ ?_,k+1,by omega,rfl,rfl,rfl⟩
    ·omega
    ·simp only [go_sem,sevalprocAttr,yad]
    ·rw [hmk1,em]
     simp only [go_sem,sevalprocAttr,yad,↓ycu,f3]
     all_goals first|exact ycn _ (fun _ _ _ _=>rfl) _ _|(rw [Nat.zero_add] at f2;exact congrArg (AObj.gmap suT _) f2)
   |some hl=>
    obtain ⟨h,l⟩:=hl
    obtain ⟨b,f1,f2,f3⟩:=ylj (s.2*t.2) 0 hf
    have hBn:(-((i*q.length+k:Nat)*67108864:Int)<=h/\h<=(i*q.length+k:Nat)*67108864)/\0<=l/\l<=(i*q.length+k:Nat)*33554432:=hMm.bn _ (yjk hf)
    generalize i*q.length=iq at*
    have hpl:=yf3 h l (s.2*t.2) (by omega) (by omega) (by unfold InI;omega)
    repeat' (first|omega|(first|apply yaa|(refine yac.intro (id:=5) [[31],[31],[29,30],[],[],[]] [[],[],[0,1],[],[],[]] (by decide+kernel) mixed ?_)|(refine yac.introT (id:=5) (yfn) (by decide+kernel) mixed ?_)|(refine yac.introL (id:=15) yc8 yc9 (by decide+kernel) mixed ?_)|(refine yac.intro (id:=15) yc8 yc9 (by decide+kernel) mixed ?_)|skip);simp only [go_sem,sevalprocAttr,bk,cq,k0,k1,k2,↓ycu,ek,f1,f2,f3,yad,↓reduceIte,reduceCtorEq,yfn,yc8,yc9]|(refine ⟨yae.fn (r:=?_) rfl ?_ ?_⟩;rotate_left;assumption)|(refine ⟨yai.fn (r:=?_) rfl ?_ ?_⟩;rotate_left;assumption)|apply yab<;>(intro h_;(try simp only [h_]);revert h_)|apply And.intro|with_reducible intro h_|trivial|simp only [go_sem,la2];omega)
    any_goals exact ycn _ (fun _ _ _ _=>rfl) _ _
    refine ⟨_,_,_,?_,Wk.sub ?_ ?_,k+1,by omega,rfl,rfl,rfl⟩
    ·omega
    ·simp only [go_sem,sevalprocAttr,yad]
    ·rw [hmk1,em]
     simp only [go_sem,sevalprocAttr,yad,↓ycu,f3]
     all_goals exact ycn _ (fun _ _ _ _=>rfl) _ _
  ·obtain rfl:k=q.length:=by omega
   have bk:decide ((q.length:Int)<q.length)=false:=by simp
   rw [List.take_length]
   rw [←em]
   repeat' (first|omega|(try apply yaa);simp only [go_sem,sevalprocAttr,bk]|apply yab<;>(intro h_;(try simp only [h_]);revert h_)|apply And.intro|with_reducible intro h_|trivial|simp only [go_sem,la2];omega)
   refine ⟨_,_,_,?_,Wk.sub ?_ ?_,i+1,by omega,rfl,rfl,rfl⟩
   ·omega
   ·simp only [go_sem,sevalprocAttr,yad]
   ·simp only [go_sem,sevalprocAttr,yad,↓ycu]
    all_goals exact ycn _ (fun _ _ _ _=>rfl) _ _
 ·obtain rfl:i=p.length:=by omega
  have bi:decide ((p.length:Int)<p.length)=false:=by simp
  have hM:=hMo p.length (Nat.le_refl _)
  rw [List.take_length] at hM⊢
  have hv: ∀e,mVal (mMul q [] p) e=cvL p g e:=fun e=>by
   rw [yqa,ylg,Int.zero_add]
   congr 1
   funext x;exact hq.cf x
  repeat' (first|omega|(try apply yaa);simp only [go_sem,sevalprocAttr,bi]|apply yab<;>(intro h_;(try simp only [h_]);revert h_)|apply And.intro|with_reducible intro h_|trivial|simp only [go_sem,la2];omega)
  have hKl:(mMul q [] p).length<=1000000:=by
   refine yc4.len (M:=2*N) (yc4.mul (fun _ h=>by cases h) fun s hs t ht=>?_) hM.nd (by omega)
   have h1:=hp.memB sp hs
   have h2:=hq.memB sq ht
   have:=ynb (e:=s.1) (e':=t.1) (by unfold bvOk;omega) (by unfold bvOk;omega)
   omega
  have hpq:p.length*q.length<=10000000000:=Nat.mul_le_mul lp lq
  refine ⟨yae.inline (ykw (mMul q [] p) (p.length*q.length) hM hpq hKl (fun e=>by rw [hv];exact br e) (fun e he=>by rw [hv] at he;have:=sr e he;omega) (fr':=[(4, .ptr 2 0)]) (Wk.sub ?_ ?_) (by simp only [go_sem,sevalprocAttr,gaO]) rfl fun r' hr' hl'=>?_)⟩
  ·simp only [go_sem,sevalprocAttr]
  ·simp only [go_sem,sevalprocAttr,↓ycu]
   all_goals exact ycn _ (fun _ _ _ _=>rfl) _ _
  obtain rfl:r'=r:=AscN.ext hr'.asc hr.asc fun e=>by rw [hr'.cf,hr.cf,hv]
  repeat' (first|omega|(try apply yaa);simp only [go_sem,sevalprocAttr]|apply yab<;>(intro h_;(try simp only [h_]);revert h_)|apply And.intro|with_reducible intro h_|trivial|simp only [go_sem,la2];omega)
  all_goals first
   |exact yfl _ _ ‹_›
   |exact yxr r' _
   |(rw [yal];omega)
end Go.Proofs.YtbblgobamoabkaaGreatDoor
