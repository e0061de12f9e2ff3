/- Layer 13: Set with A^-4 for a and A^-2 - A^2 for z. -/
import Derived.Test.YtfgbnalnbdhimaaGreatDoorZg
import Derived.Test.YtfgbnalnbdhimaaGreatDoorZc
import Derived.Test.YtfgbnalnbdhimaaGreatDoorZd
import Derived.Test.YtfgbnalnbdhimaaGreatDoorZa
namespace Go.Proofs.YtfgbnalnbdhimaaGreatDoor
open Go Go.RowKit
set_option maxRecDepth 100000
set_option maxHeartbeats 8000000
set_option linter.unusedVariables false
set_option linter.unusedSimpArgs false
def yeb:TbA:=[(11,[[54],[54],[52,53],[],[],[]],[[],[],[0,1],[],[],[]]),(16,[[64,65,66,67,68,69,70,71,72,73,74,75,76,77,78],[63,67,68,69,72,73,74,75,76],[63,67,68,69,72,73,74,75,76],[63,67,68,69,72,73,74,75,76],[63,64,65,66,68,69,72,73,74,75,76],[63,64,65,66,67,72,73,74,75,76],[63,64,65,66,67,72,73,74,75,76],[63,72,73,74,75,76],[63,72,73,74,75,76],[63,64,65,66,67,68,69,70,71,73,74,75,76],[63,64,65,66,67,68,69,70,71,72,75],[63,64,65,66,67,68,69,70,71,72,75],[63,64,65,66,67,68,69,70,71,72,73,74],[63,64,65,66,67,68,69,70,71,72],[63],[63],[],[]],[[],[0],[0],[0],[0,1,2,3],[0,1,2,3,4],[0,1,2,3,4],[0],[0],[0,1,2,3,4,5,6,7,8],[0,1,2,3,4,5,6,7,8,9],[0,1,2,3,4,5,6,7,8,9],[0,1,2,3,4,5,6,7,8,9,10,11],[0,1,2,3,4,5,6,7,8,9],[0],[0],[],[]])]
def ydc:TbT:=[(11, .node [(0, .node [(1,trD [2,3,4,5]),(2,trD [1,3,4,5])]),(2,trD [0,1,3,4,5])])]
def yme:Tr:= .node [(0, .node [(1,trD [2,3,4,5]),(2,trD [1,3,4,5])]),(2,trD [0,1,3,4,5])]
def yye:TbA:=[(16,[[64,65,66,67,68,69,70,71,72,73,74,75,76,77,78],[63,67,68,69,72,73,74,75,76],[63,67,68,69,72,73,74,75,76],[63,67,68,69,72,73,74,75,76],[63,64,65,66,68,69,72,73,74,75,76],[63,64,65,66,67,72,73,74,75,76],[63,64,65,66,67,72,73,74,75,76],[63,72,73,74,75,76],[63,72,73,74,75,76],[63,64,65,66,67,68,69,70,71,73,74,75,76],[63,64,65,66,67,68,69,70,71,72,75],[63,64,65,66,67,68,69,70,71,72,75],[63,64,65,66,67,68,69,70,71,72,73,74],[63,64,65,66,67,68,69,70,71,72],[63],[63],[],[]],[[],[0],[0],[0],[0,1,2,3],[0,1,2,3,4],[0,1,2,3,4],[0],[0],[0,1,2,3,4,5,6,7,8],[0,1,2,3,4,5,6,7,8,9],[0,1,2,3,4,5,6,7,8,9],[0,1,2,3,4,5,6,7,8,9,10,11],[0,1,2,3,4,5,6,7,8,9],[0],[0],[],[]])]
def yyf:TbA:=[(11,[[54],[54],[52,53],[],[],[]],[[],[],[0,1],[],[],[]])]
abbrev pwF:AV:= .fn 51 [.ptr 6 0, .ptr 4 0]
theorem Wk.rf {fr:Fr} {H:Hp}:Wk fr H fr H:=fun _ _ _ _ _ ρ _ h=>⟨ρ,h⟩
theorem ytm {i:Nat}: ∀{fr:Fr},(∀q∈fr,cutV i q.2=q.2)->fcut i (lft fr)=lft fr
 |[],_=>rfl
 |(s,x)::r,h=>by
  have h1:=h (s,x) (List.mem_cons_self ..)
  have h2:=ytm (fr:=r) fun q hq=>h q (List.mem_cons_of_mem _ hq)
  simp only [lft,fcut,h2]
  rw [show cutV i x=x from h1]
theorem yyg {i j:Nat}: ∀{fr:Fr},(∀q∈fr,swV i j 4 q.2=q.2)->swF i j (lft fr)=lft fr
 |[],_=>rfl
 |(s,x)::r,h=>by
  have h1:=h (s,x) (List.mem_cons_self ..)
  have h2:=yyg (fr:=r) fun q hq=>h q (List.mem_cons_of_mem _ hq)
  simp only [lft,swF,h2]
  rw [show swV i j 4 x=x from h1]
theorem ymf (m:Option (List (Int×Int))):plO m=plA m.isNone (m.getD []):=by cases m<;>rfl
abbrev hZ (N:Nat) (x y c:Int) (b:Bool) (X:AV):Hp:=[(8, .cells 50 (.lst [I x,I y,I c])),(7, .cells 32 (.lst [.bool b,X])),(6,knO 5 N),(5,pkO N),(4,lpB (tmA pwZ1)),(3,lpB .nils)]
abbrev hZ0 (N:Nat) (X:AV):Hp:=[(7,lpB X),(6,knO 5 N),(5,pkO N),(4,lpB (tmA pwZ1)),(3,lpB .nils)]
abbrev frZ (p:List (Int×Int)) (k:Int) (i:Nat):Fr:=[(59,I i),(58,I p.length),(57,bvT p),(13, .ptr 7 0),(12,pwF),(11,pwV (-4)),(8,I k),(6, .ptr 3 0)]
theorem y4n {p:List (Int×Int)} (hp:OkB p):
  Fn Tryz.prog 9 [bvP false p,plA false [(-4,1)],plA false pwZ1] (.tup [plA false (setO (-4) pwZ (fun T n=>divO T (pwZ n)) p).1,I (setO (-4) pwZ (fun T n=>divO T (pwZ n)) p).2]):=by
 have hz: ∀t∈p,-20<=bvZ t.1/\bvZ t.1<=20:=fun t ht=>(hp.exp t ht).2
 have ha: ∀t∈p,-20<=bvA t.1/\bvA t.1<=20:=fun t ht=>(hp.exp t ht).1
 have hpl:p.length<=100000:=yag.lenB (f:=cfL p) ⟨hp.asc,fun _=>rfl⟩ hp.sup (by decide)
 have cp:=ybf p
 have hK:=ymd hz
 have hB0:=ydl [(-4,1)]
 have hB1:=ydl pwZ1
 have hU:=yqg (-4)
 refine Fn.introL [.cell 6 32, .tmp 7] Tryz.func9 rfl rfl (by decide) (by simp [Tryz.ntmps9]) ?_;rw [Tryz.ntmps9]
 repeat' (first|omega|(first|apply yaa|refine tbN yeb ?_|refine tbT ydc ?_|skip);simp only [go_sem,yac,yad]|refine cgL ?_|refine cgD ?_|apply yab<;>(intro h_;(try simp only [h_]);revert h_)|apply And.intro|with_reducible intro h_|trivial)
 refine yai.intro (fun n fr H=> ∃i:Nat,i<=p.length/\n=p.length-i/\fr=[(33,I i),(32,I p.length),(31,bvT p),(8,I (kMx p i)),(6, .ptr 3 0),(5, .ptr 2 0),(4, .ptr 1 0),(3, .ptr 0 0)]/\H=[(3,lpB .nils),(2,lpB (tmA pwZ1)),(1,lpB (tmA [(-4,1)])),(0,pbO p)]) ?_ ?_
 ·refine ⟨_,_,_,Wk.sub (fr':=[(33,I ((0:Nat):Int)),(32,I p.length),(31,bvT p),(8,I 0),(6, .ptr 3 0),(5, .ptr 2 0),(4, .ptr 1 0),(3, .ptr 0 0)]) (H':=[(3,lpB .nils),(2,lpB (tmA pwZ1)),(1,lpB (tmA [(-4,1)])),(0,pbO p)]) ?_ ?_,0,by omega,rfl,rfl,rfl⟩
  ·simp only [go_sem,yac,yad]
  ·simp only [go_sem,yac,yad]
 rintro n fr H ⟨i,hi,rfl,rfl,rfl⟩
 by_cases hil:i<p.length
 ·have bi:decide ((i:Int)<p.length)=true:=by simp;omega
  obtain ⟨g0,g1,g2⟩:=yco p i hil
  have es:kMx p (i+1)=mx2 (kMx p i) (0-bvZ (p.getD i (0,0)).1):=rfl
  have hti:=ya6 hil
  have hza:=hz _ hti
  have haa:=ha _ hti
  have hki:=hK i hi
  generalize p.getD i (0,0)=t at*
  unfold mx2 at es
  generalize kMx p i=ki at*
  cases ba:decide (bvA t.1<0) with
  |true=>
   repeat' (first|omega|(first|apply yaa|refine tbN yeb ?_|refine tbT ydc ?_|skip);simp only [go_sem,bi,cp,g0,g1,g2,ba,yac,yad]|refine cgL ?_|refine cgD ?_|apply yab<;>(intro h_;(try simp only [h_]);revert h_)|apply And.intro|with_reducible intro h_|trivial)
   refine ⟨_,_,_,?_,Wk.sub ?_ ?_,i+1,by omega,rfl,rfl,rfl⟩
   ·omega
   ·simp only [go_sem,yac,yad,es]
   ·simp only [go_sem,yac,yad]
  |false=>
   repeat' (first|omega|(first|apply yaa|refine tbN yeb ?_|refine tbT ydc ?_|skip);simp only [go_sem,bi,cp,g0,g1,g2,ba,yac,yad]|refine cgL ?_|refine cgD ?_|apply yab<;>(intro h_;(try simp only [h_]);revert h_)|apply And.intro|with_reducible intro h_|trivial)
   refine ⟨_,_,_,?_,Wk.sub ?_ ?_,i+1,by omega,rfl,rfl,rfl⟩
   ·omega
   ·simp only [go_sem,yac,yad,es]
   ·simp only [go_sem,yac,yad]
 obtain rfl:i=p.length:=by omega
 have bi:decide ((p.length:Int)<p.length)=false:=by simp
 obtain ⟨k0,k1,k2⟩:=hK p.length (Nat.le_refl _)
 have eS:setO (-4) pwZ (fun T n=>divO T (pwZ n)) p=match totO (-4) pwZ (kMx p p.length) p p.length with
  |none=>([],9)
  |some T=>if kMx p p.length=0 then (T,0) else if (divO T (pwZ (kMx p p.length).toNat)).2=0 then ((divO T (pwZ (kMx p p.length).toNat)).1,0) else ([],10):=rfl
 have hTO:=yjq (e:= -4) (pw:=pwZ) hp (by decide) ⟨k0,k1⟩ (fun n hn=>⟨(ydo hn).1,by rw [(ydo hn).2.1];omega⟩) k2
 obtain ⟨RS,hRS⟩: ∃r,setO (-4) pwZ (fun T n=>divO T (pwZ n)) p=r:=⟨_,rfl⟩
 rw [hRS]
 rw [eS] at hRS
 have hk00:p.length=0->kMx p p.length=0:=fun h=>by rw [h];rfl
 clear hK hU eS
 generalize kMx p p.length=k at*
 have hPA:=yix (-4)
 have hPZ:=yrp
 have hr:(pkC 1).map (renV 4 4)=pkC 1:=yjp rfl (fun _=>rfl) 1
 apply yhv.share (P:=Tryz.prog) (N:=103) (fun n fr H=> ∃(i:Nat) (T:List (Int×Int)) (X:AV) (N:Nat),i<=p.length/\n=p.length-i/\totO (-4) pwZ k p i=some T/\(X=tmA T\/X= .nils/\T=[])/\1<=N/\N<=41/\fr=frZ p k i/\(i=0/\H=hZ0 N X\/ ∃x y c,H=hZ N x y c false X))
 ·intro hl
  repeat' (first|omega|(try apply yaa);simp only [go_sem,bi,yac,yad]|apply yab<;>(intro h_;(try simp only [h_]);revert h_)|apply And.intro|with_reducible intro h_|trivial)
  repeat' (first|omega|(first|apply yaa|refine ya2.introI (id:=11) (yme) (by decide+kernel) mixed ?_|refine tbN yye ?_|refine tbN yyf ?_|refine tbT ydc ?_|skip);simp only [go_sem,bi,yme]|apply yab<;>(intro h_;(try simp only [h_]);revert h_)|apply And.intro|with_reducible intro h_|trivial)
  all_goals (refine ⟨yae.fn rfl hPA ?_⟩)
  all_goals repeat' (first|omega|(first|apply yaa|refine ya2.introI (id:=11) (yme) (by decide+kernel) mixed ?_|refine tbN yye ?_|refine tbN yyf ?_|refine tbT ydc ?_|skip);simp only [go_sem,bi,yme]|apply yab<;>(intro h_;(try simp only [h_]);revert h_)|apply And.intro|with_reducible intro h_|trivial)
  all_goals (refine ⟨yae.fno rfl hPZ ?_⟩)
  all_goals repeat' (first|omega|(try apply yaa);simp only [go_sem,bi,yac,yad]|apply yab<;>(intro h_;(try simp only [h_]);revert h_)|apply And.intro|with_reducible intro h_|trivial)
  all_goals (refine hl _ _ ⟨_,_,_,Wk.sub (fr':=frZ p k 0) (H':=hZ0 1 .nils) ?_ ?_,0,[], .nils,1,by omega,rfl,rfl, .inr ⟨rfl,rfl⟩,by decide,by decide,rfl, .inl ⟨rfl,rfl⟩⟩)
  all_goals (simp only [go_sem,yac,yad,hr])
 rintro n fr H ⟨i,T,X,N,hi',rfl,hT,hXT,hN1,hN2,rfl,hH⟩
 have hX:X= .nils\/ ∃T,X=tmA T:=hXT.elim (fun h=> .inr ⟨T,h⟩) fun h=> .inl h.1
 have hX':=hX
 have hXL:LeA X (tmA T):=by
  rcases hXT with rfl|⟨rfl,rfl⟩
  ·exact LeA.refl _
  ·exact LeA.nils (by omega) rfl
 have hTok:=hTO i T hi' hT
 by_cases hil':i<p.length
 ·have bi':decide ((i:Int)<p.length)=true:=by simp;omega
  obtain ⟨g0,g1,g2⟩:=yco p i hil'
  have hti:=ya6 hil'
  have hza:=hz _ hti
  have haa:=ha _ hti
  have hca:=hp.fit _ hti
  have hnc:=hp.asc.nz _ hti
  have hk0:=k2 i hil'
  have hw:Wk (frZ p k i) H (frZ p k i) (hZ0 N X):=by
   rcases hH with ⟨_,rfl⟩|⟨x,y,c,rfl⟩
   ·exact Wk.rf
   ·rcases hX with rfl|⟨T0,rfl⟩
    all_goals
     refine Wk.sub ?_ ?_
     ·simp only [go_sem,yac,yad]
     ·simp only [go_sem,yac,yad]
  have hstep:totO (-4) pwZ k p (i+1)=(mulO [(-4*bvA (p.getD i (0,0)).1,(p.getD i (0,0)).2)] (pwZ (bvZ (p.getD i (0,0)).1+k).toNat)).bind (addO T):=by simp only [totO,hT,Option.bind_some]
  generalize (p.getD i (0,0)).2=c at*
  generalize bvA (p.getD i (0,0)).1=a at*
  generalize bvZ (p.getD i (0,0)).1=z at*
  obtain ⟨m,hmz⟩: ∃m,(z+k).toNat=m:=⟨_,rfl⟩
  rw [hmz] at hstep
  have hm:m<=40:=by omega
  have hzk:z+k=(m:Int):=by omega
  obtain ⟨w1,w2,w3,w4⟩:=ydo hm
  have hTm:=ycc c 0 (by omega) (by decide)
  rw [show trm c 0=[(0,c)] from if_neg hnc] at hTm
  have hP1:=yjr (-4) a (by decide) (by omega)
  have hM1:=yqf 0 c (-4*a) (by omega) hnc (by decide) (by omega)
  rw [Int.zero_add] at hM1
  have o1:OkT 80 [(-4*a,c)]:=OkT.one hnc hca (by omega)
  have hM2:=OkT.mul o1 w1 (by decide) (by decide) (by simp) (by omega) (by
   have:lowE (pwZ m)= -2*(m:Int):=by unfold lowE;rw [w3]
   rw [w4,w2,this]
   simp [yah,lowE];omega)
  have hAd0:=ys9 (N:=160) (m:=mulO [(-4*a,c)] (pwZ m)) hTok (fun q hq=>(ym1 o1 w1 (by simp) (by omega) hq)) (by decide)
  have hAd:Fn Tryz.prog 22 [.agg [.bool false,X],plO (mulO [(-4*a,c)] (pwZ m))] (plO ((mulO [(-4*a,c)] (pwZ m)).bind (addO T))):=Fn.le21 (LeA.aggL (.cons (LeA.refl _) (.cons hXL .nil))) hAd0
  rw [←hstep] at hAd
  have hBg:=yqh (totO (-4) pwZ k p (i+1))
  clear hAd0 hstep
  rw [ymf] at hM2 hAd hBg
  rw [ymf] at hAd
  obtain ⟨u,hu⟩: ∃u,totO (-4) pwZ k p (i+1)=u:=⟨_,rfl⟩
  rw [hu] at hAd hBg
  obtain ⟨d2,hd2⟩: ∃d,u.isNone=d:=⟨_,rfl⟩
  obtain ⟨l2,hl2⟩: ∃l,u.getD []=l:=⟨_,rfl⟩
  rw [hd2,hl2] at hAd hBg
  generalize (mulO [(-4*a,c)] (pwZ m)).isNone=d1 at*
  generalize (mulO [(-4*a,c)] (pwZ m)).getD []=l1 at*
  refine WpA.wk hw ?_
  repeat' (first|omega|(try apply yaa);simp only [go_sem,bi',cp,g0,g1,g2,yac,yad]|apply yab<;>(intro h_;(try simp only [h_]);revert h_)|apply And.intro|with_reducible intro h_|trivial)
  refine ya2.cut (frZ p k i) (hZ (max N (m+1)) a z c d2 (tmA l2)) ?_ ?_
  ·refine ya2.introX [.agg [.bool false,X], .ptr 8 2,I c,plA false [(0,c)],pwV (-4), .ptr 8 0,I a,plA false [(-4*a,1)],plA false [(-4*a,c)],pwF, .ptr 8 1,I z,I k,I (z+k),plA false (pwZ m),plA d1 l1,plA d2 l2, .any]
    [(59,I i),(58,I p.length),(57,bvT p),(15, .ptr 8 0),(13, .ptr 7 0),(12,pwF),(11,pwV (-4)),(8,I k),(6, .ptr 3 0)]
    (fun E=>if E 17=true then (9,lpB (tmA (pwZ m)))::hZ (max N (m+1)) a z c d2 (tmA l2) else if E 14=true then (9,lpB (tmA (pwZ m)))::hZ (max N (m+1)) a z c false X else hZ N a z c false X)
    (by decide+kernel) (by decide+kernel) mixed (Wk.sub ?_ ?_) ?_ (fun E F hE hs=>⟨rfl,Wk.sub ?_ ?_⟩)
   ·simp only [go_sem,yad]
   ·rcases hX with rfl|⟨T0,rfl⟩<;>(simp only [go_sem,yac,yad,Bool.false_eq_true])
   ·simp only [ymb]
    refine ⟨?_,?_,?_,?_,?_,?_,?_,?_,?_,?_,?_,?_,?_,?_,?_,?_,?_,?_,trivial⟩
    ·intro E F hj he hcl hs
     have e17:E 17=false:=by
      cases h:E 17 with
      |false=>rfl
      |true=>have:=hcl 17 (by decide) h 0 (by decide+kernel);rw [this] at hj;cases hj
     have b13:=hs.old 13 (by decide+kernel)
     rcases Bool.eq_false_or_eq_true (E 14) with e14|e14<;>(simp only [go_sem,b13,updE,e17,e14])<;>first|exact Wk.rf|exact ⟨by omega,Wk.rf⟩
    ·intro E F hj he hcl hs
     have e17:E 17=false:=by
      cases h:E 17 with
      |false=>rfl
      |true=>have:=hcl 17 (by decide) h 1 (by decide+kernel);rw [this] at hj;cases hj
     have b15:=hs.old 15 (by decide+kernel)
     rcases Bool.eq_false_or_eq_true (E 14) with e14|e14<;>(simp only [go_sem,b15,updE,e17,e14])<;>first|exact Wk.rf|exact ⟨by omega,Wk.rf⟩
    ·intro E F hj he hcl hs
     have e17:E 17=false:=by
      cases h:E 17 with
      |false=>rfl
      |true=>have:=hcl 17 (by decide) h 2 (by decide+kernel);rw [this] at hj;cases hj
     have r1:=hs.res 1 64 (by decide) rfl (he 1 (by decide+kernel))
     rcases Bool.eq_false_or_eq_true (E 14) with e14|e14<;>(simp only [go_sem,r1,updE,e17,e14])<;>first|exact Wk.rf|exact ⟨by omega,Wk.rf⟩
    ·intro E F hj he hcl hs
     have e17:E 17=false:=by
      cases h:E 17 with
      |false=>rfl
      |true=>have:=hcl 17 (by decide) h 3 (by decide+kernel);rw [this] at hj;cases hj
     have r2:=hs.res 2 65 (by decide) rfl (he 2 (by decide+kernel))
     rcases Bool.eq_false_or_eq_true (E 14) with e14|e14<;>(simp only [go_sem,r2,updE,e17,e14])<;>refine ⟨yae.fn rfl hTm ?_⟩<;>(simp only [go_sem,r2,updE,e17,e14])<;>exact Wk.rf
    ·intro E F hj he hcl hs
     have e17:E 17=false:=by
      cases h:E 17 with
      |false=>rfl
      |true=>have:=hcl 17 (by decide) h 4 (by decide+kernel);rw [this] at hj;cases hj
     have b11:=hs.old 11 (by decide+kernel)
     rcases Bool.eq_false_or_eq_true (E 14) with e14|e14<;>(simp only [go_sem,b11,updE,e17,e14])<;>first|exact Wk.rf|exact ⟨by omega,Wk.rf⟩
    ·intro E F hj he hcl hs
     have e17:E 17=false:=by
      cases h:E 17 with
      |false=>rfl
      |true=>have:=hcl 17 (by decide) h 5 (by decide+kernel);rw [this] at hj;cases hj
     have b15:=hs.old 15 (by decide+kernel)
     rcases Bool.eq_false_or_eq_true (E 14) with e14|e14<;>(simp only [go_sem,b15,updE,e17,e14])<;>first|exact Wk.rf|exact ⟨by omega,Wk.rf⟩
    ·intro E F hj he hcl hs
     have e17:E 17=false:=by
      cases h:E 17 with
      |false=>rfl
      |true=>have:=hcl 17 (by decide) h 6 (by decide+kernel);rw [this] at hj;cases hj
     have r5:=hs.res 5 68 (by decide) rfl (he 5 (by decide+kernel))
     rcases Bool.eq_false_or_eq_true (E 14) with e14|e14<;>(simp only [go_sem,r5,updE,e17,e14])<;>first|exact Wk.rf|exact ⟨by omega,Wk.rf⟩
    ·intro E F hj he hcl hs
     have e17:E 17=false:=by
      cases h:E 17 with
      |false=>rfl
      |true=>have:=hcl 17 (by decide) h 7 (by decide+kernel);rw [this] at hj;cases hj
     have r4:=hs.res 4 67 (by decide) rfl (he 4 (by decide+kernel))
     have r6:=hs.res 6 69 (by decide) rfl (he 6 (by decide+kernel))
     rcases Bool.eq_false_or_eq_true (E 14) with e14|e14<;>(simp only [go_sem,r4,r6,updE,e17,e14])<;>refine ⟨yae.fn rfl hP1 ?_⟩<;>(simp only [go_sem,r4,r6,updE,e17,e14])<;>exact Wk.rf
    ·intro E F hj he hcl hs
     have e17:E 17=false:=by
      cases h:E 17 with
      |false=>rfl
      |true=>have:=hcl 17 (by decide) h 8 (by decide+kernel);rw [this] at hj;cases hj
     have r3:=hs.res 3 66 (by decide) rfl (he 3 (by decide+kernel))
     have r7:=hs.res 7 70 (by decide) rfl (he 7 (by decide+kernel))
     rcases Bool.eq_false_or_eq_true (E 14) with e14|e14<;>(simp only [go_sem,r3,r7,updE,e17,e14])<;>refine ⟨yae.fn rfl hM1 ?_⟩<;>(simp only [go_sem,r3,r7,updE,e17,e14])<;>exact Wk.rf
    ·intro E F hj he hcl hs
     have e17:E 17=false:=by
      cases h:E 17 with
      |false=>rfl
      |true=>have:=hcl 17 (by decide) h 9 (by decide+kernel);rw [this] at hj;cases hj
     have b12:=hs.old 12 (by decide+kernel)
     rcases Bool.eq_false_or_eq_true (E 14) with e14|e14<;>(simp only [go_sem,b12,updE,e17,e14])<;>first|exact Wk.rf|exact ⟨by omega,Wk.rf⟩
    ·intro E F hj he hcl hs
     have e17:E 17=false:=by
      cases h:E 17 with
      |false=>rfl
      |true=>have:=hcl 17 (by decide) h 10 (by decide+kernel);rw [this] at hj;cases hj
     have b15:=hs.old 15 (by decide+kernel)
     rcases Bool.eq_false_or_eq_true (E 14) with e14|e14<;>(simp only [go_sem,b15,updE,e17,e14])<;>first|exact Wk.rf|exact ⟨by omega,Wk.rf⟩
    ·intro E F hj he hcl hs
     have e17:E 17=false:=by
      cases h:E 17 with
      |false=>rfl
      |true=>have:=hcl 17 (by decide) h 11 (by decide+kernel);rw [this] at hj;cases hj
     have r10:=hs.res 10 73 (by decide) rfl (he 10 (by decide+kernel))
     rcases Bool.eq_false_or_eq_true (E 14) with e14|e14<;>(simp only [go_sem,r10,updE,e17,e14])<;>first|exact Wk.rf|exact ⟨by omega,Wk.rf⟩
    ·intro E F hj he hcl hs
     have e17:E 17=false:=by
      cases h:E 17 with
      |false=>rfl
      |true=>have:=hcl 17 (by decide) h 12 (by decide+kernel);rw [this] at hj;cases hj
     have b8:=hs.old 8 (by decide+kernel)
     rcases Bool.eq_false_or_eq_true (E 14) with e14|e14<;>(simp only [go_sem,b8,updE,e17,e14])<;>first|exact Wk.rf|exact ⟨by omega,Wk.rf⟩
    ·intro E F hj he hcl hs
     have e17:E 17=false:=by
      cases h:E 17 with
      |false=>rfl
      |true=>have:=hcl 17 (by decide) h 13 (by decide+kernel);rw [this] at hj;cases hj
     have r11:=hs.res 11 74 (by decide) rfl (he 11 (by decide+kernel))
     have r12:=hs.res 12 75 (by decide) rfl (he 12 (by decide+kernel))
     rcases Bool.eq_false_or_eq_true (E 14) with e14|e14<;>(simp only [go_sem,r11,r12,updE,e17,e14])<;>first|exact Wk.rf|exact ⟨by omega,Wk.rf⟩
    ·intro E F hj he hcl hs
     have e17:E 17=false:=by
      cases h:E 17 with
      |false=>rfl
      |true=>have:=hcl 17 (by decide) h 14 (by decide+kernel);rw [this] at hj;cases hj
     have r9:=hs.res 9 72 (by decide) rfl (he 9 (by decide+kernel))
     have r13:=hs.res 13 76 (by decide) rfl (he 13 (by decide+kernel))
     have hv:=hs.all (fun v=>s3 pkK v=true/\cutV 5 v=v/\swV 5 20 4 v=v) ⟨rfl,rfl,rfl⟩ (List.forall_mem_cons.2 ⟨⟨rfl,rfl,rfl⟩,List.forall_mem_cons.2 ⟨⟨rfl,rfl,rfl⟩,List.forall_mem_cons.2 ⟨⟨rfl,rfl,rfl⟩,List.forall_mem_cons.2 ⟨⟨rfl,rfl,rfl⟩,List.forall_mem_cons.2 ⟨⟨rfl,rfl,rfl⟩,List.forall_mem_cons.2 ⟨⟨rfl,rfl,rfl⟩,List.forall_mem_cons.2 ⟨⟨rfl,rfl,rfl⟩,List.forall_mem_cons.2 ⟨⟨rfl,rfl,rfl⟩,List.forall_mem_cons.2 ⟨⟨rfl,rfl,rfl⟩,fun _ h=>nomatch h⟩⟩⟩⟩⟩⟩⟩⟩⟩) (by rcases hX with rfl|⟨T0,rfl⟩<;>exact List.forall_mem_cons.2 ⟨⟨rfl,rfl,rfl⟩,List.forall_mem_cons.2 ⟨⟨rfl,rfl,rfl⟩,List.forall_mem_cons.2 ⟨⟨rfl,rfl,rfl⟩,List.forall_mem_cons.2 ⟨⟨rfl,rfl,rfl⟩,List.forall_mem_cons.2 ⟨⟨rfl,rfl,rfl⟩,List.forall_mem_cons.2 ⟨⟨rfl,rfl,rfl⟩,List.forall_mem_cons.2 ⟨⟨rfl,rfl,rfl⟩,List.forall_mem_cons.2 ⟨⟨rfl,rfl,rfl⟩,List.forall_mem_cons.2 ⟨⟨rfl,rfl,rfl⟩,List.forall_mem_cons.2 ⟨⟨rfl,rfl,rfl⟩,List.forall_mem_cons.2 ⟨⟨rfl,rfl,rfl⟩,List.forall_mem_cons.2 ⟨⟨rfl,rfl,rfl⟩,List.forall_mem_cons.2 ⟨⟨rfl,rfl,rfl⟩,List.forall_mem_cons.2 ⟨⟨rfl,rfl,rfl⟩,List.forall_mem_cons.2 ⟨⟨rfl,rfl,rfl⟩,List.forall_mem_cons.2 ⟨⟨rfl,rfl,rfl⟩,List.forall_mem_cons.2 ⟨⟨rfl,rfl,rfl⟩,List.forall_mem_cons.2 ⟨⟨rfl,rfl,rfl⟩,fun _ h=>nomatch h⟩⟩⟩⟩⟩⟩⟩⟩⟩⟩⟩⟩⟩⟩⟩⟩⟩⟩)
     simp only [go_sem,r9,r13,updE,hj,e17,hzk]
     refine ⟨yae.inline (yn5 m N hm ⟨hN1,hN2⟩ a z c X hX' (List.all_eq_true.2 fun q hq=>(hv q hq).1) (ytm fun q hq=>(hv q hq).2.1) (yyg fun q hq=>(hv q hq).2.2) ?_)⟩
     simp only [go_sem,r9,r13,updE,hj,e17]
     exact Wk.rf
    ·intro E F hj he hcl hs
     have e17:E 17=false:=by
      cases h:E 17 with
      |false=>rfl
      |true=>have:=hcl 17 (by decide) h 15 (by decide+kernel);rw [this] at hj;cases hj
     have r8:=hs.res 8 71 (by decide) rfl (he 8 (by decide+kernel))
     have r14:=hs.res 14 77 (by decide) rfl (he 14 (by decide+kernel))
     rcases Bool.eq_false_or_eq_true (E 14) with e14|e14<;>(simp only [go_sem,r8,r14,updE,e17,e14])<;>refine ⟨yae.fn rfl hM2 ?_⟩<;>(simp only [go_sem,r8,r14,updE,e17,e14])<;>exact Wk.rf
    ·intro E F hj he hcl hs
     have e17:E 17=false:=by
      cases h:E 17 with
      |false=>rfl
      |true=>have:=hcl 17 (by decide) h 16 (by decide+kernel);rw [this] at hj;cases hj
     have r0:=hs.res 0 63 (by decide) rfl (he 0 (by decide+kernel))
     have r15:=hs.res 15 78 (by decide) rfl (he 15 (by decide+kernel))
     rcases Bool.eq_false_or_eq_true (E 14) with e14|e14<;>(simp only [go_sem,r0,r15,updE,e17,e14])<;>refine ⟨yae.fn (by rcases hX with rfl|⟨T0,rfl⟩<;>rfl) hAd ?_⟩<;>(simp only [go_sem,r0,r15,updE,e17,e14])<;>exact Wk.rf
    ·intro E F hj he hcl hs
     have b13:=hs.old 13 (by decide+kernel)
     have r16:=hs.res 16 79 (by decide) rfl (he 16 (by decide+kernel))
     have e14:=he 14 (by decide+kernel)
     simp only [go_sem,b13,r16,updE,hj,e14]
     exact Wk.rf
   ·have h17:=hE 17 (by decide)
    have b59:=hs.old 59 (by decide+kernel)
    have b58:=hs.old 58 (by decide+kernel)
    have b57:=hs.old 57 (by decide+kernel)
    have b13:=hs.old 13 (by decide+kernel)
    have b12:=hs.old 12 (by decide+kernel)
    have b11:=hs.old 11 (by decide+kernel)
    have b8:=hs.old 8 (by decide+kernel)
    have b6:=hs.old 6 (by decide+kernel)
    simp only [go_sem,h17,b59,b58,b57,b13,b12,b11,b8,b6,yac,yad]
   ·have h17:=hE 17 (by decide)
    simp only [go_sem,h17,yac,yad]
  ·cases u with
   |none=>
    obtain rfl:true=d2:=hd2
    obtain rfl:[]=l2:=hl2
    have hN:totO (-4) pwZ k p p.length=none:=by
     have:=yiy hu (p.length-(i+1))
     rwa [show i+1+(p.length-(i+1))=p.length by omega] at this
    rw [hN] at hRS
    obtain rfl:([],9)=RS:=hRS
    repeat' (first|omega|(first|apply yaa|refine tbN yeb ?_|refine tbT ydc ?_|skip);simp only [go_sem,yac,yad]|refine cgL ?_|refine cgD ?_|apply yab<;>(intro h_;(try simp only [h_]);revert h_)|apply And.intro|with_reducible intro h_|trivial)
    all_goals exact LeA.tupL (.cons (LeA.aggL (.cons (LeA.refl _) (.cons (LeA.nils (by omega) rfl) .nil))) (.cons (LeA.refl _) .nil))
   |some T'=>
    obtain rfl:false=d2:=hd2
    obtain rfl:T'=l2:=hl2
    repeat' (first|omega|(first|apply yaa|refine tbN yeb ?_|refine tbT ydc ?_|skip);simp only [go_sem,yac,yad]|refine cgL ?_|refine cgD ?_|apply yab<;>(intro h_;(try simp only [h_]);revert h_)|apply And.intro|with_reducible intro h_|trivial)
    refine ⟨_,_,_,?_,Wk.sub (fr':=frZ p k (i+1)) (H':=hZ (max N (m+1)) a z c false (tmA T')) ?_ ?_,i+1,T',tmA T',max N (m+1),by omega,rfl,hu, .inl rfl,by omega,by omega,rfl, .inr ⟨a,z,c,rfl⟩⟩
    ·omega
    ·simp only [go_sem,yac,yad]
    ·simp only [go_sem,yac,yad]
 obtain rfl:i=p.length:=by omega
 have bi':decide ((p.length:Int)<p.length)=false:=by simp
 rw [hT] at hRS
 replace hRS:(if k=0 then (T,0) else if (divO T (pwZ k.toNat)).2=0 then ((divO T (pwZ k.toNat)).1,0) else ([],10))=RS:=hRS
 have hTl:=hTok.len (by decide)
 by_cases hk:k=0
 ·have bk:(k==0)=true:=by rw [beq_iff_eq];exact hk
  rw [if_pos hk] at hRS
  subst hRS
  have hw:Wk (frZ p k p.length) H (frZ p k p.length) (hZ0 N X):=by
   rcases hH with ⟨_,rfl⟩|⟨x,y,c,rfl⟩
   ·exact Wk.rf
   ·rcases hX with rfl|⟨T0,rfl⟩
    all_goals
     refine Wk.sub ?_ ?_
     ·simp only [go_sem,yac,yad]
     ·simp only [go_sem,yac,yad]
  refine WpA.wk hw ?_
  rcases hXT with rfl|⟨rfl,rfl⟩
  ·repeat' (first|omega|(first|apply yaa|refine tbN yeb ?_|refine tbT ydc ?_|skip);simp only [go_sem,bi',bk,yac,yad]|refine cgL ?_|refine cgD ?_|apply yab<;>(intro h_;(try simp only [h_]);revert h_)|apply And.intro|with_reducible intro h_|trivial)
   all_goals exact LeA.refl _
  ·repeat' (first|omega|(first|apply yaa|refine tbN yeb ?_|refine tbT ydc ?_|skip);simp only [go_sem,bi',bk,yac,yad]|refine cgL ?_|refine cgD ?_|apply yab<;>(intro h_;(try simp only [h_]);revert h_)|apply And.intro|with_reducible intro h_|trivial)
   all_goals exact LeA.tupL (.cons (LeA.aggL (.cons (LeA.refl _) (.cons (LeA.nils (by omega) rfl) .nil))) (.cons (LeA.refl _) .nil))
 have bk:(k==0)=false:=by rw [beq_eq_false_iff_ne];exact hk
 rw [if_neg hk] at hRS
 obtain ⟨m,hmz⟩: ∃m,k.toNat=m:=⟨_,rfl⟩
 rw [hmz] at hRS
 have hm:m<=40:=by omega
 have hzk:k=(m:Int):=by omega
 obtain ⟨w1,w2,w3,w4⟩:=ydo hm
 rcases hH with ⟨h0,_⟩|⟨x,y,c,rfl⟩
 ·exact absurd (hk00 h0) hk
 have hDv:Fn Tryz.prog 24 [.agg [.bool false,X],plA false (pwZ m)] (.tup [plA false (divO T (pwZ m)).1,I (divO T (pwZ m)).2]):=Fn.le21 (LeA.aggL (.cons (LeA.refl _) (.cons hXL .nil))) (y4b (hTok.mono (by decide)) (w1.mono (by decide)) (by omega) (by rw [w3]))
 have hBm:=ydl (pwZ m)
 generalize (divO T (pwZ m)).1=R at*
 generalize (divO T (pwZ m)).2=er at*
 clear w1 w2 w3 w4 hTO hTok hz ha hT
 subst hzk
 rcases hX with rfl|⟨T0,rfl⟩
 all_goals
  repeat' (first|omega|(try apply yaa);simp only [go_sem,bi',bk,yac,yad]|apply yab<;>(intro h_;(try simp only [h_]);revert h_)|apply And.intro|with_reducible intro h_|trivial)
  refine ⟨yae.inline (yn5 m N hm ⟨hN1,hN2⟩ x y c _ hX' (by simp only [go_sem,pkK]) (by rfl) (by rfl) ?_)⟩
  by_cases he:er=0
  ·have be:(er !=0)=false:=by rw [bne_eq_false_iff_eq];exact he
   rw [if_pos he] at hRS
   subst hRS
   repeat' (first|omega|(first|apply yaa|refine tbN yeb ?_|refine tbT ydc ?_|skip);simp only [go_sem,be,yac,yad]|refine cgL ?_|refine cgD ?_|apply yab<;>(intro h_;(try simp only [h_]);revert h_)|apply And.intro|with_reducible intro h_|trivial)
   all_goals exact LeA.refl _
  ·have be:(er !=0)=true:=by rw [bne_iff_ne];exact he
   rw [if_neg he] at hRS
   subst hRS
   repeat' (first|omega|(first|apply yaa|refine tbN yeb ?_|refine tbT ydc ?_|skip);simp only [go_sem,be,yac,yad]|refine cgL ?_|refine cgD ?_|apply yab<;>(intro h_;(try simp only [h_]);revert h_)|apply And.intro|with_reducible intro h_|trivial)
   all_goals exact LeA.tupL (.cons (LeA.aggL (.cons (LeA.refl _) (.cons (LeA.nils (by omega) rfl) .nil))) (.cons (LeA.refl _) .nil))
end Go.Proofs.YtfgbnalnbdhimaaGreatDoor
namespace Go.Proofs.YtfgbnalnbdhimaaGreatDoor
open Go Go.RowKit
set_option maxRecDepth 100000
set_option maxHeartbeats 8000000
set_option linter.unusedVariables false
set_option linter.unusedSimpArgs false
def ycw:TbA:=[(11,[[54],[54],[52,53],[],[],[]],[[],[],[0,1],[],[],[]]),(16,[[64,65,66,67,68,69,70,71,72,73,74,75,76,77,78],[63,67,68,69,72,73,74,75,76],[63,67,68,69,72,73,74,75,76],[63,67,68,69,72,73,74,75,76],[63,64,65,66,68,69,72,73,74,75,76],[63,64,65,66,67,72,73,74,75,76],[63,64,65,66,67,72,73,74,75,76],[63,72,73,74,75,76],[63,72,73,74,75,76],[63,64,65,66,67,68,69,70,71,73,74,75,76],[63,64,65,66,67,68,69,70,71,72,75],[63,64,65,66,67,68,69,70,71,72,75],[63,64,65,66,67,68,69,70,71,72,73,74],[63,64,65,66,67,68,69,70,71,72],[63],[63],[],[]],[[],[0],[0],[0],[0,1,2,3],[0,1,2,3,4],[0,1,2,3,4],[0],[0],[0,1,2,3,4,5,6,7,8],[0,1,2,3,4,5,6,7,8,9],[0,1,2,3,4,5,6,7,8,9],[0,1,2,3,4,5,6,7,8,9,10,11],[0,1,2,3,4,5,6,7,8,9],[0],[0],[],[]])]
def ycx:TbT:=[(11, .node [(0, .node [(1,trD [2,3,4,5]),(2,trD [1,3,4,5])]),(2,trD [0,1,3,4,5])])]
def pwM (n:Nat):List (Int×Int):=[((n:Int),1)]
def dvM (T:List (Int×Int)) (n:Nat):List (Int×Int)×Int:=(lSh n T,0)
theorem y4o {p:List (Int×Int)} (hp:OkB p):
  Fn Tryz.prog 9 [bvP false p,plA false [(0,1)],plA false [(1,1)]] (.tup [plA false (setO 0 pwM dvM p).1,I (setO 0 pwM dvM p).2]):=by
 have hz: ∀t∈p,-20<=bvZ t.1/\bvZ t.1<=20:=fun t ht=>(hp.exp t ht).2
 have ha: ∀t∈p,-20<=bvA t.1/\bvA t.1<=20:=fun t ht=>(hp.exp t ht).1
 have hpl:p.length<=100000:=yag.lenB (f:=cfL p) ⟨hp.asc,fun _=>rfl⟩ hp.sup (by decide)
 have cp:=ybf p
 have hK:=ymd hz
 have hB0:=ydl [(0,1)]
 have hB1:=ydl [(1,1)]
 have hU:=yqg 0
 refine Fn.introL [.cell 6 32, .tmp 7] Tryz.func9 rfl rfl (by decide) (by simp [Tryz.ntmps9]) ?_;rw [Tryz.ntmps9]
 repeat' (first|omega|(first|apply yaa|refine tbN ycw ?_|refine tbT ycx ?_|skip);simp only [go_sem,yac,yad]|refine cgL ?_|refine cgD ?_|apply yab<;>(intro h_;(try simp only [h_]);revert h_)|apply And.intro|with_reducible intro h_|trivial)
 refine yai.intro (fun n fr H=> ∃i:Nat,i<=p.length/\n=p.length-i/\fr=[(33,I i),(32,I p.length),(31,bvT p),(8,I (kMx p i)),(6, .ptr 3 0),(5, .ptr 2 0),(4, .ptr 1 0),(3, .ptr 0 0)]/\H=[(3,lpB .nils),(2,lpB (tmA [(1,1)])),(1,lpB (tmA [(0,1)])),(0,pbO p)]) ?_ ?_
 ·refine ⟨_,_,_,Wk.sub (fr':=[(33,I ((0:Nat):Int)),(32,I p.length),(31,bvT p),(8,I 0),(6, .ptr 3 0),(5, .ptr 2 0),(4, .ptr 1 0),(3, .ptr 0 0)]) (H':=[(3,lpB .nils),(2,lpB (tmA [(1,1)])),(1,lpB (tmA [(0,1)])),(0,pbO p)]) ?_ ?_,0,by omega,rfl,rfl,rfl⟩
  ·simp only [go_sem,yac,yad]
  ·simp only [go_sem,yac,yad]
 rintro n fr H ⟨i,hi,rfl,rfl,rfl⟩
 by_cases hil:i<p.length
 ·have bi:decide ((i:Int)<p.length)=true:=by simp;omega
  obtain ⟨g0,g1,g2⟩:=yco p i hil
  have es:kMx p (i+1)=mx2 (kMx p i) (0-bvZ (p.getD i (0,0)).1):=rfl
  have hti:=ya6 hil
  have hza:=hz _ hti
  have haa:=ha _ hti
  have hki:=hK i hi
  generalize p.getD i (0,0)=t at*
  unfold mx2 at es
  generalize kMx p i=ki at*
  cases ba:decide (bvA t.1<0) with
  |true=>
   repeat' (first|omega|(first|apply yaa|refine tbN ycw ?_|refine tbT ycx ?_|skip);simp only [go_sem,bi,cp,g0,g1,g2,ba,yac,yad]|refine cgL ?_|refine cgD ?_|apply yab<;>(intro h_;(try simp only [h_]);revert h_)|apply And.intro|with_reducible intro h_|trivial)
   refine ⟨_,_,_,?_,Wk.sub ?_ ?_,i+1,by omega,rfl,rfl,rfl⟩
   ·omega
   ·simp only [go_sem,yac,yad,es]
   ·simp only [go_sem,yac,yad]
  |false=>
   repeat' (first|omega|(first|apply yaa|refine tbN ycw ?_|refine tbT ycx ?_|skip);simp only [go_sem,bi,cp,g0,g1,g2,ba,yac,yad]|refine cgL ?_|refine cgD ?_|apply yab<;>(intro h_;(try simp only [h_]);revert h_)|apply And.intro|with_reducible intro h_|trivial)
   refine ⟨_,_,_,?_,Wk.sub ?_ ?_,i+1,by omega,rfl,rfl,rfl⟩
   ·omega
   ·simp only [go_sem,yac,yad,es]
   ·simp only [go_sem,yac,yad]
 obtain rfl:i=p.length:=by omega
 have bi:decide ((p.length:Int)<p.length)=false:=by simp
 obtain ⟨k0,k1,k2⟩:=hK p.length (Nat.le_refl _)
 have eS:setO 0 pwM dvM p=match totO 0 pwM (kMx p p.length) p p.length with
  |none=>([],9)
  |some T=>if kMx p p.length=0 then (T,0) else if (dvM T (kMx p p.length).toNat).2=0 then ((dvM T (kMx p p.length).toNat).1,0) else ([],10):=rfl
 have hTO:=yjq (e:=0) (pw:=pwM) hp (by decide) ⟨k0,k1⟩ (fun n hn=>⟨OkT.one (by decide) (by decide) (by omega),by simp [pwM]⟩) k2
 obtain ⟨RS,hRS⟩: ∃r,setO 0 pwM dvM p=r:=⟨_,rfl⟩
 rw [hRS]
 rw [eS] at hRS
 clear hK hU eS
 generalize kMx p p.length=k at*
 have hPA:=yix 0
 have hPZ:=yix 1
 repeat' (first|omega|(first|apply yaa|refine tbN ycw ?_|refine tbT ycx ?_|skip);simp only [go_sem,bi,yac,yad]|refine cgL ?_|refine cgD ?_|apply yab<;>(intro h_;(try simp only [h_]);revert h_)|apply And.intro|with_reducible intro h_|trivial)
 refine yai.intro (fun n fr H=> ∃(i:Nat) (T:List (Int×Int)) (X:AV),i<=p.length/\n=p.length-i/\totO 0 pwM k p i=some T/\(X=tmA T\/X= .nils/\T=[])/\fr=[(59,I i),(58,I p.length),(57,bvT p),(13, .ptr 4 0),(12,pwV 1),(11,pwV 0),(8,I k),(6, .ptr 3 0)]/\H=[(4,lpB X),(3,lpB .nils)]) ?_ ?_
 ·refine ⟨_,_,_,Wk.sub (fr':=[(59,I ((0:Nat):Int)),(58,I p.length),(57,bvT p),(13, .ptr 4 0),(12,pwV 1),(11,pwV 0),(8,I k),(6, .ptr 3 0)]) (H':=[(4,lpB .nils),(3,lpB .nils)]) ?_ ?_,0,[], .nils,by omega,rfl,rfl, .inr ⟨rfl,rfl⟩,rfl,rfl⟩
  ·simp only [go_sem,yac,yad]
  ·simp only [go_sem,yac,yad]
 rintro n fr H ⟨i,T,X,hi',rfl,hT,hX,rfl,rfl⟩
 have hXL:LeA X (tmA T):=by
  rcases hX with rfl|⟨rfl,rfl⟩
  ·exact LeA.refl _
  ·exact LeA.nils (by omega) rfl
 have hTok:=hTO i T hi' hT
 by_cases hil':i<p.length
 ·have bi':decide ((i:Int)<p.length)=true:=by simp;omega
  obtain ⟨g0,g1,g2⟩:=yco p i hil'
  have hti:=ya6 hil'
  have hza:=hz _ hti
  have haa:=ha _ hti
  have hca:=hp.fit _ hti
  have hnc:=hp.asc.nz _ hti
  have hk0:=k2 i hil'
  have hstep:totO 0 pwM k p (i+1)=(mulO [(0*bvA (p.getD i (0,0)).1,(p.getD i (0,0)).2)] (pwM (bvZ (p.getD i (0,0)).1+k).toNat)).bind (addO T):=by simp only [totO,hT,Option.bind_some]
  generalize (p.getD i (0,0)).2=c at*
  generalize bvA (p.getD i (0,0)).1=a at*
  generalize bvZ (p.getD i (0,0)).1=z at*
  rw [Int.zero_mul,show pwM (z+k).toNat=[(z+k,1)] by unfold pwM;rw [Int.toNat_of_nonneg hk0]] at hstep
  have hTm:=ycc c 0 (by omega) (by decide)
  rw [show trm c 0=[(0,c)] from if_neg hnc] at hTm
  have p1:=yjr 0 a (by decide) (by omega)
  rw [Int.zero_mul] at p1
  have p2:=yjr 1 (z+k) (by decide) (by omega)
  rw [Int.one_mul] at p2
  have m1:=yqf 0 c 0 (by omega) hnc (by decide) (by decide)
  rw [Int.add_zero] at m1
  have o1:OkT 80 [((0:Int),c)]:=OkT.one hnc hca (by decide)
  have o2:OkT 80 [(z+k,(1:Int))]:=OkT.one (by decide) (by decide) (by omega)
  have hM2:=OkT.mul o1 o2 (by decide) (by decide) (by simp) (by simp) (by simp [yah,lowE];try omega)
  have hAd0:=ys9 (N:=160) (m:=mulO [(0,c)] [(z+k,1)]) hTok (fun q hq=>(ym1 o1 o2 (by simp) (by simp) hq)) (by decide)
  have hAd:Fn Tryz.prog 22 [.agg [.bool false,X],plO (mulO [(0,c)] [(z+k,1)])] (plO ((mulO [(0,c)] [(z+k,1)]).bind (addO T))):=Fn.le21 (LeA.aggL (.cons (LeA.refl _) (.cons hXL .nil))) hAd0
  rw [←hstep] at hAd
  have hBg:=yqh (totO 0 pwM k p (i+1))
  clear hAd0 hstep
  rw [ymf] at hM2 hAd hBg
  rw [ymf] at hAd
  generalize (mulO [(0,c)] [(z+k,1)]).isNone=d1 at*
  generalize (mulO [(0,c)] [(z+k,1)]).getD []=l1 at*
  obtain ⟨u,hu⟩: ∃u,totO 0 pwM k p (i+1)=u:=⟨_,rfl⟩
  rw [hu] at hAd hBg
  clear hXL
  cases u with
  |none=>
   have hN:totO 0 pwM k p p.length=none:=by
    have:=yiy hu (p.length-(i+1))
    rwa [show i+1+(p.length-(i+1))=p.length by omega] at this
   rw [hN] at hRS
   obtain rfl:([],9)=RS:=hRS
   simp only [Option.isNone_none,Option.getD_none] at hAd hBg
   rcases hX with rfl|⟨rfl,rfl⟩
   ·repeat' (first|omega|(first|apply yaa|refine tbN ycw ?_|refine tbT ycx ?_|skip);simp only [go_sem,bi',cp,g0,g1,g2,yac,yad]|refine cgL ?_|refine cgD ?_|apply yab<;>(intro h_;(try simp only [h_]);revert h_)|apply And.intro|with_reducible intro h_|trivial)
    all_goals exact LeA.tupL (.cons (LeA.aggL (.cons (LeA.refl _) (.cons (LeA.nils (by omega) rfl) .nil))) (.cons (LeA.refl _) .nil))
   ·repeat' (first|omega|(first|apply yaa|refine tbN ycw ?_|refine tbT ycx ?_|skip);simp only [go_sem,bi',cp,g0,g1,g2,yac,yad]|refine cgL ?_|refine cgD ?_|apply yab<;>(intro h_;(try simp only [h_]);revert h_)|apply And.intro|with_reducible intro h_|trivial)
    all_goals exact LeA.tupL (.cons (LeA.aggL (.cons (LeA.refl _) (.cons (LeA.nils (by omega) rfl) .nil))) (.cons (LeA.refl _) .nil))
  |some T'=>
   simp only [Option.isNone_some,Option.getD_some] at hAd hBg
   rcases hX with rfl|⟨rfl,rfl⟩
   ·repeat' (first|omega|(first|apply yaa|refine tbN ycw ?_|refine tbT ycx ?_|skip);simp only [go_sem,bi',cp,g0,g1,g2,yac,yad]|refine cgL ?_|refine cgD ?_|apply yab<;>(intro h_;(try simp only [h_]);revert h_)|apply And.intro|with_reducible intro h_|trivial)
    refine ⟨_,_,_,?_,Wk.sub ?_ ?_,i+1,T',tmA T',by omega,rfl,hu, .inl rfl,rfl,rfl⟩
    ·omega
    ·simp only [go_sem,yac,yad]
    ·simp only [go_sem,yac,yad]
   ·repeat' (first|omega|(first|apply yaa|refine tbN ycw ?_|refine tbT ycx ?_|skip);simp only [go_sem,bi',cp,g0,g1,g2,yac,yad]|refine cgL ?_|refine cgD ?_|apply yab<;>(intro h_;(try simp only [h_]);revert h_)|apply And.intro|with_reducible intro h_|trivial)
    refine ⟨_,_,_,?_,Wk.sub ?_ ?_,i+1,T',tmA T',by omega,rfl,hu, .inl rfl,rfl,rfl⟩
    ·omega
    ·simp only [go_sem,yac,yad]
    ·simp only [go_sem,yac,yad]
 obtain rfl:i=p.length:=by omega
 rw [hT] at hRS
 have hTl:=hTok.len (by decide)
 by_cases hk:k=0
 ·have bk:(k==0)=true:=by rw [beq_iff_eq];exact hk
  replace hRS:(if k=0 then (T,0) else if (dvM T k.toNat).2=0 then ((dvM T k.toNat).1,0) else ([],10))=RS:=hRS
  rw [if_pos hk] at hRS
  subst hRS
  clear hz ha
  rcases hX with rfl|⟨rfl,rfl⟩
  ·repeat' (first|omega|(first|apply yaa|refine tbN ycw ?_|refine tbT ycx ?_|skip);simp only [go_sem,bi,bk,yac,yad]|refine cgL ?_|refine cgD ?_|apply yab<;>(intro h_;(try simp only [h_]);revert h_)|apply And.intro|with_reducible intro h_|trivial)
   all_goals exact LeA.refl _
  ·repeat' (first|omega|(first|apply yaa|refine tbN ycw ?_|refine tbT ycx ?_|skip);simp only [go_sem,bi,bk,yac,yad]|refine cgL ?_|refine cgD ?_|apply yab<;>(intro h_;(try simp only [h_]);revert h_)|apply And.intro|with_reducible intro h_|trivial)
   all_goals exact LeA.tupL (.cons (LeA.aggL (.cons (LeA.refl _) (.cons hXL .nil))) (.cons (LeA.refl _) .nil))
 ·have bk:(k==0)=false:=by rw [beq_eq_false_iff_ne];exact hk
  replace hRS:(if k=0 then (T,0) else if (dvM T k.toNat).2=0 then ((dvM T k.toNat).1,0) else ([],10))=RS:=hRS
  rw [if_neg hk] at hRS
  replace hRS:(lSh k T,0)=RS:=by
   rw [←hRS]
   show _=if (0:Int)=0 then (lSh (k.toNat:Int) T,(0:Int)) else ([],10)
   rw [if_pos rfl,Int.toNat_of_nonneg k0]
  subst hRS
  have hDv:Fn Tryz.prog 24 [.agg [.bool false,X],plA false [(k,1)]] (.tup [plA false (lSh k T),I 0]):=Fn.le21 (LeA.aggL (.cons (LeA.refl _) (.cons hXL .nil))) (y38 T k (by omega) (by omega) fun t ht=>by have h1:=hTok.exp t ht;have h2:=hTok.fit t ht;omega)
  have p2:=yjr 1 k (by decide) (by omega)
  rw [Int.one_mul] at p2
  have hBk:=ydl [(k,1)]
  clear hz ha
  rcases hX with rfl|⟨rfl,rfl⟩
  ·repeat' (first|omega|(first|apply yaa|refine tbN ycw ?_|refine tbT ycx ?_|skip);simp only [go_sem,bi,bk,yac,yad]|refine cgL ?_|refine cgD ?_|apply yab<;>(intro h_;(try simp only [h_]);revert h_)|apply And.intro|with_reducible intro h_|trivial)
   all_goals exact LeA.refl _
  ·repeat' (first|omega|(first|apply yaa|refine tbN ycw ?_|refine tbT ycx ?_|skip);simp only [go_sem,bi,bk,yac,yad]|refine cgL ?_|refine cgD ?_|apply yab<;>(intro h_;(try simp only [h_]);revert h_)|apply And.intro|with_reducible intro h_|trivial)
   all_goals exact LeA.refl _
end Go.Proofs.YtfgbnalnbdhimaaGreatDoor
namespace Go.Proofs.YtfgbnalnbdhimaaGreatDoor
open Go Go.RowKit
set_option maxHeartbeats 8000000
set_option maxRecDepth 100000
set_option linter.unusedVariables false
set_option linter.unusedSimpArgs false
theorem FnN.ofP {P:Program} {f:Nat} {args:List AV} {n t id:Nat} {l:List AV} (h:FnO P f args (.agg [.bool false, .sl 2 id 0 n]) [(id, .cells t (.lst l))]) (hn:l.length=n*2) (hI: ∀x∈l,∃k,x=I k):FnN P f args (.agg [.bool false, .ro 2 n (.lst l)]):=by
 refine ⟨h.1,fun w Mx vs h1 h2 h3=>(h.2 w Mx vs h1 h2 h3).mono ?_⟩
 rintro e w' ⟨v,ρ',rfl,hs,hv⟩
 refine ⟨v,rfl,hs.below,?_⟩
 have hr:=hs.objs id _ (show hget [(id,AObj.cells t (.lst l))] id=some (.cells t (.lst l)) by simp [hget])
 have ho:=hs.own id _ (show hget [(id,AObj.cells t (.lst l))] id=some (.cells t (.lst l)) by simp [hget]) rfl
 have hlt:=hr.lt rfl
 obtain ⟨g1,arr,g2,g3,g4⟩:=hr
 obtain ⟨x,k1,k2⟩:=yib (My:=fun b=>b<w.heap.size) (ρ0:=ρ0) (c:= .lst l) (c':= .lst l) g1 g2 g3 rfl fun j hj=>by
  obtain ⟨u,q1,q2⟩:=g4 j hj
  refine ⟨u,q1,?_⟩
  have hjl:j<l.length:=by simpa [Cs.len] using hj
  obtain ⟨k,hk⟩:=hI l[j] (List.getElem_mem hjl)
  have e:(Cs.lst l).get j=I k:=by simp only [Cs.get,List.getD_eq_getElem?_getD,List.getElem?_eq_getElem hjl,Option.getD_some,hk]
  rw [e] at q2⊢
  cases q2
  exact .int _ _
 cases hv with
 |agg vs xs hl hx=>
  refine .agg vs _ hl fun i v' x' hi hx'=>?_
  match i,hx' with
  |0,hx'=>
   cases hx'
   have hv0:=hx 0 v' _ hi rfl
   cases hv0
   exact .bool _
  |1,hx'=>
   cases hx'
   have hv0:=hx 1 v' _ hi rfl
   cases hv0 with
   |sl _ _ _ _ cap hd hc arr' t' ad ha hb hr'=>
    refine .ro 2 n (.lst l) (some ad) cap x (by simp [Cs.len];omega) hc (by decide) (fun h0=>⟨ad,rfl,?_⟩) fun j hj=>k2 j (by simpa [Cs.len] using hj)
    have e:=ha (by omega)
    rw [show (ρ' id).add 0=ρ' id from rfl] at e
    subst e
    exact ⟨hlt,fun hb=>by omega,fun j hj=>k1 j (by simpa [Cs.len] using hj)⟩
  |i+2,hx'=>cases hx'
theorem y6k (low:Int) (cs:List Int) (hl: -1000000<=low/\low+cs.length<=1000000) (hn:cs.length<=100000) (hc: ∀c∈cs,-1125899906842624<=c/\c<=1125899906842624) (hne:tmI low cs≠[]):
  FnO Tryz.prog 18 [I low,roI cs] (.agg [.bool false, .sl 2 3 0 (tmI low cs).length]) [(3, .cells 57 (.lst (tmC (tmI low cs))))]:=by
 refine FnO.intro [.cell 4 32] Tryz.func18 rfl rfl (by decide) (by simp [Tryz.ntmps18]) ?_;rw [Tryz.ntmps18]
 repeat' (first|omega|(try apply yaa);simp only [go_sem]|apply yab<;>(intro h_;(try simp only [h_]);revert h_)|apply And.intro|with_reducible intro h_|trivial)
 refine yai.intro (fun n fr H=> ∃k:Nat,k<=cs.length/\n=cs.length-k/\fr=[(10,I k),(9,I cs.length),(8,roI cs),(5, .ptr 1 0),(4, .ptr 0 0),(0,I low)]/\
  ((tmI low (cs.take k)=[]/\H=[(1, .cells 32 (.lst [.bool false, .nils])),(0, .cells 32 (.lst [.bool false, .nils]))])\/
   H=[(3, .cells 57 (.lst (tmC (tmI low (cs.take k))))),(1, .cells 32 (.lst [.bool false, .sl 2 3 0 (tmI low (cs.take k)).length])),(0, .cells 32 (.lst [.bool false, .nils]))])) ?_ ?_
 ·refine ⟨_,_,_,?_,0,by omega,rfl,rfl, .inl ⟨by simp [tmI],rfl⟩⟩
  refine Wk.sub ?_ ?_<;>simp only [go_sem]
  all_goals simp_all
 rintro n fr H ⟨k,hk,rfl,rfl,hcs⟩
 have htl:=ymw low (cs.take k)
 rw [List.length_take] at htl
 by_cases hkl:k<cs.length
 ·have hzk:=hc (cs.getD k 0) (by simp [List.getD_eq_getElem?_getD,List.getElem?_eq_getElem hkl])
  have eT:=ykr low (cs.take k) (cs.getD k 0)
  rw [←ygr hkl,List.length_take,show min k cs.length=k by omega] at eT
  have hw1:=yc9 (cs.getD k 0) 1125899906842624 (by omega) (by omega)
  have hw2:=yc9 (low+k) 1048576 (by omega) (by omega)
  rw [ypn (by omega) (by omega)] at hw1 hw2
  have bl:decide (1048576<low)=false:=by simp;omega
  have hlen:=ya9 (tmI low (cs.take k))
  by_cases hz0:cs.getD k 0=0
  ·have bz:(cs.getD k 0==0)=true:=by simpa using hz0
   rw [if_pos hz0,List.append_nil] at eT
   rcases hcs with ⟨hn,rfl⟩|rfl
   ·repeat' (first|omega|(try apply yaa);simp only [go_sem,bz]|apply yab<;>(intro h_;(try simp only [h_]);revert h_)|apply And.intro|with_reducible intro h_|trivial)
    refine ⟨_,_,_,?_,?_,⟨k+1,by omega,rfl,rfl, .inl ⟨by rw [eT];exact hn,rfl⟩⟩⟩
    ·omega
    ·refine Wk.sub ?_ ?_<;>(simp only [go_sem,yac])
     all_goals simp_all
   ·repeat' (first|omega|(try apply yaa);simp only [go_sem,bz]|apply yab<;>(intro h_;(try simp only [h_]);revert h_)|apply And.intro|with_reducible intro h_|trivial)
    refine ⟨_,_,_,?_,?_,⟨k+1,by omega,rfl,rfl, .inr rfl⟩⟩
    ·omega
    ·rw [eT]
     refine Wk.sub ?_ ?_<;>(simp only [go_sem,yac])
     all_goals simp_all
  ·have bz:(cs.getD k 0==0)=false:=by rw [beq_eq_false_iff_ne];exact hz0
   rw [if_neg hz0] at eT
   rcases hcs with ⟨hn,rfl⟩|rfl
   ·rw [hn,List.nil_append] at eT
    repeat' (first|omega|(try apply yaa);simp only [go_sem,bz]|apply yab<;>(intro h_;(try simp only [h_]);revert h_)|apply And.intro|with_reducible intro h_|trivial)
    refine ⟨yae.fn rfl hw1 ?_⟩
    repeat' (first|omega|(try apply yaa);simp only [go_sem,bl]|apply yab<;>(intro h_;(try simp only [h_]);revert h_)|apply And.intro|with_reducible intro h_|trivial)
    refine ⟨yae.fn rfl hw2 ?_⟩
    repeat' (first|omega|(try apply yaa);simp only [go_sem]|apply yab<;>(intro h_;(try simp only [h_]);revert h_)|apply And.intro|with_reducible intro h_|trivial)
    refine ⟨_,_,_,?_,?_,⟨k+1,by omega,rfl,rfl, .inr rfl⟩⟩
    ·omega
    ·rw [eT]
     refine Wk.sub ?_ ?_<;>(simp only [go_sem,yac])
     all_goals first|rfl|simp_all
   ·repeat' (first|omega|(try apply yaa);simp only [go_sem,bz]|apply yab<;>(intro h_;(try simp only [h_]);revert h_)|apply And.intro|with_reducible intro h_|trivial)
    refine ⟨yae.fn rfl hw1 ?_⟩
    repeat' (first|omega|(try apply yaa);simp only [go_sem,bl]|apply yab<;>(intro h_;(try simp only [h_]);revert h_)|apply And.intro|with_reducible intro h_|trivial)
    refine ⟨yae.fn rfl hw2 ?_⟩
    repeat' (first|omega|(try apply yaa);simp only [go_sem,hlen]|apply yab<;>(intro h_;(try simp only [h_]);revert h_)|apply And.intro|with_reducible intro h_|trivial)
    rw [yf6]
    refine ⟨_,_,_,?_,?_,⟨k+1,by omega,rfl,rfl, .inr rfl⟩⟩
    ·omega
    ·rw [eT]
     refine Wk.sub ?_ ?_<;>(simp only [go_sem,yac,List.length_append])
     all_goals simp_all
 ·obtain rfl:k=cs.length:=by omega
  rw [List.take_of_length_le (Nat.le_refl _)] at hcs htl
  rcases hcs with ⟨hn,rfl⟩|rfl
  ·exact absurd hn hne
  ·have hlen:=ya9 (tmI low cs)
   repeat' (first|omega|(try apply yaa);simp only [go_sem,ye2]|apply yab<;>(intro h_;(try simp only [h_]);revert h_)|apply And.intro|with_reducible intro h_|trivial)
end Go.Proofs.YtfgbnalnbdhimaaGreatDoor
namespace Go.Proofs.YtfgbnalnbdhimaaGreatDoor
open Go Go.RowKit
set_option maxRecDepth 100000
set_option maxHeartbeats 8000000
set_option linter.unusedVariables false
set_option linter.unusedSimpArgs false
def sbF (a b:Int):Int:=a-b
theorem y4p (a b:Int) (h1: -1125899906842624<=a) (h2:a<=1125899906842624) (h3: -1125899906842624<=b) (h4:b<=1125899906842624):Fn Tryz.prog 27 [I a,I b] (I (sbF a b)):=by
 unfold sbF
 refine Fn.intro [.tmp 4] Tryz.func27 rfl rfl (by decide) (by simp [Tryz.ntmps27]) ?_;rw [Tryz.ntmps27]
 repeat' (first|omega|(try apply yaa);simp only [go_sem]|apply yab<;>(intro h_;(try simp only [h_]);revert h_)|apply And.intro|with_reducible intro h_|trivial)
theorem y4q (p q:List (Int×Int)) (hp:yd8 p) (hq:yd8 q) (hpl:p.length<=500000) (hql:q.length<=500000) (hok:ycj (mrg sbF p q)=true):Fn Tryz.prog 11 [plA false p,plA false q] (plA false (nz (mrg sbF p q))):=by
 have hc:=ylz p q 27 sbF hp hq hpl hql (fun a b h1 h2 h3 h4=>y4p a b h1 h2 h3 h4)
 rw [if_pos hok] at hc
 refine Fn.intro [.cell 4 32] Tryz.func11 rfl rfl (by decide) (by simp [Tryz.ntmps11]) ?_;rw [Tryz.ntmps11]
 repeat' (first|omega|(try apply yaa);simp only [go_sem]|apply yab<;>(intro h_;(try simp only [h_]);revert h_)|apply And.intro|with_reducible intro h_|trivial)
 refine ⟨yae.fn rfl hc ?_⟩
 repeat' (first|omega|(try apply yaa);simp only [go_sem]|apply yab<;>(intro h_;(try simp only [h_]);revert h_)|apply And.intro|with_reducible intro h_|trivial)
end Go.Proofs.YtfgbnalnbdhimaaGreatDoor
namespace Go.Proofs.YtfgbnalnbdhimaaGreatDoor
open Go Go.RowKit
set_option maxRecDepth 100000
set_option maxHeartbeats 8000000
set_option linter.unusedVariables false
set_option linter.unusedSimpArgs false
def y6l:TbA:=[(11,[[54],[54],[52,53],[],[],[]],[[],[],[0,1],[],[],[]]),(16,[[64,65,66,67,68,69,70,71,72,73,74,75,76,77,78],[63,67,68,69,72,73,74,75,76],[63,67,68,69,72,73,74,75,76],[63,67,68,69,72,73,74,75,76],[63,64,65,66,68,69,72,73,74,75,76],[63,64,65,66,67,72,73,74,75,76],[63,64,65,66,67,72,73,74,75,76],[63,72,73,74,75,76],[63,72,73,74,75,76],[63,64,65,66,67,68,69,70,71,73,74,75,76],[63,64,65,66,67,68,69,70,71,72,75],[63,64,65,66,67,68,69,70,71,72,75],[63,64,65,66,67,68,69,70,71,72,73,74],[63,64,65,66,67,68,69,70,71,72],[63],[63],[],[]],[[],[0],[0],[0],[0,1,2,3],[0,1,2,3,4],[0,1,2,3,4],[0],[0],[0,1,2,3,4,5,6,7,8],[0,1,2,3,4,5,6,7,8,9],[0,1,2,3,4,5,6,7,8,9],[0,1,2,3,4,5,6,7,8,9,10,11],[0,1,2,3,4,5,6,7,8,9],[0],[0],[],[]])]
def y6m:TbT:=[(11, .node [(0, .node [(1,trD [2,3,4,5]),(2,trD [1,3,4,5])]),(2,trD [0,1,3,4,5])])]
def y6n:TbA:=[(1,[[5,6],[4],[4],[],[9],[8],[],[]],[[],[0],[0],[],[],[4],[],[]])]
def y6o:TbT:=[(1, .node [(0,trP [1,2,3] (.node [(4,trD [5,6,7]),(5,trD [4,6,7])])),(1, .node [(0,trP [2,3] (.node [(4,trD [5,6,7]),(5,trD [4,6,7])])),(2,trP [0,3] (.node [(4,trD [5,6,7]),(5,trD [4,6,7])]))])])]
def yyh:TbA:=[(1,[[5,6,7],[4,6],[4,5],[4],[],[10],[9],[],[]],[[],[0],[0,1],[0],[],[],[5],[],[]])]
def yyi:TbT:=[(1, .node [(0, .node [(1,trP [2,3,4] (.node [(5,trD [6,7,8]),(6,trD [5,7,8])])),(2,trP [1,3,4] (.node [(5,trD [6,7,8]),(6,trD [5,7,8])]))]),(1, .node [(0,trP [2,3,4] (.node [(5,trD [6,7,8]),(6,trD [5,7,8])])),(2, .node [(0,trP [3,4] (.node [(5,trD [6,7,8]),(6,trD [5,7,8])])),(3,trP [0,4] (.node [(5,trD [6,7,8]),(6,trD [5,7,8])]))])]),(2, .node [(0,trP [1,3,4] (.node [(5,trD [6,7,8]),(6,trD [5,7,8])])),(1, .node [(0,trP [3,4] (.node [(5,trD [6,7,8]),(6,trD [5,7,8])])),(3,trP [0,4] (.node [(5,trD [6,7,8]),(6,trD [5,7,8])]))])])])]
theorem ytn (q r:List (Int×Int)):Fn Tryz.prog 9 [bvP true [],plA false q,plA false r] (.tup [plA false [],I 9]):=by
 refine Fn.introL [.cell 6 32, .tmp 7] Tryz.func9 rfl rfl (by decide) (by simp [Tryz.ntmps9]) ?_;rw [Tryz.ntmps9]
 repeat' (first|omega|(first|apply yaa|refine tbN y6l ?_|refine tbT y6m ?_|skip);simp only [go_sem,yac,yad]|refine cgL ?_|refine cgD ?_|apply yab<;>(intro h_;(try simp only [h_]);revert h_)|apply And.intro|with_reducible intro h_|trivial)
 all_goals exact LeA.tupL (.cons (LeA.aggL (.cons (LeA.refl _) (.cons (LeA.nils (by omega) rfl) .nil))) (.cons (LeA.refl _) .nil))
theorem yqv {e:Int} {pw:Nat->List (Int×Int)} {dv:List (Int×Int)->Nat->List (Int×Int)×Int} {p:List (Int×Int)} (hp:OkB p) (he: -4<=e/\e<=1) (hpw: ∀n,n<=40->OkT 80 (pw n)/\0<(pw n).length) (hdv: ∀T n,OkT 160 T->n<=40->(dv T n).1.length<=2001):(setO e pw dv p).1.length<=2001:=by
 obtain ⟨k0,k1,k2⟩:=ymd (fun t ht=>(hp.exp t ht).2) p.length (Nat.le_refl _)
 have hTO:=yjq (e:=e) (pw:=pw) hp he ⟨k0,k1⟩ hpw k2
 unfold setO
 split
 ·exact Nat.zero_le _
 ·rename_i T hT
  have h1:=hTO _ T (Nat.le_refl _) hT
  split
  ·exact h1.len (by decide)
  ·split
   ·exact hdv T _ h1 (by omega)
   ·exact Nat.zero_le _
theorem y1f {P:Option (List (Int×Int))} (hP: ∀p,P=some p->OkB p): ∃R er,R.length<=2001/\Fn Tryz.prog 9 [bvO P,plA false [(0,1)],plA false [(1,1)]] (.tup [plA false R,I er]):=by
 cases P with
 |none=>exact ⟨[],9,by decide,ytn _ _⟩
 |some p=>
  have h:=hP p rfl
  exact ⟨_,_,yqv h (by decide) (fun n hn=>⟨OkT.one (by decide) (by decide) (by omega),by simp [pwM]⟩) (fun T n hT hn=>by rw [dvM,ync];exact hT.len (by decide)),y4o h⟩
theorem y1g {P:Option (List (Int×Int))} (hP: ∀p,P=some p->OkB p): ∃R er,R.length<=2001/\Fn Tryz.prog 9 [bvO P,plA false [(-4,1)],plA false pwZ1] (.tup [plA false R,I er]):=by
 cases P with
 |none=>exact ⟨[],9,by decide,ytn _ _⟩
 |some p=>
  have h:=hP p rfl
  exact ⟨_,_,yqv h (by decide) (fun n hn=>⟨(ydo hn).1,by rw [(ydo hn).2.1];omega⟩) (fun T n hT hn=>by
   have h1:=ydo hn
   have:=y0m (hT.mono (by decide)) (h1.1.mono (by decide)) (by rw [h1.2.1];omega)
   omega),y4n h⟩
theorem yrs {b:Bool} {p R:List (Int×Int)} {er:Int} (hS:Fn Tryz.prog 9 [bvP b p,plA false [(0,1)],plA false [(1,1)]] (.tup [plA false R,I er])):
  Fn Tryz.prog 7 [bvP b p] (.tup [plA false R,I er]):=by
 have t1:=ycc 1 0 (by decide) (by decide)
 have t2:=ycc 1 1 (by decide) (by decide)
 rw [show trm 1 0=[(0,1)] from rfl] at t1
 rw [show trm 1 1=[(1,1)] from rfl] at t2
 refine Fn.introL [.cell 2 32, .tmp 3] Tryz.func7 rfl rfl (by decide) (by simp [Tryz.ntmps7]) ?_;rw [Tryz.ntmps7]
 repeat' (first|omega|(first|apply yaa|refine tbN y6n ?_|refine tbT y6o ?_|skip);simp only [go_sem,yac,yad]|refine cgL ?_|refine cgD ?_|apply yab<;>(intro h_;(try simp only [h_]);revert h_)|apply And.intro|with_reducible intro h_|trivial)
 all_goals exact LeA.refl _
theorem y4r:FnN Tryz.prog 18 [I (-2), .ro 1 5 (.ints [1,0,0,0,-1])] (plA false pwZ1):=by
 have h:=FnN.ofP (y6k (-2) [1,0,0,0,-1] (by decide) (by decide) (by decide) (by decide)) (by decide) (fun x hx=>yfm hx)
 exact h
theorem yu8 {b:Bool} {p R:List (Int×Int)} {er:Int} (hS:Fn Tryz.prog 9 [bvP b p,plA false [(-4,1)],plA false pwZ1] (.tup [plA false R,I er])):
  Fn Tryz.prog 8 [bvP b p] (.tup [plA false R,I er]):=by
 have t1:=ycc 1 (-4) (by decide) (by decide)
 rw [show trm 1 (-4)=[(-4,1)] from rfl] at t1
 have hO:=y4r
 refine Fn.introL [.cell 2 32, .tmp 3] Tryz.func8 rfl rfl (by decide) (by simp [Tryz.ntmps8]) ?_;rw [Tryz.ntmps8]
 repeat' (first|omega|(first|apply yaa|refine tbN yyh ?_|refine tbT yyi ?_|skip);simp only [go_sem,yac,yad]|refine cgL ?_|refine cgD ?_|apply yab<;>(intro h_;(try simp only [h_]);revert h_)|apply And.intro|with_reducible intro h_|trivial)
 refine ⟨ybd.new (h:=hO) rfl (by simp only [go_sem]) (by simp only [go_sem];try rfl) ?_⟩
 repeat' (first|omega|(first|apply yaa|refine tbN yyh ?_|refine tbT yyi ?_|skip);simp only [go_sem,yac,yad]|refine cgL ?_|refine cgD ?_|apply yab<;>(intro h_;(try simp only [h_]);revert h_)|apply And.intro|with_reducible intro h_|trivial)
 all_goals exact LeA.refl _
theorem y4s:Fn Tryz.prog 11 [plA false [(-2,1)],plA false [(2,1)]] (plA false pwZ1):=by
 have h:=y4q [(-2,1)] [(2,1)] (fun t ht=>by rw [List.mem_singleton.1 ht];decide) (fun t ht=>by rw [List.mem_singleton.1 ht];decide) (by decide) (by decide) (by decide+kernel)
 rwa [show nz (mrg sbF [(-2,1)] [(2,1)])=pwZ1 by decide+kernel] at h
end Go.Proofs.YtfgbnalnbdhimaaGreatDoor
namespace Go.Proofs.YtfgbnalnbdhimaaGreatDoor
open Go Go.RowKit
set_option maxRecDepth 100000
set_option maxHeartbeats 8000000
set_option linter.unusedVariables false
set_option linter.unusedSimpArgs false
def ymg:TbA:=[(5,[[31],[31],[29,30],[],[],[]],[[],[],[0,1],[],[],[]])]
def ye3:TbA:=[(15,[[63,64,65,66,67,68,69,70,71,72],[62,64,65,66,67,68,69,70,71,72],[62,63,65,67,68,69,70,71],[62,63,64,67,68,69,70,71],[62,63,67,68,69,70,71],[62,63,64,65,66,69,70],[62,63,64,65,66,69,70],[62,63,64,65,66,67,68],[62,63,64,65,66,67,68],[62,63,64,65,66],[62,63],[]],[[],[0],[0,1],[0,1,2],[0,1],[0,1,2,3,4],[0,1,2,3,4],[0,1,2,3,4,5,6],[0,1,2,3,4,5,6],[0,1,2,3,4],[0,1],[]])]
def ymh:TbT:=[(5, .node [(0, .node [(1,trD [2,3,4,5]),(2,trD [1,3,4,5])]),(2,trD [0,1,3,4,5])])]
theorem yto (p:List (Int×Int)): ∀(k i:Nat),i<k->(p.getD i (0,0)).2<=bvHt p k/\ -(p.getD i (0,0)).2<=bvHt p k
 |0,i,h=>by omega
 |k+1,i,h=>by
  have h1:bvHt p k<=bvHt p (k+1)/\(p.getD k (0,0)).2<=bvHt p (k+1)/\ -(p.getD k (0,0)).2<=bvHt p (k+1):=by
   simp only [bvHt,mx2]
   split<;>split<;>omega
  rcases Nat.lt_or_ge i k with hi|hi
  ·have:=yto p k i hi;omega
  ·obtain rfl:i=k:=by omega
   omega
theorem ytp {p:List (Int×Int)} {B:Int} (h0:0<=B) (h: ∀t∈p,-B<=t.2/\t.2<=B) (k:Nat):bvHt p k<=B:=by
 refine (yh1 h0 (fun i=>?_) k).2
 by_cases hi:i<p.length
 ·rw [List.getD_eq_getElem?_getD,List.getElem?_eq_getElem hi];exact h _ (List.getElem_mem _)
 ·rw [List.getD_eq_getElem?_getD,List.getElem?_eq_none (by omega)];simp only [Option.getD_none];omega
theorem y1x {x y A B:Int} (hx: -A<=x/\x<=A) (hy: -B<=y/\y<=B): -(A*B)<=x*y/\x*y<=A*B:=by
 have h1:x.natAbs<=A.toNat:=by omega
 have h2:y.natAbs<=B.toNat:=by omega
 have h3:=Nat.mul_le_mul h1 h2
 rw [←Int.natAbs_mul] at h3
 have h4:((A.toNat*B.toNat:Nat):Int)=A*B:=by
  rw [Int.natCast_mul,Int.toNat_of_nonneg (by omega),Int.toNat_of_nonneg (by omega)]
 omega
abbrev muH (m:SumM) (p q:List (Int×Int)) (t:Int×Int):Hp:=[(4, .cells 50 (.lst [I (bvA t.1),I (bvZ t.1),I t.2])),(3, .gmap suT m.length (gmL 0 m)),(2,gaB),(1, .cells 26 (.lst [.bool false,bvT q])),(0, .cells 26 (.lst [.bool false,bvT p]))]
abbrev muH0 (m:SumM) (p q:List (Int×Int)):Hp:=[(3, .gmap suT m.length (gmL 0 m)),(2,gaB),(1, .cells 26 (.lst [.bool false,bvT q])),(0, .cells 26 (.lst [.bool false,bvT p]))]
theorem y4t {p q r:List (Int×Int)} {f g:Int->Int} {N:Int} {A B:Int} (hp:yag p f) (hq:yag q g) (hp0:p≠[]) (hq0:q≠[]) (sp:SupB f N) (sq:SupB g N) (hN:N<=150)
  (hA: ∀e,-A<=f e/\f e<=A) (hB: ∀e,-B<=g e/\g e<=B) (hAB:A*B<=1125899906842624) (hA1:A<=1125899906842624) (hB1:1<=B/\B<=1125899906842624) (hr:yag r (fun e=>cvL p g e)) (br:BndB fun e=>cvL p g e) (sr:SupB (fun e=>cvL p g e) 1000000):
  Fn Tryz.prog 70 [bvP false p,bvP false q] (bvP false r):=by
 have lp:=hp.lenB sp hN
 have lq:=hq.lenB sq hN
 have cp:=ybf p
 have cq:=ybf q
 have mp: ∀t∈p,-A<=t.2/\t.2<=A:=fun t ht=>by rw [(hp.mem ht).1];exact hA _
 have mq: ∀t∈q,-B<=t.2/\t.2<=B:=fun t ht=>by rw [(hq.mem ht).1];exact hB _
 have A0:0<=A:=by have:=hA 0;omega
 have mm: ∀s∈p,∀t∈q,-1125899906842624<=s.2*t.2/\s.2*t.2<=1125899906842624:=fun s hs t ht=>by
  have:=y1x (mp s hs) (mq t ht);omega
 have p0:0<p.length:=List.length_pos_iff.2 hp0
 have q0:0<q.length:=List.length_pos_iff.2 hq0
 have bp0:((p.length:Int)==0)=false:=by rw [beq_eq_false_iff_ne];omega
 have bq0:((q.length:Int)==0)=false:=by rw [beq_eq_false_iff_ne];omega
 have gB: ∀(l:List (Int×Int)) (C:Int),C<=1125899906842624->(∀t∈l,-C<=t.2/\t.2<=C)-> ∀i,-1125899906842624<=(l.getD i (0,0)).2/\(l.getD i (0,0)).2<=1125899906842624:=fun l C hC h i=>by
  by_cases hi:i<l.length
  ·rw [List.getD_eq_getElem?_getD,List.getElem?_eq_getElem hi];have:=h _ (List.getElem_mem hi);simp only [Option.getD_some];omega
  ·rw [List.getD_eq_getElem?_getD,List.getElem?_eq_none (by omega)];simp
 have hP:=ymc p lp (gB p A hA1 mp)
 have hQ:=ymc q lq (gB q B hB1.2 mq)
 have uP:bvHt p p.length<=A:=ytp A0 mp _
 have lP:0<=bvHt p p.length:=(yh1 (B:=1125899906842624) (by decide) (gB p A hA1 mp) _).1
 have uQ:bvHt q q.length<=B:=ytp (by omega) mq _
 have lQ:1<=bvHt q q.length:=by
  have h1:=yto q q.length 0 q0
  have h2:q.getD 0 (0,0)∈q:=ya6 q0
  have h3:=hq.asc.nz _ h2
  omega
 obtain ⟨D,hD⟩: ∃D,(1125899906842624:Int).tdiv (bvHt q q.length)=D:=⟨_,rfl⟩
 have hD2:bvHt p p.length<=D/\D<=1125899906842624:=by
  rw [Int.tdiv_eq_ediv_of_nonneg (by decide)] at hD
  rw [←hD]
  refine ⟨(Int.le_ediv_iff_mul_le (by omega)).2 ?_,Int.ediv_le_self _ (by decide)⟩
  have:=y1x (x:=bvHt p p.length) (y:=bvHt q q.length) (A:=A) (B:=B) (by omega) (by omega)
  omega
 have bD:decide (D<bvHt p p.length)=false:=by rw [decide_eq_false_iff_not];omega
 have qn:(bvHt q q.length=0)=False:=eq_false (by omega)
 generalize bvHt p p.length=HP at*
 generalize bvHt q q.length=HQ at*
 refine Fn.introL [.cell 4 26] Tryz.func70 rfl rfl (by decide) (by simp [Tryz.ntmps70]) ?_;rw [Tryz.ntmps70]
 repeat' (first|omega|(first|apply yaa|refine tbN ymg ?_|refine tbL ye3 ?_|refine tbT ymh ?_|refine tbN ye3 ?_|skip);simp only [go_sem,bp0,bq0,yad,hD,bD,qn]|refine cgL ?_|refine cgD ?_|apply yab<;>(intro h_;(try simp only [h_]);revert h_)|apply And.intro|with_reducible intro h_|trivial)
 have hMo: ∀i,i<=p.length->MOk (mMul q [] (p.take i)) (i*q.length):=fun i hi=>by
  have:=MOk.nil.mul (q:=q) (p:=p.take i) fun s hs t ht=>mm s (List.mem_of_mem_take hs) t ht
  rwa [List.length_take,Nat.min_eq_left hi,Nat.zero_add] at this
 refine yai.intro (fun n fr H=> ∃i:Nat,i<=p.length/\n=p.length-i/\fr=[(40,I i),(39,I p.length),(38,bvT p),(5, .mp 3),(4, .ptr 2 0),(3, .ptr 1 0),(2, .ptr 0 0)]/\H=muH0 (mMul q [] (p.take i)) p q) ?_ ?_
 ·refine ⟨_,_,_,Wk.sub ?_ ?_,0,by omega,rfl,rfl,rfl⟩
  ·simp only [go_sem,yad]
  ·simp only [go_sem,yad,List.take_zero,mMul,gmL]
   all_goals rfl
 rintro n fr H ⟨i,hi,rfl,rfl,rfl⟩
 by_cases hil:i<p.length
 ·have bi:decide ((i:Int)<p.length)=true:=by simp;omega
  obtain ⟨g0,g1,g2⟩:=yco p i hil
  have hsm:p.getD i (0,0)∈p:=ya6 hil
  have es:p.take (i+1)=p.take i++[p.getD i (0,0)]:=by rw [List.take_succ_eq_append_getElem hil];simp [hil]
  have em:mMul q [] (p.take (i+1))=mAdd (p.getD i (0,0)).2 (p.getD i (0,0)).1 (mMul q [] (p.take i)) q:=by rw [es,ynz]
  have hM:=hMo i hi
  have hiq:i*q.length+q.length<=10000000000:=by
   have:=Nat.mul_le_mul (show i+1<=100000 by omega) lq
   rw [Nat.add_mul] at this;omega
  have hsS:=hp.memB sp hsm
  have hs2:=mm _ hsm
  have hsA:=mp _ hsm
  generalize hmi:mMul q [] (p.take i)=mi at*
  generalize p.getD i (0,0)=s at*
  repeat' (first|omega|(first|apply yaa|refine tbN ymg ?_|refine tbL ye3 ?_|refine tbT ymh ?_|refine tbN ye3 ?_|skip);simp only [go_sem,bi,cp,g0,g1,g2,yad]|refine cgL ?_|refine cgD ?_|apply yab<;>(intro h_;(try simp only [h_]);revert h_)|apply And.intro|with_reducible intro h_|trivial)
  have hMk: ∀k,k<=q.length->MOk (mAdd s.2 s.1 mi (q.take k)) (i*q.length+k):=fun k hk=>by
   have:=hM.add (c:=s.2) (d:=s.1) (p:=q.take k) fun t ht=>hs2 t (List.mem_of_mem_take ht)
   rwa [List.length_take,Nat.min_eq_left hk] at this
  refine yai.intro (fun n fr H=> ∃k:Nat,k<=q.length/\n=q.length-k/\fr=[(47,I k),(46,I q.length),(45,bvT q),(7, .ptr 4 0),(40,I i),(39,I p.length),(38,bvT p),(5, .mp 3),(4, .ptr 2 0),(3, .ptr 1 0),(2, .ptr 0 0)]/\H=muH (mAdd s.2 s.1 mi (q.take k)) p q s) ?_ ?_
  ·refine ⟨_,_,_,Wk.sub ?_ ?_,0,by omega,rfl,rfl,rfl⟩
   ·simp only [go_sem,yad]
   ·simp only [go_sem,yad,List.take_zero,mAdd,↓yca]
    all_goals exact yb6 _ (fun _ _ _ _=>rfl) _ _
  rintro n fr H ⟨k,hk,rfl,rfl,rfl⟩
  by_cases hkl:k<q.length
  ·have bk:decide ((k:Int)<q.length)=true:=by simp;omega
   obtain ⟨k0,k1,k2⟩:=yco q k hkl
   have htm:q.getD k (0,0)∈q:=ya6 hkl
   have et:q.take (k+1)=q.take k++[q.getD k (0,0)]:=by rw [List.take_succ_eq_append_getElem hkl];simp [hkl]
   have em:mAdd s.2 s.1 mi (q.take (k+1))=mPut (mAdd s.2 s.1 mi (q.take k)) (s.1+(q.getD k (0,0)).1) (s.2*(q.getD k (0,0)).2):=by rw [et,yin]
   have hMm:=hMk k hk
   have htS:=hq.memB sq htm
   have hcv:=hs2 _ htm
   have htB:=mq _ htm
   generalize hmk:mAdd s.2 s.1 mi (q.take k)=mk at*
   generalize hmk1:mAdd s.2 s.1 mi (q.take (k+1))=mk1 at*
   generalize q.getD k (0,0)=t at*
   have eA:=ysm (e:=s.1) (e':=t.1) (by unfold bvOk;omega) (by unfold bvOk;omega)
   have ek:kEnc (bvA s.1+bvA t.1) (bvZ s.1+bvZ t.1)=kE (s.1+t.1):=by rw [←eA.1,←eA.2]
   cases hf:yds mk (s.1+t.1) with
   |none=>
    obtain ⟨f1,f2,f3⟩:=yk1 (s.2*t.2) 0 hf
    have hpl:=yfe 0 0 (s.2*t.2) (by omega) (by omega) (by unfold InI;omega)
    repeat' (first|omega|(first|apply yaa|refine tbN ymg ?_|refine tbL ye3 ?_|refine tbT ymh ?_|refine tbN ye3 ?_|skip);simp only [go_sem,bk,cq,k0,k1,k2,↓yca,ek,f1,f2,f3,yad]|refine cgL ?_|refine cgD ?_|apply yab<;>(intro h_;(try simp only [h_]);revert h_)|apply And.intro|with_reducible intro h_|trivial)
    any_goals exact yb6 _ (fun _ _ _ _=>rfl) _ _
    refine ⟨_,_,_,?_,Wk.sub ?_ ?_,k+1,by omega,rfl,rfl,rfl⟩
    ·omega
    ·simp only [go_sem,yad]
    ·rw [hmk1,em]
     simp only [go_sem,yad,↓yca,f3]
     all_goals first|exact yb6 _ (fun _ _ _ _=>rfl) _ _|(rw [Nat.zero_add] at f2;exact congrArg (AObj.gmap suT _) f2)
   |some hl=>
    obtain ⟨h,l⟩:=hl
    obtain ⟨b,f1,f2,f3⟩:=yk0 (s.2*t.2) 0 hf
    have hBn:(-((i*q.length+k:Nat)*67108864:Int)<=h/\h<=(i*q.length+k:Nat)*67108864)/\0<=l/\l<=(i*q.length+k:Nat)*33554432:=hMm.bn _ (ygp hf)
    generalize i*q.length=iq at*
    have hpl:=yfe h l (s.2*t.2) (by omega) (by omega) (by unfold InI;omega)
    repeat' (first|omega|(first|apply yaa|refine tbN ymg ?_|refine tbL ye3 ?_|refine tbT ymh ?_|refine tbN ye3 ?_|skip);simp only [go_sem,bk,cq,k0,k1,k2,↓yca,ek,f1,f2,f3,yad]|refine cgL ?_|refine cgD ?_|apply yab<;>(intro h_;(try simp only [h_]);revert h_)|apply And.intro|with_reducible intro h_|trivial)
    any_goals exact yb6 _ (fun _ _ _ _=>rfl) _ _
    refine ⟨_,_,_,?_,Wk.sub ?_ ?_,k+1,by omega,rfl,rfl,rfl⟩
    ·omega
    ·simp only [go_sem,yad]
    ·rw [hmk1,em]
     simp only [go_sem,yad,↓yca,f3]
     all_goals exact yb6 _ (fun _ _ _ _=>rfl) _ _
  ·obtain rfl:k=q.length:=by omega
   have bk:decide ((q.length:Int)<q.length)=false:=by simp
   rw [List.take_length]
   rw [←em]
   repeat' (first|omega|(try apply yaa);simp only [go_sem,bk]|apply yab<;>(intro h_;(try simp only [h_]);revert h_)|apply And.intro|with_reducible intro h_|trivial)
   refine ⟨_,_,_,?_,Wk.sub ?_ ?_,i+1,by omega,rfl,rfl,rfl⟩
   ·omega
   ·simp only [go_sem,yad]
   ·simp only [go_sem,yad,↓yca]
    all_goals exact yb6 _ (fun _ _ _ _=>rfl) _ _
 ·obtain rfl:i=p.length:=by omega
  have bi:decide ((p.length:Int)<p.length)=false:=by simp
  have hM:=hMo p.length (Nat.le_refl _)
  rw [List.take_length] at hM⊢
  have hv: ∀e,mVal (mMul q [] p) e=cvL p g e:=fun e=>by
   rw [ypq,yht,Int.zero_add]
   congr 1
   funext x;exact hq.cf x
  repeat' (first|omega|(try apply yaa);simp only [go_sem,bi]|apply yab<;>(intro h_;(try simp only [h_]);revert h_)|apply And.intro|with_reducible intro h_|trivial)
  have hKl:(mMul q [] p).length<=1000000:=by
   refine yct.len (M:=2*N) (yct.mul (fun _ h=>by cases h) fun s hs t ht=>?_) hM.nd (by omega)
   have h1:=hp.memB sp hs
   have h2:=hq.memB sq ht
   have:=ysm (e:=s.1) (e':=t.1) (by unfold bvOk;omega) (by unfold bvOk;omega)
   omega
  have hpq:p.length*q.length<=10000000000:=Nat.mul_le_mul lp lq
  refine ⟨yae.inline (yj6 (mMul q [] p) (p.length*q.length) hM hpq hKl (fun e=>by rw [hv];exact br e) (fun e he=>by rw [hv] at he;have:=sr e he;omega) (fr':=[(4, .ptr 2 0)]) (Wk.sub ?_ ?_) (by simp only [go_sem,gaO]) rfl fun r' hr' hl'=>?_)⟩
  ·simp only [go_sem]
  ·simp only [go_sem,↓yca]
   all_goals exact yb6 _ (fun _ _ _ _=>rfl) _ _
  obtain rfl:r'=r:=AscN.ext hr'.asc hr.asc fun e=>by rw [hr'.cf,hr.cf,hv]
  repeat' (first|omega|(try apply yaa);simp only [go_sem]|apply yab<;>(intro h_;(try simp only [h_]);revert h_)|apply And.intro|with_reducible intro h_|trivial)
  all_goals first
   |exact yiv _ _ ‹_›
   |exact yyc r' _
   |(rw [ybf];omega)
end Go.Proofs.YtfgbnalnbdhimaaGreatDoor
