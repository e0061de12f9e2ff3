/- Layer 13: Set with 1 for a and the variable for z. -/
import Derived.Test.YtbblgobamoabkaaGreatDoorSe0
import Derived.Test.YtbblgobamoabkaaGreatDoorZj
import Derived.Test.YtbblgobamoabkaaGreatDoorZi
import Derived.Test.YtbblgobamoabkaaGreatDoorHv3
namespace Go.Proofs.YtbblgobamoabkaaGreatDoor
open Go Go.RowKit
set_option maxRecDepth 100000
set_option maxHeartbeats 8000000
set_option linter.unusedVariables false
set_option linter.unusedSimpArgs false
def yzf:Tr:=trP [0,1,2,3] (.node [(4, .node [(5,trD [6,7,8,9]),(6,trD [5,7,8,9])]),(6,trD [4,5,7,8,9])])
def ybr:Tr:= .node [(0, .node [(1,trD [2,3,4,5]),(2,trD [1,3,4,5])]),(2,trD [0,1,3,4,5])]
def ybs:List (List Nat):=[[64,65,66,67,68,69,70,71,72,73,74,75,76,77,78],[63,67,68,69,72,73,74,75,76],[63,67,68,69,72,73,74,75,76],[63,67,68,69,72,73,74,75,76],[63,64,65,66,68,69,72,73,74,75,76],[63,64,65,66,67,72,73,74,75,76],[63,64,65,66,67,72,73,74,75,76],[63,72,73,74,75,76],[63,72,73,74,75,76],[63,64,65,66,67,68,69,70,71,73,74,75,76],[63,64,65,66,67,68,69,70,71,72,75],[63,64,65,66,67,68,69,70,71,72,75],[63,64,65,66,67,68,69,70,71,72,73,74],[63,64,65,66,67,68,69,70,71,72],[63],[63],[],[]]
def ybt:List (List Nat):=[[],[0],[0],[0],[0,1,2,3],[0,1,2,3,4],[0,1,2,3,4],[0],[0],[0,1,2,3,4,5,6,7,8],[0,1,2,3,4,5,6,7,8,9],[0,1,2,3,4,5,6,7,8,9],[0,1,2,3,4,5,6,7,8,9,10,11],[0,1,2,3,4,5,6,7,8,9],[0],[0],[],[]]
def kMx (p:List (Int×Int)):Nat->Int
 |0=>0
 |k+1=>mx2 (kMx p k) (0-bvZ (p.getD k (0,0)).1)
theorem yt0 {p:List (Int×Int)} (h: ∀t∈p,-100<=bvZ t.1/\bvZ t.1<=100): ∀k,k<=p.length->0<=kMx p k/\kMx p k<=100/\ ∀j,j<k->0<=bvZ (p.getD j (0,0)).1+kMx p k
 |0,_=>⟨by simp [kMx],by simp [kMx],fun j hj=>by omega⟩
 |k+1,hk=>by
  obtain ⟨h1,h2,h3⟩:=yt0 h k (by omega)
  have ht:=h (p.getD k (0,0)) (yce (by omega))
  have hm:kMx p k<=kMx p (k+1)/\0-bvZ (p.getD k (0,0)).1<=kMx p (k+1)/\kMx p (k+1)<=100:=by
   simp only [kMx,mx2]
   split<;>omega
  refine ⟨by omega,by omega,fun j hj=>?_⟩
  by_cases e:j=k
  ·subst e;omega
  ·have:=h3 j (by omega);omega
def sZ (k:Int) (p:List (Int×Int)):List (Int×Int):=p.map fun t=>(bvZ t.1+k,t.2)
theorem y53 (k:Int) (p:List (Int×Int)) (t:Int×Int):sZ k (p++[t])=sZ k p++[(bvZ t.1+k,t.2)]:=by simp [sZ]
theorem y21 (k:Int): ∀(p:List (Int×Int)) (e:Int),cfL (sZ k p) (e+k)=cfL (sZ 0 p) e
 |[],_=>rfl
 |t::p,e=>by
  have ih:=y21 k p e
  simp only [sZ,List.map_cons,cfL] at ih⊢
  rw [ih]
  by_cases h:bvZ t.1+0=e
  ·rw [if_pos h,if_pos (by omega)]
  ·rw [if_neg h,if_neg (by omega)]
theorem yvm (k:Int): ∀p:List (Int×Int),nL (sZ k p)=nL p
 |[]=>rfl
 |t::p=>by
  have:=yvm k p
  simp only [sZ,List.map_cons,nL] at this⊢
  rw [this]
abbrev zbO (e:Int):AObj:= .cells 47 (.lst [.bool false,tmA [(e,1)]])
abbrev lpO (x:AV):AObj:= .cells 47 (.lst [.bool false,x])
abbrev pbO (p:List (Int×Int)):AObj:= .cells 29 (.lst [.bool false,bvT p])
theorem Fn.le21 {P:Program} {f:Nat} {x y z r:AV} (h:LeA x y) (hf:Fn P f [y,z] r):Fn P f [x,z] r:=by
 obtain ⟨h1,h2⟩:=hf
 refine ⟨h1,fun w Mx vs hMx hl hv=>h2 w Mx vs hMx hl fun i v u g1 g2=>?_⟩
 match i,g2 with
 |0,g2=>cases g2;exact h.out _ _ _ _ _ (hv 0 v x g1 rfl)
 |1,g2=>cases g2;exact hv 1 v _ g1 rfl
abbrev pwV (e:Int):AV:= .fn 87 [.rp (.lst [.bool false,tmA [(e,1)]]) 0]
theorem yoh (e:Int):Fn Tryz.prog 55 [plA false [(e,1)]] (pwV e):=by
 have hZ:=y5w [(e,1)]
 have hL:=yni [(e,1)] (by simp)
 have hH:=yq1 [(e,1)] (by simp) (by simp)
 rw [show ((([(e,(1:Int))].length:Nat):Int)==0)=false from rfl] at hZ
 rw [show ([(e,(1:Int))].getD 0 (0,0)).1=e from rfl] at hL
 rw [show ([(e,(1:Int))].getD ([(e,(1:Int))].length-1) (0,0)).1=e from rfl] at hH
 refine Fn.intro [.tmp 2] Tryz.func55 rfl rfl (by decide) (by simp [Tryz.ntmps55]) ?_;rw [Tryz.ntmps55]
 repeat' (first|omega|(first|apply yaa|(refine yac.intro (id:=1) [[],[],[],[],[10],[10],[8,9],[],[],[]] [[],[],[],[],[],[],[4,5],[],[],[]] (by decide+kernel) mixed ?_)|(refine yac.introT (id:=1) (yzf) (by decide+kernel) mixed ?_)|skip);simp only [go_sem,sevalprocAttr,yam,yld,↓reduceIte,reduceCtorEq,yzf]|(refine ⟨yad.fn (r:=?_) rfl ?_ ?_⟩;rotate_left;assumption)|(refine ⟨yag.fn (r:=?_) rfl ?_ ?_⟩;rotate_left;assumption)|apply yab<;>(intro h_;(try simp only [h_]);revert h_)|apply And.intro|with_reducible intro h_|trivial|simp only [go_sem,la2];omega)
theorem y54 {p R:List (Int×Int)} (hp:p.length<=100000) (hz: ∀t∈p,-100<=bvZ t.1/\bvZ t.1<=100) (ha: ∀t∈p,-100<=bvA t.1/\bvA t.1<=100) (hA:nL p<=20000000000000) (hnz: ∀t∈p,t.2≠0) (hR:yai R (cfL (sZ 0 p))):
  Fn Tryz.prog 19 [bvP false p,plA false [(0,1)],plA false [(1,1)]] (.tup [plA false R,I 0]):=by
 have cp:=ybl p
 have hK:=yt0 hz
 have one: ∀(x y:Int),y≠0->yai [(x,y)] (cfL [(x,y)]):=fun x y hy=>⟨⟨by simp,fun t ht=>by simp only [List.mem_singleton] at ht;subst ht;exact hy⟩,fun _=>rfl⟩
 have hB0:=yj4 [(0,1)]
 have hB1:=yj4 [(1,1)]
 have hU:=y2f 0
 refine Fn.introL [.cell 6 47, .tmp 7] Tryz.func19 rfl rfl (by decide) (by simp [Tryz.ntmps19]) ?_;rw [Tryz.ntmps19]
 repeat' (first|omega|(first|apply yaa|(refine yac.intro (id:=11) [[54],[54],[52,53],[],[],[]] [[],[],[0,1],[],[],[]] (by decide+kernel) mixed ?_)|(refine yac.introT (id:=11) (ybr) (by decide+kernel) mixed ?_)|(refine yac.intro (id:=16) ybs ybt (by decide+kernel) mixed ?_)|skip);simp only [go_sem,sevalprocAttr,yam,yak,↓reduceIte,reduceCtorEq,ybr,ybs,ybt]|(refine ⟨yad.fn (r:=?_) rfl ?_ ?_⟩;rotate_left;assumption)|(refine ⟨yag.fn (r:=?_) rfl ?_ ?_⟩;rotate_left;assumption)|apply yab<;>(intro h_;(try simp only [h_]);revert h_)|apply And.intro|with_reducible intro h_|trivial|simp only [go_sem,la2];omega)
 refine yal.intro (fun n fr H=> ∃i:Nat,i<=p.length/\n=p.length-i/\fr=[(33,I i),(32,I p.length),(31,bvT p),(8,I (kMx p i)),(6, .ptr 3 0),(5, .ptr 2 0),(4, .ptr 1 0),(3, .ptr 0 0)]/\H=[(3,lpO .nils),(2,zbO 1),(1,zbO 0),(0,pbO p)]) ?_ ?_
 ·refine ⟨_,_,_,Wk.sub (fr':=[(33,I ((0:Nat):Int)),(32,I p.length),(31,bvT p),(8,I 0),(6, .ptr 3 0),(5, .ptr 2 0),(4, .ptr 1 0),(3, .ptr 0 0)]) (H':=[(3,lpO .nils),(2,zbO 1),(1,zbO 0),(0,pbO p)]) ?_ ?_,0,by omega,rfl,rfl,rfl⟩
  ·simp only [go_sem,sevalprocAttr,yam,yak]
  ·simp only [go_sem,sevalprocAttr,yam,yak]
 rintro n fr H ⟨i,hi,rfl,rfl,rfl⟩
 by_cases hil:i<p.length
 ·have bi:decide ((i:Int)<p.length)=true:=by simp;omega
  obtain ⟨g0,g1,g2⟩:=ydv p i hil
  have es:kMx p (i+1)=mx2 (kMx p i) (0-bvZ (p.getD i (0,0)).1):=rfl
  have hti:=yce hil
  have hza:=hz _ hti
  have haa:=ha _ hti
  have hki:=hK i hi
  generalize p.getD i (0,0)=t at*
  unfold mx2 at es
  generalize kMx p i=ki at*
  cases ba:decide (bvA t.1<0) with
  |true=>
   repeat' (first|omega|(first|apply yaa|(refine yac.intro (id:=11) [[54],[54],[52,53],[],[],[]] [[],[],[0,1],[],[],[]] (by decide+kernel) mixed ?_)|(refine yac.introT (id:=11) (ybr) (by decide+kernel) mixed ?_)|(refine yac.intro (id:=16) ybs ybt (by decide+kernel) mixed ?_)|skip);simp only [go_sem,sevalprocAttr,bi,cp,g0,g1,g2,ba,yam,yak,↓reduceIte,reduceCtorEq,ybr,ybs,ybt]|(refine ⟨yad.fn (r:=?_) rfl ?_ ?_⟩;rotate_left;assumption)|(refine ⟨yag.fn (r:=?_) rfl ?_ ?_⟩;rotate_left;assumption)|apply yab<;>(intro h_;(try simp only [h_]);revert h_)|apply And.intro|with_reducible intro h_|trivial|simp only [go_sem,la2];omega)
   refine ⟨_,_,_,?_,Wk.sub ?_ ?_,i+1,by omega,rfl,rfl,rfl⟩
   ·omega
   ·simp only [go_sem,sevalprocAttr,yam,yak,es]
   ·simp only [go_sem,sevalprocAttr,yam,yak]
  |false=>
   repeat' (first|omega|(first|apply yaa|(refine yac.intro (id:=11) [[54],[54],[52,53],[],[],[]] [[],[],[0,1],[],[],[]] (by decide+kernel) mixed ?_)|(refine yac.introT (id:=11) (ybr) (by decide+kernel) mixed ?_)|(refine yac.intro (id:=16) ybs ybt (by decide+kernel) mixed ?_)|skip);simp only [go_sem,sevalprocAttr,bi,cp,g0,g1,g2,ba,yam,yak,↓reduceIte,reduceCtorEq,ybr,ybs,ybt]|(refine ⟨yad.fn (r:=?_) rfl ?_ ?_⟩;rotate_left;assumption)|(refine ⟨yag.fn (r:=?_) rfl ?_ ?_⟩;rotate_left;assumption)|apply yab<;>(intro h_;(try simp only [h_]);revert h_)|apply And.intro|with_reducible intro h_|trivial|simp only [go_sem,la2];omega)
   refine ⟨_,_,_,?_,Wk.sub ?_ ?_,i+1,by omega,rfl,rfl,rfl⟩
   ·omega
   ·simp only [go_sem,sevalprocAttr,yam,yak,es]
   ·simp only [go_sem,sevalprocAttr,yam,yak]
 ·obtain rfl:i=p.length:=by omega
  have bi:decide ((p.length:Int)<p.length)=false:=by simp
  obtain ⟨k0,k1,k2⟩:=hK p.length (Nat.le_refl _)
  clear hK hU
  generalize kMx p p.length=k at*
  have hPA:=yoh 0
  have hPZ:=yoh 1
  have hTl: ∀q:List (Int×Int),yai q (cfL (sZ k p))-> ∀t∈q,(-1000<=t.1/\t.1<=1000)/\ -1125899906842624<=t.2/\t.2<=1125899906842624:=fun q hq t ht=>by
   obtain ⟨h1,h2⟩:=hq.mem ht
   have h3: ∃u∈sZ k p,u.1=t.1:=Classical.byContradiction fun hn=>h2 (ybj fun u hu he=>hn ⟨u,hu,he⟩)
   obtain ⟨u,hu,hut⟩:=h3
   obtain ⟨v,hv,rfl⟩:=List.mem_map.1 hu
   have hzv:=hz v hv
   have hb:=yvk t.1 (sZ k p)
   rw [yvm] at hb
   dsimp only at hut
   omega
  repeat' (first|omega|(first|apply yaa|(refine yac.intro (id:=11) [[54],[54],[52,53],[],[],[]] [[],[],[0,1],[],[],[]] (by decide+kernel) mixed ?_)|(refine yac.introT (id:=11) (ybr) (by decide+kernel) mixed ?_)|(refine yac.intro (id:=16) ybs ybt (by decide+kernel) mixed ?_)|skip);simp only [go_sem,sevalprocAttr,bi,yam,yak,↓reduceIte,reduceCtorEq,ybr,ybs,ybt]|(refine ⟨yad.fn (r:=?_) rfl ?_ ?_⟩;rotate_left;assumption)|(refine ⟨yag.fn (r:=?_) rfl ?_ ?_⟩;rotate_left;assumption)|apply yab<;>(intro h_;(try simp only [h_]);revert h_)|apply And.intro|with_reducible intro h_|trivial|simp only [go_sem,la2];omega)
  refine yal.intro (fun n fr H=> ∃(i:Nat) (T:List (Int×Int)) (X:AV),i<=p.length/\n=p.length-i/\yai T (cfL (sZ k (p.take i)))/\(X=tmA T\/X= .nils/\T=[])/\fr=[(59,I i),(58,I p.length),(57,bvT p),(13, .ptr 4 0),(12,pwV 1),(11,pwV 0),(8,I k),(6, .ptr 3 0)]/\H=[(4,lpO X),(3,lpO .nils)]) ?_ ?_
  ·refine ⟨_,_,_,Wk.sub (fr':=[(59,I ((0:Nat):Int)),(58,I p.length),(57,bvT p),(13, .ptr 4 0),(12,pwV 1),(11,pwV 0),(8,I k),(6, .ptr 3 0)]) (H':=[(4,lpO .nils),(3,lpO .nils)]) ?_ ?_,0,[], .nils,by omega,rfl,yai.nil, .inr ⟨rfl,rfl⟩,rfl,rfl⟩
   ·simp only [go_sem,sevalprocAttr,yam,yak]
   ·simp only [go_sem,sevalprocAttr,yam,yak]
  rintro n fr H ⟨i,T,X,hi',rfl,hT,hX,rfl,rfl⟩
  have hXL:LeA X (tmA T):=by
   rcases hX with rfl|⟨rfl,rfl⟩
   ·exact LeA.refl _
   ·exact LeA.nils (by omega) rfl
  by_cases hil':i<p.length
  ·have bi':decide ((i:Int)<p.length)=true:=by simp;omega
   obtain ⟨g0,g1,g2⟩:=ydv p i hil'
   have hti:=yce hil'
   have hza:=hz _ hti
   have haa:=ha _ hti
   have hca:=yzb hti
   have hnc:=hnz _ hti
   have hk0:=k2 i hil'
   have et:p.take (i+1)=p.take i++[p.getD i (0,0)]:=by rw [List.take_succ_eq_append_getElem hil'];simp [hil']
   have hS: ∀e,cfL (sZ k (p.take (i+1))) e=cfL (sZ k (p.take i)) e+cfL [(bvZ (p.getD i (0,0)).1+k,(p.getD i (0,0)).2)] e:=fun e=>by rw [et,y53,ydu]
   have hsup: ∀e,cfL (sZ k (p.take i)) e≠0-> -1000<=e/\e<=1000:=fun e he=>by
    have h3: ∃u∈sZ k (p.take i),u.1=e:=Classical.byContradiction fun hn=>he (ybj fun u hu he=>hn ⟨u,hu,he⟩)
    obtain ⟨u,hu,hut⟩:=h3
    obtain ⟨v,hv,rfl⟩:=List.mem_map.1 hu
    have hzv:=hz v (List.mem_of_mem_take hv)
    dsimp only at hut
    omega
   have hbd: ∀e,-562949953421312<=cfL (sZ k (p.take i)) e/\cfL (sZ k (p.take i)) e<=562949953421312:=fun e=>by
    have hb:=yvk e (sZ k (p.take i))
    rw [yvm] at hb
    have hl:=y51 i p
    omega
   generalize p.getD i (0,0)=t at*
   obtain ⟨T',h1,h2⟩:=y7e hT (one (bvZ t.1+k) t.2 hnc) hsup (fun e he=>by
    simp only [cfL,Int.add_zero] at he
    by_cases h:bvZ t.1+k=e
    ·omega
    ·rw [if_neg h] at he;exact absurd rfl he) hbd (fun e=>by simp only [cfL,Int.add_zero];split<;>omega)
   have hT':yai T' (cfL (sZ k (p.take (i+1)))):=h1.congr fun e=>(hS e).symm
   have hAdd:Fn Tryz.prog 56 [.agg [.bool false,X],plA false [(bvZ t.1+k,t.2)]] (plA false T'):=Fn.le21 (LeA.aggL (.cons (LeA.refl _) (.cons hXL .nil))) h2
   have hTm:=yjz t.2 0 (by omega) (by decide)
   rw [show trm t.2 0=[(0,t.2)] from if_neg hnc] at hTm
   have p1:=ynj 0 (bvA t.1) (by decide) (by omega)
   rw [Int.zero_mul] at p1
   have p2:=ynj 1 (bvZ t.1+k) (by decide) (by omega)
   rw [Int.one_mul] at p2
   have m1:=yq4 0 t.2 0 (by omega) hnc (by decide) (by decide)
   rw [Int.add_zero] at m1
   have m2:=yq4 0 t.2 (bvZ t.1+k) (by omega) hnc (by decide) (by omega)
   rw [Int.zero_add] at m2
   have hBg:=yj4 T'
   clear hsup hbd hS hT hXL h1 h2 hTl hz ha hA hnz
   rcases hX with rfl|⟨rfl,rfl⟩
   ·repeat' (first|omega|(first|apply yaa|(refine yac.intro (id:=11) [[54],[54],[52,53],[],[],[]] [[],[],[0,1],[],[],[]] (by decide+kernel) mixed ?_)|(refine yac.introT (id:=11) (ybr) (by decide+kernel) mixed ?_)|(refine yac.intro (id:=16) ybs ybt (by decide+kernel) mixed ?_)|skip);simp only [go_sem,sevalprocAttr,bi',cp,g0,g1,g2,yam,yak,↓reduceIte,reduceCtorEq,ybr,ybs,ybt]|(refine ⟨yad.fn (r:=?_) rfl ?_ ?_⟩;rotate_left;assumption)|(refine ⟨yag.fn (r:=?_) rfl ?_ ?_⟩;rotate_left;assumption)|apply yab<;>(intro h_;(try simp only [h_]);revert h_)|apply And.intro|with_reducible intro h_|trivial|simp only [go_sem,la2];omega)
    refine ⟨_,_,_,?_,Wk.sub ?_ ?_,i+1,T',tmA T',by omega,rfl,hT', .inl rfl,rfl,rfl⟩
    ·omega
    ·simp only [go_sem,sevalprocAttr,yam,yak]
    ·simp only [go_sem,sevalprocAttr,yam,yak]
   ·repeat' (first|omega|(first|apply yaa|(refine yac.intro (id:=11) [[54],[54],[52,53],[],[],[]] [[],[],[0,1],[],[],[]] (by decide+kernel) mixed ?_)|(refine yac.introT (id:=11) (ybr) (by decide+kernel) mixed ?_)|(refine yac.intro (id:=16) ybs ybt (by decide+kernel) mixed ?_)|skip);simp only [go_sem,sevalprocAttr,bi',cp,g0,g1,g2,yam,yak,↓reduceIte,reduceCtorEq,ybr,ybs,ybt]|(refine ⟨yad.fn (r:=?_) rfl ?_ ?_⟩;rotate_left;assumption)|(refine ⟨yag.fn (r:=?_) rfl ?_ ?_⟩;rotate_left;assumption)|apply yab<;>(intro h_;(try simp only [h_]);revert h_)|apply And.intro|with_reducible intro h_|trivial|simp only [go_sem,la2];omega)
    refine ⟨_,_,_,?_,Wk.sub ?_ ?_,i+1,T',tmA T',by omega,rfl,hT', .inl rfl,rfl,rfl⟩
    ·omega
    ·simp only [go_sem,sevalprocAttr,yam,yak]
    ·simp only [go_sem,sevalprocAttr,yam,yak]
  ·obtain rfl:i=p.length:=by omega
   rw [List.take_length] at hT
   have hTm:=hTl T hT
   have hTn:T.length<=1000000:=by
    have:=hT.asc.len (a:= -1000) (b:=1000) fun t ht=>(hTm t ht).1
    omega
   by_cases hk:k=0
   ·have bk:(k==0)=true:=by rw [beq_iff_eq];exact hk
    obtain rfl:T=R:=AscN.ext hT.asc hR.asc fun e=>by rw [hT.cf,hR.cf,hk]
    clear hTl hz ha hA hnz
    rcases hX with rfl|⟨rfl,rfl⟩
    ·repeat' (first|omega|(first|apply yaa|(refine yac.intro (id:=11) [[54],[54],[52,53],[],[],[]] [[],[],[0,1],[],[],[]] (by decide+kernel) mixed ?_)|(refine yac.introT (id:=11) (ybr) (by decide+kernel) mixed ?_)|(refine yac.intro (id:=16) ybs ybt (by decide+kernel) mixed ?_)|skip);simp only [go_sem,sevalprocAttr,bi,bk,yam,yak,↓reduceIte,reduceCtorEq,ybr,ybs,ybt]|(refine ⟨yad.fn (r:=?_) rfl ?_ ?_⟩;rotate_left;assumption)|(refine ⟨yag.fn (r:=?_) rfl ?_ ?_⟩;rotate_left;assumption)|apply yab<;>(intro h_;(try simp only [h_]);revert h_)|apply And.intro|with_reducible intro h_|trivial|simp only [go_sem,la2];omega)
     all_goals exact LeA.refl _
    ·repeat' (first|omega|(first|apply yaa|(refine yac.intro (id:=11) [[54],[54],[52,53],[],[],[]] [[],[],[0,1],[],[],[]] (by decide+kernel) mixed ?_)|(refine yac.introT (id:=11) (ybr) (by decide+kernel) mixed ?_)|(refine yac.intro (id:=16) ybs ybt (by decide+kernel) mixed ?_)|skip);simp only [go_sem,sevalprocAttr,bi,bk,yam,yak,↓reduceIte,reduceCtorEq,ybr,ybs,ybt]|(refine ⟨yad.fn (r:=?_) rfl ?_ ?_⟩;rotate_left;assumption)|(refine ⟨yag.fn (r:=?_) rfl ?_ ?_⟩;rotate_left;assumption)|apply yab<;>(intro h_;(try simp only [h_]);revert h_)|apply And.intro|with_reducible intro h_|trivial|simp only [go_sem,la2];omega)
     all_goals exact LeA.tupL (.cons (LeA.aggL (.cons (LeA.refl _) (.cons hXL .nil))) (.cons (LeA.refl _) .nil))
   ·have bk:(k==0)=false:=by rw [beq_eq_false_iff_ne];exact hk
    obtain rfl:lSh k T=R:=AscN.ext (y5z hT.asc) hR.asc fun e=>by rw [yy8,hT.cf,hR.cf,y21]
    have hDv:Fn Tryz.prog 58 [.agg [.bool false,X],plA false [(k,1)]] (.tup [plA false (lSh k T),I 0]):=Fn.le21 (LeA.aggL (.cons (LeA.refl _) (.cons hXL .nil))) (y50 T k hTn (by omega) hTm)
    have p2:=ynj 1 k (by decide) (by omega)
    rw [Int.one_mul] at p2
    have hBk:=yj4 [(k,1)]
    clear hTl hz ha hA hnz
    rcases hX with rfl|⟨rfl,rfl⟩
    ·repeat' (first|omega|(first|apply yaa|(refine yac.intro (id:=11) [[54],[54],[52,53],[],[],[]] [[],[],[0,1],[],[],[]] (by decide+kernel) mixed ?_)|(refine yac.introT (id:=11) (ybr) (by decide+kernel) mixed ?_)|(refine yac.intro (id:=16) ybs ybt (by decide+kernel) mixed ?_)|skip);simp only [go_sem,sevalprocAttr,bi,bk,yam,yak,↓reduceIte,reduceCtorEq,ybr,ybs,ybt]|(refine ⟨yad.fn (r:=?_) rfl ?_ ?_⟩;rotate_left;assumption)|(refine ⟨yag.fn (r:=?_) rfl ?_ ?_⟩;rotate_left;assumption)|apply yab<;>(intro h_;(try simp only [h_]);revert h_)|apply And.intro|with_reducible intro h_|trivial|simp only [go_sem,la2];omega)
     all_goals exact LeA.refl _
    ·repeat' (first|omega|(first|apply yaa|(refine yac.intro (id:=11) [[54],[54],[52,53],[],[],[]] [[],[],[0,1],[],[],[]] (by decide+kernel) mixed ?_)|(refine yac.introT (id:=11) (ybr) (by decide+kernel) mixed ?_)|(refine yac.intro (id:=16) ybs ybt (by decide+kernel) mixed ?_)|skip);simp only [go_sem,sevalprocAttr,bi,bk,yam,yak,↓reduceIte,reduceCtorEq,ybr,ybs,ybt]|(refine ⟨yad.fn (r:=?_) rfl ?_ ?_⟩;rotate_left;assumption)|(refine ⟨yag.fn (r:=?_) rfl ?_ ?_⟩;rotate_left;assumption)|apply yab<;>(intro h_;(try simp only [h_]);revert h_)|apply And.intro|with_reducible intro h_|trivial|simp only [go_sem,la2];omega)
     all_goals exact LeA.refl _
end Go.Proofs.YtbblgobamoabkaaGreatDoor
