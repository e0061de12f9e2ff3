/- Layer 17: the bracket along an order is the bracket, at most 9 crossings and 20 loops. -/
import Derived.Test.YtmdjdekgakidhaaDoorZq
import Derived.Test.YtmdjdekgakidhaaDoorZp
namespace Go.Proofs.YtmdjdekgakidhaaDoor
open Go Go.RowKit
set_option maxRecDepth 100000
set_option maxHeartbeats 8000000
set_option linter.unusedVariables false
set_option linter.unusedSimpArgs false
def yau:Tr:= .node [(0, .node [(1, .node [(2, .node [(3, .node [(4, .node [(5, .node [(6, .done)])])]),(4, .node [(3, .node [(5, .node [(6, .done)])]),(5, .node [(3, .node [(6, .done)])])])]),(4, .node [(2, .node [(3, .node [(5, .node [(6, .done)])]),(5, .node [(3, .node [(6, .done)])])]),(5, .node [(2, .node [(3, .node [(6, .done)])])])])]),(2, .node [(1, .node [(3, .node [(4, .node [(5, .node [(6, .done)])])]),(4, .node [(3, .node [(5, .node [(6, .done)])]),(5, .node [(3, .node [(6, .done)])])])]),(3, .node [(1, .node [(4, .node [(5, .node [(6, .done)])])]),(4, .node [(1, .node [(5, .node [(6, .done)])])])]),(4, .node [(1, .node [(3, .node [(5, .node [(6, .done)])]),(5, .node [(3, .node [(6, .done)])])]),(3, .node [(1, .node [(5, .node [(6, .done)])])])])]),(4, .node [(1, .node [(2, .node [(3, .node [(5, .node [(6, .done)])]),(5, .node [(3, .node [(6, .done)])])]),(5, .node [(2, .node [(3, .node [(6, .done)])])])]),(2, .node [(1, .node [(3, .node [(5, .node [(6, .done)])]),(5, .node [(3, .node [(6, .done)])])]),(3, .node [(1, .node [(5, .node [(6, .done)])])])])])]),(2, .node [(0, .node [(1, .node [(3, .node [(4, .node [(5, .node [(6, .done)])])]),(4, .node [(3, .node [(5, .node [(6, .done)])]),(5, .node [(3, .node [(6, .done)])])])]),(3, .node [(1, .node [(4, .node [(5, .node [(6, .done)])])]),(4, .node [(1, .node [(5, .node [(6, .done)])])])]),(4, .node [(1, .node [(3, .node [(5, .node [(6, .done)])]),(5, .node [(3, .node [(6, .done)])])]),(3, .node [(1, .node [(5, .node [(6, .done)])])])])]),(3, .node [(0, .node [(1, .node [(4, .node [(5, .node [(6, .done)])])]),(4, .node [(1, .node [(5, .node [(6, .done)])])])]),(4, .node [(0, .node [(1, .node [(5, .node [(6, .done)])])])])]),(4, .node [(0, .node [(1, .node [(3, .node [(5, .node [(6, .done)])]),(5, .node [(3, .node [(6, .done)])])]),(3, .node [(1, .node [(5, .node [(6, .done)])])])]),(3, .node [(0, .node [(1, .node [(5, .node [(6, .done)])])])])])]),(4, .node [(0, .node [(1, .node [(2, .node [(3, .node [(5, .node [(6, .done)])]),(5, .node [(3, .node [(6, .done)])])]),(5, .node [(2, .node [(3, .node [(6, .done)])])])]),(2, .node [(1, .node [(3, .node [(5, .node [(6, .done)])]),(5, .node [(3, .node [(6, .done)])])]),(3, .node [(1, .node [(5, .node [(6, .done)])])])])]),(2, .node [(0, .node [(1, .node [(3, .node [(5, .node [(6, .done)])]),(5, .node [(3, .node [(6, .done)])])]),(3, .node [(1, .node [(5, .node [(6, .done)])])])]),(3, .node [(0, .node [(1, .node [(5, .node [(6, .done)])])])])])])]
def yah:Tr:= .node [(0, .node [(1, .node [(2, .node [(3, .node [(4, .done)])])])]),(1, .node [(0, .node [(2, .node [(3, .node [(4, .done)])])]),(2, .node [(0, .node [(3, .node [(4, .done)])])])])]
theorem y31 (p:List (Int×Int)):Fn Tryd.prog 16 [plA false p] (.bool false):=by
 refine Fn.intro [.tmp 2] Tryd.func16 rfl rfl (by decide) (by simp [Tryd.ntmps16]) ?_;rw [Tryd.ntmps16]
 repeat' (first|omega|(try apply yaa);simp only [go_sem,sevalprocAttr]|apply yae<;>(intro h_;(try simp only [h_]);revert h_)|apply yad|apply yab|apply gspI|apply And.intro|with_reducible intro h_|trivial|simp only [go_sem,la2];omega)
theorem y5r:Fn Tryd.prog 9 [I (-2), .ro 1 5 (.ints [-1,0,0,0,-1])] (plA false [(-2,-1),(2,-1)]):=by
 have h:=yok (-2) [-1,0,0,0,-1] (by decide) (by decide) (by decide)
 rw [show tmI (-2) [-1,0,0,0,-1]=[(-2,-1),(2,-1)] by decide] at h
 exact h
theorem y5s:Fn Tryd.prog 9 [I 0, .ro 1 1 (.ints [1])] (plA false [(0,1)]):=by
 have h:=yok 0 [1] (by decide) (by decide) (by decide)
 rw [show tmI 0 [1]=[(0,1)] by decide] at h
 exact h
theorem yiz:yap [(0,1)] (dpw 0):=⟨⟨by decide,by decide⟩,fun e=>by
 simp only [cfL,dpw,Int.add_zero]
 by_cases h:e=0
 ·rw [if_pos h.symm,if_pos h]
 ·rw [if_neg (fun g=>h g.symm),if_neg h]⟩
theorem yw7 {q:List (Int×Int)} {j:Nat} (hj:j<=20) (h:yap q (dpw j)): ∃r,yap r (dpw (j+1))/\Fn Tryd.prog 15 [plA false q,plA false [(-2,-1),(2,-1)]] (plA false r):=by
 have hl:=yld h
 exact y5h h (fun e he=>ydv (by omega) he) (fun e=>by have:=yfr hj e;omega) fun _=>by omega
theorem y32 {m:List Int} {n:Nat} (hp:PmOk m n) (hn:n<=9) (hn0:0<n) {L:Nat} (hL:L<=20) {q:List (Int×Int)} (hq:yap q (dpw L)):
  Fn Tryd.prog 15 [plA false (yam (brT m n 0 1)),plA false q] (plA false (brP m n L)):=by
 have hpp:yap (yam (brT m n 0 1)) (brT m n 0 1):=ye6 fun e he=>yjr hp hn (by omega) (Nat.le_refl _) he
 have hlast: ∀{r:List (Int×Int)},yap r (brT m n L 1)->r=brP m n L:=fun h=>h.eq fun e he=>yjr hp hn hL (Nat.le_refl _) he
 have hl:=yld hq
 by_cases hp0:0<(yam (brT m n 0 1)).length
 ·obtain ⟨r,h1,h2⟩:=yjq hpp hq (fun e he=>yjr hp hn (by omega) (Nat.le_refl _) he) (fun e he=>ydv (by omega) he) (fun e=>by have:=ysx hp hn (L:=0) (by omega) (Nat.le_refl _) e;omega) (fun e=>by have:=yfr hL e;omega) (h:=brT m n L 1) (fun e=>by
   rw [yjy,ys8 hp hn0 L e]
   exact ybe hpp.cf L e) (fun e=>by have:=ysx hp hn hL (Nat.le_refl _) e;omega) hp0 (by omega) (by
   have a:=ym0 hpp.asc hpp.cf (fun e he=>yh4 hp he)
   have a0:=a _ (yb0 (i:=0) hp0)
   have a1:=a _ (yb0 (i:=(yam (brT m n 0 1)).length-1) (by omega))
   have h2:=yp6 hp
   have e1:lowE (yam (brT m n 0 1))=((yam (brT m n 0 1)).getD 0 (0,0)).1:=rfl
   have e2:ya2 (yam (brT m n 0 1))=((yam (brT m n 0 1)).getD ((yam (brT m n 0 1)).length-1) (0,0)).1:=rfl
   rw [←e1] at a0
   rw [←e2] at a1
   generalize (yam (brT m n 0 1)).length=x at*
   have:4*(1:Int)*(L+1)<=4*(x:Int)*q.length:=Int.mul_le_mul (by omega) (by omega) (by omega) (by omega)
   omega)
  rw [hlast h1] at h2
  exact h2
 ·have h0:yam (brT m n 0 1)=[]:=List.length_eq_zero_iff.1 (by omega)
  have hz: ∀e,brT m n 0 1 e=0:=fun e=>by rw [←hpp.cf,h0];rfl
  have:brP m n L=[]:=(hlast (yap.nil.congr fun e=>by rw [ys8 hp hn0 L e,ybe hz L e,yh6])).symm
  rw [h0,this]
  exact ysb q
theorem yzz {L:Nat} (hL:L<=20) {q:List (Int×Int)} (hq:yap q (dpw L)):Fn Tryd.prog 15 [plA false [(0,1)],plA false q] (plA false (brP [] 0 (L+1))):=by
 have hl:=yld hq
 obtain ⟨r,h1,h2⟩:=yjq yiz hq (fun e he=>ydv (by omega) he) (fun e he=>ydv (by omega) he) (fun e=>by have:=yfr (j:=0) (by omega) e;omega) (fun e=>by have:=yfr hL e;omega) (h:=dpw L) (fun e=>by
  rw [yjy]
  have: ∀e,cfL [(0,1)] e=dpw 0 e:=yiz.cf
  rw [ybe this L e]
  exact (ybe (fun x=>rfl) L e).trans (yjn L e)) (fun e=>by have:=yfr hL e;omega) (by decide) (by omega) (by
  have e1:ya2 [((0:Int),(1:Int))]=0:=rfl
  have e2:lowE [((0:Int),(1:Int))]=0:=rfl
  rw [e1,e2,show ([((0:Int),(1:Int))]:List (Int×Int)).length=1 from rfl]
  omega)
 have:r=brP [] 0 (L+1):=by
  unfold brP
  rw [h1.eq (fun e he=>ydv (by omega) he)]
  congr 1
  funext e
  exact (yqx L e).symm
 rw [this] at h2
 exact h2
theorem yie (s m:List Int) (L:Nat) (o:List Int) (R R':List (Int×Int)) (hs:s.length<=64) (hL:L<=20) (hv:ybb s m L=true) (hpb:ydd o s.length=true) (hne: ¬(s.length=0/\L=0)) (hwd:wdN m o o.length<=20)
  (hsw:0<s.length->Fn Tryd.prog 14 [dgA s m L,roI o] (.tup [plA false R, .bool true])) (h00:s.length=0->R'=brP m s.length L)
  (hmul:0<s.length-> ∀q,yap q (dpw L)->Fn Tryd.prog 15 [plA false R,plA false q] (plA false R')):Fn Tryd.prog 5 [dgA s m L,roI o] (.tup [plA false R',I 0]):=by
 obtain ⟨hprm,hol⟩:=ygl hpb
 have hW:=yqw s m L o (by omega) (by omega)
 have hp:=(yin hv).prd
 have hpm:=pmOk hv
 unfold widA at hW
 rw [if_pos hv,if_pos hpb] at hW
 generalize wdN m o o.length=wd at*
 have bw:decide (20<wd)=false:=by rw [decide_eq_false_iff_not];omega
 have bL:decide (20<(L:Int))=false:=by rw [decide_eq_false_iff_not];omega
 have hbig:=y31 R'
 have h1:=y5s
 have hd:=y5r
 by_cases hn0:s.length=0
 ·have hR0:=h00 hn0
  subst hR0
  have b0:((s.length:Int)==0)=true:=by simpa using hn0
  have bl0:((L:Int)==0)=false:=by simp;omega
  refine Fn.introL [.cell 4 28, .tmp 5] Tryd.func5 rfl rfl (by decide) (by simp [Tryd.ntmps5]) ?_;rw [Tryd.ntmps5]
  repeat' (first|omega|(try apply yaa);simp only [go_sem,sevalprocAttr]|apply yae<;>(intro h_;(try simp only [h_]);revert h_)|apply yad|apply yab|apply gspI|apply And.intro|with_reducible intro h_|trivial|simp only [go_sem,la2];omega)
  refine ⟨yaf.fn rfl hW ?_⟩
  repeat' (first|omega|(try apply yaa);simp only [go_sem,sevalprocAttr,b0,bl0,bw,bL]|apply yae<;>(intro h_;(try simp only [h_]);revert h_)|apply yad|apply yab|apply gspI|apply And.intro|with_reducible intro h_|trivial|simp only [go_sem,la2];omega)
  refine yac.cut [(9,I L),(8, .ptr 3 0),(4, .ptr 1 0),(2, .ptr 0 0),(1,roI o)] [(3, .cells 28 (.lst [.bool false,tmA [(0,1)]])),(1, .cells 28 (.lst [.bool false, .nils])),(0, .cells 25 (.lst [roI s,roI m,I L]))] ?_ ?_
  ·repeat' (first|omega|(first|apply yaa|(refine yac.introE (id:=8) (yau) (by decide+kernel) mixed ?_)|(refine yac.intro (id:=8) [[43,44,8],[43,44,8],[41,42,8],[41,42,8],[41,42,43,44],[43,44],[]] [[],[],[0,1],[0,1],[0,1,2,3],[2,3],[]] (by decide+kernel) mixed ?_)|(refine yac.introE (id:=18) (yah) (by decide+kernel) mixed ?_)|(refine yac.intro (id:=18) [[67,68],[66],[66],[],[]] [[],[0],[0],[],[]] (by decide+kernel) mixed ?_)|(refine yac.introT (id:=18) (yah) (by decide+kernel) mixed ?_)|skip);simp only [go_sem,sevalprocAttr,b0,bl0,bw,bL,↓reduceIte,reduceCtorEq,yau,yah]|apply yae<;>(intro h_;(try simp only [h_]);revert h_)|apply yad|apply yab|apply gspI|apply And.intro|with_reducible intro h_|trivial|simp only [go_sem,la2];omega)
   all_goals first
    |(refine ⟨yaf.frz (ys:=[I 0, .ro 1 1 (.ints [1])]) [2] rfl ?_ ?_ ?_ ?_ rfl rfl rfl (yaf.fn rfl h1 ?_)⟩
      ·simp only [go_sem,sevalprocAttr,Nat.le_refl]
      ·simp only [go_sem,sevalprocAttr,Nat.le_refl]
      ·simp only [go_sem,sevalprocAttr,Nat.le_refl]
      ·simp only [go_sem,sevalprocAttr,Nat.le_refl])
    |(refine ⟨yaf.frz (ys:=[I 0, .ro 1 1 (.ints [1])]) [3] rfl ?_ ?_ ?_ ?_ rfl rfl rfl (yaf.fn rfl h1 ?_)⟩
      ·simp only [go_sem,sevalprocAttr,Nat.le_refl]
      ·simp only [go_sem,sevalprocAttr,Nat.le_refl]
      ·simp only [go_sem,sevalprocAttr,Nat.le_refl]
      ·simp only [go_sem,sevalprocAttr,Nat.le_refl])
   all_goals (repeat' (first|omega|(first|apply yaa|(refine yac.introE (id:=8) (yau) (by decide+kernel) mixed ?_)|(refine yac.intro (id:=8) [[43,44,8],[43,44,8],[41,42,8],[41,42,8],[41,42,43,44],[43,44],[]] [[],[],[0,1],[0,1],[0,1,2,3],[2,3],[]] (by decide+kernel) mixed ?_)|(refine yac.introE (id:=18) (yah) (by decide+kernel) mixed ?_)|(refine yac.intro (id:=18) [[67,68],[66],[66],[],[]] [[],[0],[0],[],[]] (by decide+kernel) mixed ?_)|(refine yac.introT (id:=18) (yah) (by decide+kernel) mixed ?_)|skip);simp only [go_sem,sevalprocAttr,b0,bl0,bw,bL,↓reduceIte,reduceCtorEq,yau,yah]|apply yae<;>(intro h_;(try simp only [h_]);revert h_)|apply yad|apply yab|apply gspI|apply And.intro|with_reducible intro h_|trivial|simp only [go_sem,la2];omega))
   all_goals first
    |(refine Wk.sub ?_ ?_
      ·simp only [go_sem,sevalprocAttr]
      ·simp only [go_sem,sevalprocAttr,ya0])
    |(refine Wk.subS (fr1:=[(9,I L),(8, .ptr 2 0),(4, .ptr 1 0),(2, .ptr 0 0),(1,roI o)]) (H1:=[(2, .cells 28 (.lst [.bool false,tmA [(0,1)]])),(1, .cells 28 (.lst [.bool false, .nils])),(0, .cells 25 (.lst [roI s,roI m,I L]))]) 2 3 rfl rfl rfl rfl ?_ ?_
      ·simp only [go_sem,sevalprocAttr]
      ·simp only [go_sem,sevalprocAttr,ya0])
  obtain rfl:s=[]:=List.length_eq_zero_iff.1 hn0
  obtain rfl:m=[]:=List.length_eq_zero_iff.1 (by have:=hp.ok.1;simpa using this)
  obtain ⟨C,rfl⟩: ∃C,L=C+1:=⟨L-1,by simp at hne;omega⟩
  have hC:(C:Int)+1-1=(C:Nat):=by omega
  repeat' (first|omega|(try apply yaa);simp only [go_sem,sevalprocAttr,b0,hC]|apply yae<;>(intro h_;(try simp only [h_]);revert h_)|apply yad|apply yab|apply gspI|apply And.intro|with_reducible intro h_|trivial|simp only [go_sem,la2];omega)
  refine ⟨yaf.frz [4] rfl (by simp only [go_sem,sevalprocAttr,Nat.le_refl]) (by simp only [go_sem,sevalprocAttr,Nat.le_refl]) (by simp only [go_sem,sevalprocAttr,Nat.le_refl]) (by simp only [go_sem,sevalprocAttr,Nat.le_refl]) rfl rfl rfl (yaf.fn rfl h1 ?_)⟩
  repeat' (first|omega|(try apply yaa);simp only [go_sem,sevalprocAttr,b0,hC]|apply yae<;>(intro h_;(try simp only [h_]);revert h_)|apply yad|apply yab|apply gspI|apply And.intro|with_reducible intro h_|trivial|simp only [go_sem,la2];omega)
  refine yak.intro (fun n' fr H=> ∃(j:Nat) (q:List (Int×Int)),j<=C/\yap q (dpw j)/\n'=C-j/\fr=[(64,I j),(63,I (C:Nat)),(12, .ptr 5 0),(8, .ptr 3 0),(4, .ptr 1 0)]/\
   H=[(5, .cells 28 (.lst [.bool false,tmA q])),(3, .cells 28 (.lst [.bool false,tmA [(0,1)]])),(1, .cells 28 (.lst [.bool false, .nils]))]) ?_ ?_
  ·refine ⟨_,_,_,Wk.sub ?_ ?_,0,[(0,1)],by omega,yiz,rfl,rfl,rfl⟩
   ·(simp only [go_sem,sevalprocAttr,hC])<;>rfl
   ·(simp only [go_sem,sevalprocAttr,ya0])<;>rfl
  rintro n' fr H ⟨j,q,hj,hq,rfl,rfl,rfl⟩
  by_cases hjc:j<C
  ·have bj:decide ((j:Int)<(C:Nat))=true:=by simp;omega
   obtain ⟨r,hr,hm⟩:=yw7 (by omega) hq
   repeat' (first|omega|(first|apply yaa|(refine yac.introE (id:=8) (yau) (by decide+kernel) mixed ?_)|(refine yac.intro (id:=8) [[43,44,8],[43,44,8],[41,42,8],[41,42,8],[41,42,43,44],[43,44],[]] [[],[],[0,1],[0,1],[0,1,2,3],[2,3],[]] (by decide+kernel) mixed ?_)|(refine yac.introE (id:=18) (yah) (by decide+kernel) mixed ?_)|(refine yac.intro (id:=18) [[67,68],[66],[66],[],[]] [[],[0],[0],[],[]] (by decide+kernel) mixed ?_)|(refine yac.introT (id:=18) (yah) (by decide+kernel) mixed ?_)|skip);simp only [go_sem,sevalprocAttr,bj,↓reduceIte,reduceCtorEq,yau,yah]|apply yae<;>(intro h_;(try simp only [h_]);revert h_)|apply yad|apply yab|apply gspI|apply And.intro|with_reducible intro h_|trivial|simp only [go_sem,la2];omega)
   all_goals refine ⟨yaf.frz [6] rfl (by simp only [go_sem,sevalprocAttr,Nat.le_refl,ybz,ybn]) (by simp only [go_sem,sevalprocAttr,Nat.le_refl,ybz,ybn]) (by simp only [go_sem,sevalprocAttr,Nat.le_refl,ybz,ybn]) (by simp only [go_sem,sevalprocAttr,Nat.le_refl,ybz,ybn]) rfl rfl rfl (yaf.fn rfl hd ?_)⟩
   all_goals (repeat' (first|omega|(first|apply yaa|(refine yac.introE (id:=8) (yau) (by decide+kernel) mixed ?_)|(refine yac.intro (id:=8) [[43,44,8],[43,44,8],[41,42,8],[41,42,8],[41,42,43,44],[43,44],[]] [[],[],[0,1],[0,1],[0,1,2,3],[2,3],[]] (by decide+kernel) mixed ?_)|(refine yac.introE (id:=18) (yah) (by decide+kernel) mixed ?_)|(refine yac.intro (id:=18) [[67,68],[66],[66],[],[]] [[],[0],[0],[],[]] (by decide+kernel) mixed ?_)|(refine yac.introT (id:=18) (yah) (by decide+kernel) mixed ?_)|skip);simp only [go_sem,sevalprocAttr,bj,↓reduceIte,reduceCtorEq,yau,yah]|apply yae<;>(intro h_;(try simp only [h_]);revert h_)|apply yad|apply yab|apply gspI|apply And.intro|with_reducible intro h_|trivial|simp only [go_sem,la2];omega))
   all_goals refine ⟨yaf.fn rfl hm ?_⟩
   all_goals (repeat' (first|omega|(first|apply yaa|(refine yac.introE (id:=8) (yau) (by decide+kernel) mixed ?_)|(refine yac.intro (id:=8) [[43,44,8],[43,44,8],[41,42,8],[41,42,8],[41,42,43,44],[43,44],[]] [[],[],[0,1],[0,1],[0,1,2,3],[2,3],[]] (by decide+kernel) mixed ?_)|(refine yac.introE (id:=18) (yah) (by decide+kernel) mixed ?_)|(refine yac.intro (id:=18) [[67,68],[66],[66],[],[]] [[],[0],[0],[],[]] (by decide+kernel) mixed ?_)|(refine yac.introT (id:=18) (yah) (by decide+kernel) mixed ?_)|skip);simp only [go_sem,sevalprocAttr,bj,↓reduceIte,reduceCtorEq,yau,yah]|apply yae<;>(intro h_;(try simp only [h_]);revert h_)|apply yad|apply yab|apply gspI|apply And.intro|with_reducible intro h_|trivial|simp only [go_sem,la2];omega))
   all_goals (
    refine ⟨_,_,_,?_,Wk.sub ?_ ?_,j+1,r,by omega,hr,rfl,rfl,rfl⟩
    ·omega
    ·simp only [go_sem,sevalprocAttr]
    ·(simp only [go_sem,sevalprocAttr,ya0])<;>rfl)
  ·obtain rfl:C=j:=by omega
   have bj:decide (((C:Nat):Int)<(C:Nat))=false:=by simp
   have hl:=yzz (by omega) hq
   repeat' (first|omega|(first|apply yaa|(refine yac.introE (id:=8) (yau) (by decide+kernel) mixed ?_)|(refine yac.intro (id:=8) [[43,44,8],[43,44,8],[41,42,8],[41,42,8],[41,42,43,44],[43,44],[]] [[],[],[0,1],[0,1],[0,1,2,3],[2,3],[]] (by decide+kernel) mixed ?_)|(refine yac.introE (id:=18) (yah) (by decide+kernel) mixed ?_)|(refine yac.intro (id:=18) [[67,68],[66],[66],[],[]] [[],[0],[0],[],[]] (by decide+kernel) mixed ?_)|(refine yac.introT (id:=18) (yah) (by decide+kernel) mixed ?_)|skip);simp only [go_sem,sevalprocAttr,bj,↓reduceIte,reduceCtorEq,yau,yah]|apply yae<;>(intro h_;(try simp only [h_]);revert h_)|apply yad|apply yab|apply gspI|apply And.intro|with_reducible intro h_|trivial|simp only [go_sem,la2];omega)
   all_goals refine ⟨yaf.fn rfl hl ?_⟩
   all_goals (repeat' (first|omega|(first|apply yaa|(refine yac.introE (id:=8) (yau) (by decide+kernel) mixed ?_)|(refine yac.intro (id:=8) [[43,44,8],[43,44,8],[41,42,8],[41,42,8],[41,42,43,44],[43,44],[]] [[],[],[0,1],[0,1],[0,1,2,3],[2,3],[]] (by decide+kernel) mixed ?_)|(refine yac.introE (id:=18) (yah) (by decide+kernel) mixed ?_)|(refine yac.intro (id:=18) [[67,68],[66],[66],[],[]] [[],[0],[0],[],[]] (by decide+kernel) mixed ?_)|(refine yac.introT (id:=18) (yah) (by decide+kernel) mixed ?_)|skip);simp only [go_sem,sevalprocAttr,bj,↓reduceIte,reduceCtorEq,yau,yah]|apply yae<;>(intro h_;(try simp only [h_]);revert h_)|apply yad|apply yab|apply gspI|apply And.intro|with_reducible intro h_|trivial|simp only [go_sem,la2];omega))
   all_goals refine ⟨yaf.fn rfl hbig ?_⟩
   all_goals (repeat' (first|omega|(first|apply yaa|(refine yac.introE (id:=8) (yau) (by decide+kernel) mixed ?_)|(refine yac.intro (id:=8) [[43,44,8],[43,44,8],[41,42,8],[41,42,8],[41,42,43,44],[43,44],[]] [[],[],[0,1],[0,1],[0,1,2,3],[2,3],[]] (by decide+kernel) mixed ?_)|(refine yac.introE (id:=18) (yah) (by decide+kernel) mixed ?_)|(refine yac.intro (id:=18) [[67,68],[66],[66],[],[]] [[],[0],[0],[],[]] (by decide+kernel) mixed ?_)|(refine yac.introT (id:=18) (yah) (by decide+kernel) mixed ?_)|skip);simp only [go_sem,sevalprocAttr,bj,↓reduceIte,reduceCtorEq,yau,yah]|apply yae<;>(intro h_;(try simp only [h_]);revert h_)|apply yad|apply yab|apply gspI|apply And.intro|with_reducible intro h_|trivial|simp only [go_sem,la2];omega))
   all_goals exact LeA.refl _
 ·have b0:((s.length:Int)==0)=false:=by simpa using hn0
  have bl0:True:=trivial
  refine Fn.introL [.cell 4 28, .tmp 5] Tryd.func5 rfl rfl (by decide) (by simp [Tryd.ntmps5]) ?_;rw [Tryd.ntmps5]
  repeat' (first|omega|(try apply yaa);simp only [go_sem,sevalprocAttr]|apply yae<;>(intro h_;(try simp only [h_]);revert h_)|apply yad|apply yab|apply gspI|apply And.intro|with_reducible intro h_|trivial|simp only [go_sem,la2];omega)
  refine ⟨yaf.fn rfl hW ?_⟩
  repeat' (first|omega|(try apply yaa);simp only [go_sem,sevalprocAttr,b0,bl0,bw,bL]|apply yae<;>(intro h_;(try simp only [h_]);revert h_)|apply yad|apply yab|apply gspI|apply And.intro|with_reducible intro h_|trivial|simp only [go_sem,la2];omega)
  refine yac.cut [(9,I L),(8, .ptr 3 0),(4, .ptr 1 0),(2, .ptr 0 0),(1,roI o)] [(3, .cells 28 (.lst [.bool false,tmA [(0,1)]])),(1, .cells 28 (.lst [.bool false, .nils])),(0, .cells 25 (.lst [roI s,roI m,I L]))] ?_ ?_
  ·repeat' (first|omega|(first|apply yaa|(refine yac.introE (id:=8) (yau) (by decide+kernel) mixed ?_)|(refine yac.intro (id:=8) [[43,44,8],[43,44,8],[41,42,8],[41,42,8],[41,42,43,44],[43,44],[]] [[],[],[0,1],[0,1],[0,1,2,3],[2,3],[]] (by decide+kernel) mixed ?_)|(refine yac.introE (id:=18) (yah) (by decide+kernel) mixed ?_)|(refine yac.intro (id:=18) [[67,68],[66],[66],[],[]] [[],[0],[0],[],[]] (by decide+kernel) mixed ?_)|(refine yac.introT (id:=18) (yah) (by decide+kernel) mixed ?_)|skip);simp only [go_sem,sevalprocAttr,b0,bl0,bw,bL,↓reduceIte,reduceCtorEq,yau,yah]|apply yae<;>(intro h_;(try simp only [h_]);revert h_)|apply yad|apply yab|apply gspI|apply And.intro|with_reducible intro h_|trivial|simp only [go_sem,la2];omega)
   all_goals first
    |(refine ⟨yaf.frz (ys:=[I 0, .ro 1 1 (.ints [1])]) [2] rfl ?_ ?_ ?_ ?_ rfl rfl rfl (yaf.fn rfl h1 ?_)⟩
      ·simp only [go_sem,sevalprocAttr,Nat.le_refl]
      ·simp only [go_sem,sevalprocAttr,Nat.le_refl]
      ·simp only [go_sem,sevalprocAttr,Nat.le_refl]
      ·simp only [go_sem,sevalprocAttr,Nat.le_refl])
    |(refine ⟨yaf.frz (ys:=[I 0, .ro 1 1 (.ints [1])]) [3] rfl ?_ ?_ ?_ ?_ rfl rfl rfl (yaf.fn rfl h1 ?_)⟩
      ·simp only [go_sem,sevalprocAttr,Nat.le_refl]
      ·simp only [go_sem,sevalprocAttr,Nat.le_refl]
      ·simp only [go_sem,sevalprocAttr,Nat.le_refl]
      ·simp only [go_sem,sevalprocAttr,Nat.le_refl])
   all_goals (repeat' (first|omega|(first|apply yaa|(refine yac.introE (id:=8) (yau) (by decide+kernel) mixed ?_)|(refine yac.intro (id:=8) [[43,44,8],[43,44,8],[41,42,8],[41,42,8],[41,42,43,44],[43,44],[]] [[],[],[0,1],[0,1],[0,1,2,3],[2,3],[]] (by decide+kernel) mixed ?_)|(refine yac.introE (id:=18) (yah) (by decide+kernel) mixed ?_)|(refine yac.intro (id:=18) [[67,68],[66],[66],[],[]] [[],[0],[0],[],[]] (by decide+kernel) mixed ?_)|(refine yac.introT (id:=18) (yah) (by decide+kernel) mixed ?_)|skip);simp only [go_sem,sevalprocAttr,b0,bl0,bw,bL,↓reduceIte,reduceCtorEq,yau,yah]|apply yae<;>(intro h_;(try simp only [h_]);revert h_)|apply yad|apply yab|apply gspI|apply And.intro|with_reducible intro h_|trivial|simp only [go_sem,la2];omega))
   all_goals first
    |(refine Wk.sub ?_ ?_
      ·simp only [go_sem,sevalprocAttr]
      ·simp only [go_sem,sevalprocAttr,ya0])
    |(refine Wk.subS (fr1:=[(9,I L),(8, .ptr 2 0),(4, .ptr 1 0),(2, .ptr 0 0),(1,roI o)]) (H1:=[(2, .cells 28 (.lst [.bool false,tmA [(0,1)]])),(1, .cells 28 (.lst [.bool false, .nils])),(0, .cells 25 (.lst [roI s,roI m,I L]))]) 2 3 rfl rfl rfl rfl ?_ ?_
      ·simp only [go_sem,sevalprocAttr]
      ·simp only [go_sem,sevalprocAttr,ya0])
  have hsw:=hsw (by omega)
  repeat' (first|omega|(try apply yaa);simp only [go_sem,sevalprocAttr,b0]|apply yae<;>(intro h_;(try simp only [h_]);revert h_)|apply yad|apply yab|apply gspI|apply And.intro|with_reducible intro h_|trivial|simp only [go_sem,la2];omega)
  refine ⟨yaf.fn rfl hsw ?_⟩
  repeat' (first|omega|(try apply yaa);simp only [go_sem,sevalprocAttr,b0]|apply yae<;>(intro h_;(try simp only [h_]);revert h_)|apply yad|apply yab|apply gspI|apply And.intro|with_reducible intro h_|trivial|simp only [go_sem,la2];omega)
  refine ⟨yaf.frz [5] rfl (by simp only [go_sem,sevalprocAttr,Nat.le_refl,ybz,ybn]) (by simp only [go_sem,sevalprocAttr,Nat.le_refl,ybz,ybn]) (by simp only [go_sem,sevalprocAttr,Nat.le_refl,ybz,ybn]) (by simp only [go_sem,sevalprocAttr,Nat.le_refl,ybz,ybn]) rfl rfl rfl (yaf.fn rfl h1 ?_)⟩
  repeat' (first|omega|(try apply yaa);simp only [go_sem,sevalprocAttr,b0]|apply yae<;>(intro h_;(try simp only [h_]);revert h_)|apply yad|apply yab|apply gspI|apply And.intro|with_reducible intro h_|trivial|simp only [go_sem,la2];omega)
  refine yak.intro (fun n' fr H=> ∃(j:Nat) (q:List (Int×Int)),j<=L/\yap q (dpw j)/\n'=L-j/\fr=[(64,I j),(63,I (L:Nat)),(12, .ptr 6 0),(8, .ptr 3 0),(4, .ptr 1 0)]/\
   H=[(6, .cells 28 (.lst [.bool false,tmA q])),(3, .cells 28 (.lst [.bool false,tmA R])),(1, .cells 28 (.lst [.bool false, .nils]))]) ?_ ?_
  ·refine ⟨_,_,_,Wk.sub ?_ ?_,0,[(0,1)],by omega,yiz,rfl,rfl,rfl⟩
   ·(simp only [go_sem,sevalprocAttr,hol])<;>rfl
   ·(simp only [go_sem,sevalprocAttr,ya0])<;>rfl
  rintro n' fr H ⟨j,q,hj,hq,rfl,rfl,rfl⟩
  by_cases hjc:j<L
  ·have bj:decide ((j:Int)<(L:Nat))=true:=by simp;omega
   obtain ⟨r,hr,hm⟩:=yw7 (by omega) hq
   repeat' (first|omega|(first|apply yaa|(refine yac.introE (id:=8) (yau) (by decide+kernel) mixed ?_)|(refine yac.intro (id:=8) [[43,44,8],[43,44,8],[41,42,8],[41,42,8],[41,42,43,44],[43,44],[]] [[],[],[0,1],[0,1],[0,1,2,3],[2,3],[]] (by decide+kernel) mixed ?_)|(refine yac.introE (id:=18) (yah) (by decide+kernel) mixed ?_)|(refine yac.intro (id:=18) [[67,68],[66],[66],[],[]] [[],[0],[0],[],[]] (by decide+kernel) mixed ?_)|(refine yac.introT (id:=18) (yah) (by decide+kernel) mixed ?_)|skip);simp only [go_sem,sevalprocAttr,bj,↓reduceIte,reduceCtorEq,yau,yah]|apply yae<;>(intro h_;(try simp only [h_]);revert h_)|apply yad|apply yab|apply gspI|apply And.intro|with_reducible intro h_|trivial|simp only [go_sem,la2];omega)
   all_goals refine ⟨yaf.frz [7] rfl (by simp only [go_sem,sevalprocAttr,Nat.le_refl,ybz,ybn]) (by simp only [go_sem,sevalprocAttr,Nat.le_refl,ybz,ybn]) (by simp only [go_sem,sevalprocAttr,Nat.le_refl,ybz,ybn]) (by simp only [go_sem,sevalprocAttr,Nat.le_refl,ybz,ybn]) rfl rfl rfl (yaf.fn rfl hd ?_)⟩
   all_goals (repeat' (first|omega|(first|apply yaa|(refine yac.introE (id:=8) (yau) (by decide+kernel) mixed ?_)|(refine yac.intro (id:=8) [[43,44,8],[43,44,8],[41,42,8],[41,42,8],[41,42,43,44],[43,44],[]] [[],[],[0,1],[0,1],[0,1,2,3],[2,3],[]] (by decide+kernel) mixed ?_)|(refine yac.introE (id:=18) (yah) (by decide+kernel) mixed ?_)|(refine yac.intro (id:=18) [[67,68],[66],[66],[],[]] [[],[0],[0],[],[]] (by decide+kernel) mixed ?_)|(refine yac.introT (id:=18) (yah) (by decide+kernel) mixed ?_)|skip);simp only [go_sem,sevalprocAttr,bj,↓reduceIte,reduceCtorEq,yau,yah]|apply yae<;>(intro h_;(try simp only [h_]);revert h_)|apply yad|apply yab|apply gspI|apply And.intro|with_reducible intro h_|trivial|simp only [go_sem,la2];omega))
   all_goals refine ⟨yaf.fn rfl hm ?_⟩
   all_goals (repeat' (first|omega|(first|apply yaa|(refine yac.introE (id:=8) (yau) (by decide+kernel) mixed ?_)|(refine yac.intro (id:=8) [[43,44,8],[43,44,8],[41,42,8],[41,42,8],[41,42,43,44],[43,44],[]] [[],[],[0,1],[0,1],[0,1,2,3],[2,3],[]] (by decide+kernel) mixed ?_)|(refine yac.introE (id:=18) (yah) (by decide+kernel) mixed ?_)|(refine yac.intro (id:=18) [[67,68],[66],[66],[],[]] [[],[0],[0],[],[]] (by decide+kernel) mixed ?_)|(refine yac.introT (id:=18) (yah) (by decide+kernel) mixed ?_)|skip);simp only [go_sem,sevalprocAttr,bj,↓reduceIte,reduceCtorEq,yau,yah]|apply yae<;>(intro h_;(try simp only [h_]);revert h_)|apply yad|apply yab|apply gspI|apply And.intro|with_reducible intro h_|trivial|simp only [go_sem,la2];omega))
   all_goals (
    refine ⟨_,_,_,?_,Wk.sub ?_ ?_,j+1,r,by omega,hr,rfl,rfl,rfl⟩
    ·omega
    ·simp only [go_sem,sevalprocAttr]
    ·(simp only [go_sem,sevalprocAttr,ya0])<;>rfl)
  ·obtain rfl:L=j:=by omega
   have bj:decide (((L:Nat):Int)<(L:Nat))=false:=by simp
   have hl:=hmul (by omega) q hq
   repeat' (first|omega|(first|apply yaa|(refine yac.introE (id:=8) (yau) (by decide+kernel) mixed ?_)|(refine yac.intro (id:=8) [[43,44,8],[43,44,8],[41,42,8],[41,42,8],[41,42,43,44],[43,44],[]] [[],[],[0,1],[0,1],[0,1,2,3],[2,3],[]] (by decide+kernel) mixed ?_)|(refine yac.introE (id:=18) (yah) (by decide+kernel) mixed ?_)|(refine yac.intro (id:=18) [[67,68],[66],[66],[],[]] [[],[0],[0],[],[]] (by decide+kernel) mixed ?_)|(refine yac.introT (id:=18) (yah) (by decide+kernel) mixed ?_)|skip);simp only [go_sem,sevalprocAttr,bj,↓reduceIte,reduceCtorEq,yau,yah]|apply yae<;>(intro h_;(try simp only [h_]);revert h_)|apply yad|apply yab|apply gspI|apply And.intro|with_reducible intro h_|trivial|simp only [go_sem,la2];omega)
   all_goals refine ⟨yaf.fn rfl hl ?_⟩
   all_goals (repeat' (first|omega|(first|apply yaa|(refine yac.introE (id:=8) (yau) (by decide+kernel) mixed ?_)|(refine yac.intro (id:=8) [[43,44,8],[43,44,8],[41,42,8],[41,42,8],[41,42,43,44],[43,44],[]] [[],[],[0,1],[0,1],[0,1,2,3],[2,3],[]] (by decide+kernel) mixed ?_)|(refine yac.introE (id:=18) (yah) (by decide+kernel) mixed ?_)|(refine yac.intro (id:=18) [[67,68],[66],[66],[],[]] [[],[0],[0],[],[]] (by decide+kernel) mixed ?_)|(refine yac.introT (id:=18) (yah) (by decide+kernel) mixed ?_)|skip);simp only [go_sem,sevalprocAttr,bj,↓reduceIte,reduceCtorEq,yau,yah]|apply yae<;>(intro h_;(try simp only [h_]);revert h_)|apply yad|apply yab|apply gspI|apply And.intro|with_reducible intro h_|trivial|simp only [go_sem,la2];omega))
   all_goals refine ⟨yaf.fn rfl hbig ?_⟩
   all_goals (repeat' (first|omega|(first|apply yaa|(refine yac.introE (id:=8) (yau) (by decide+kernel) mixed ?_)|(refine yac.intro (id:=8) [[43,44,8],[43,44,8],[41,42,8],[41,42,8],[41,42,43,44],[43,44],[]] [[],[],[0,1],[0,1],[0,1,2,3],[2,3],[]] (by decide+kernel) mixed ?_)|(refine yac.introE (id:=18) (yah) (by decide+kernel) mixed ?_)|(refine yac.intro (id:=18) [[67,68],[66],[66],[],[]] [[],[0],[0],[],[]] (by decide+kernel) mixed ?_)|(refine yac.introT (id:=18) (yah) (by decide+kernel) mixed ?_)|skip);simp only [go_sem,sevalprocAttr,bj,↓reduceIte,reduceCtorEq,yau,yah]|apply yae<;>(intro h_;(try simp only [h_]);revert h_)|apply yad|apply yab|apply gspI|apply And.intro|with_reducible intro h_|trivial|simp only [go_sem,la2];omega))
   all_goals exact LeA.refl _
theorem yoh (s m:List Int) (L:Nat) (o:List Int) (hs:s.length<=14) (hL:L<=20) (hv:ybb s m L=true) (hpb:ydd o s.length=true) (hne: ¬(s.length=0/\L=0)) (hwd:wdN m o o.length<=20)
  (hmul:0<s.length-> ∀q,yap q (dpw L)->Fn Tryd.prog 15 [plA false (yam (brT m s.length 0 1)),plA false q] (plA false (brP m s.length L))):Fn Tryd.prog 5 [dgA s m L,roI o] (.tup [plA false (brP m s.length L),I 0]):=by
 obtain ⟨hprm,hol⟩:=ygl hpb
 have hpm:=pmOk hv
 refine yie s m L o (yam (brT m s.length 0 1)) _ (by omega) hL hv hpb hne hwd (fun h0=>?_) (fun _=>rfl) hmul
 have hcast:(o.map Int.toNat).map (Nat.cast:Nat->Int)=o:=by
  rw [List.map_map]
  conv=>rhs;rw [←List.map_id o]
  exact List.map_congr_left fun x hx=>by
   have:=hprm.rg x hx
   simp only [Function.comp,id];omega
 have hnd:(o.map Int.toNat).Nodup:=by
  rw [List.nodup_iff_pairwise_ne,List.pairwise_map]
  refine List.Pairwise.imp_of_mem (fun {a b} ha hb hne e=>hne ?_) (List.nodup_iff_pairwise_ne.1 hprm.nd)
  have h1:=hprm.rg a ha
  have h2:=hprm.rg b hb
  omega
 have hsw:=yzy s m L hpm hnd (by rw [List.length_map,hol]) (fun c hc=>by
  obtain ⟨x,hx,rfl⟩:=List.mem_map.1 hc
  have:=hprm.rg x hx
  omega) (by omega) (by omega)
 rw [hcast] at hsw
 exact hsw
theorem yi0 (s m:List Int) (L:Nat) (o:List Int) (hs:s.length<=9) (hL:L<=20) (hv:ybb s m L=true) (hpb:ydd o s.length=true) (hne: ¬(s.length=0/\L=0)):Fn Tryd.prog 5 [dgA s m L,roI o] (.tup [plA false (brP m s.length L),I 0]):=by
 obtain ⟨hprm,hol⟩:=ygl hpb
 have hp:=(yin hv).prd
 have hwd:=y63 hp.ok hp.inv hprm hol o.length (by omega)
 exact yoh s m L o (by omega) hL hv hpb hne (by omega) fun h0 q hq=>y32 (pmOk hv) hs h0 hL hq
end Go.Proofs.YtmdjdekgakidhaaDoor
