/- Layer 17: the bracket along an order is the bracket, at most 9 crossings and 20 loops. -/
import Derived.Test.YtmdjdekgakidhaaGreatDoorZp
import Derived.Test.YtmdjdekgakidhaaGreatDoorTo2
import Derived.Test.YtmdjdekgakidhaaGreatDoorZq
namespace Go.Proofs.YtmdjdekgakidhaaGreatDoor
open Go Go.RowKit
set_option maxRecDepth 100000
set_option maxHeartbeats 8000000
set_option linter.unusedVariables false
set_option linter.unusedSimpArgs false
def ya3:Tr:= .node [(0, .node [(1, .node [(2, .node [(3, .node [(4, .node [(5, .node [(6, .done)])])]),(4, .node [(3, .node [(5, .node [(6, .done)])]),(5, .node [(3, .node [(6, .done)])])])]),(4, .node [(2, .node [(3, .node [(5, .node [(6, .done)])]),(5, .node [(3, .node [(6, .done)])])]),(5, .node [(2, .node [(3, .node [(6, .done)])])])])]),(2, .node [(1, .node [(3, .node [(4, .node [(5, .node [(6, .done)])])]),(4, .node [(3, .node [(5, .node [(6, .done)])]),(5, .node [(3, .node [(6, .done)])])])]),(3, .node [(1, .node [(4, .node [(5, .node [(6, .done)])])]),(4, .node [(1, .node [(5, .node [(6, .done)])])])]),(4, .node [(1, .node [(3, .node [(5, .node [(6, .done)])]),(5, .node [(3, .node [(6, .done)])])]),(3, .node [(1, .node [(5, .node [(6, .done)])])])])]),(4, .node [(1, .node [(2, .node [(3, .node [(5, .node [(6, .done)])]),(5, .node [(3, .node [(6, .done)])])]),(5, .node [(2, .node [(3, .node [(6, .done)])])])]),(2, .node [(1, .node [(3, .node [(5, .node [(6, .done)])]),(5, .node [(3, .node [(6, .done)])])]),(3, .node [(1, .node [(5, .node [(6, .done)])])])])])]),(2, .node [(0, .node [(1, .node [(3, .node [(4, .node [(5, .node [(6, .done)])])]),(4, .node [(3, .node [(5, .node [(6, .done)])]),(5, .node [(3, .node [(6, .done)])])])]),(3, .node [(1, .node [(4, .node [(5, .node [(6, .done)])])]),(4, .node [(1, .node [(5, .node [(6, .done)])])])]),(4, .node [(1, .node [(3, .node [(5, .node [(6, .done)])]),(5, .node [(3, .node [(6, .done)])])]),(3, .node [(1, .node [(5, .node [(6, .done)])])])])]),(3, .node [(0, .node [(1, .node [(4, .node [(5, .node [(6, .done)])])]),(4, .node [(1, .node [(5, .node [(6, .done)])])])]),(4, .node [(0, .node [(1, .node [(5, .node [(6, .done)])])])])]),(4, .node [(0, .node [(1, .node [(3, .node [(5, .node [(6, .done)])]),(5, .node [(3, .node [(6, .done)])])]),(3, .node [(1, .node [(5, .node [(6, .done)])])])]),(3, .node [(0, .node [(1, .node [(5, .node [(6, .done)])])])])])]),(4, .node [(0, .node [(1, .node [(2, .node [(3, .node [(5, .node [(6, .done)])]),(5, .node [(3, .node [(6, .done)])])]),(5, .node [(2, .node [(3, .node [(6, .done)])])])]),(2, .node [(1, .node [(3, .node [(5, .node [(6, .done)])]),(5, .node [(3, .node [(6, .done)])])]),(3, .node [(1, .node [(5, .node [(6, .done)])])])])]),(2, .node [(0, .node [(1, .node [(3, .node [(5, .node [(6, .done)])]),(5, .node [(3, .node [(6, .done)])])]),(3, .node [(1, .node [(5, .node [(6, .done)])])])]),(3, .node [(0, .node [(1, .node [(5, .node [(6, .done)])])])])])])]
def yaj:Tr:= .node [(0, .node [(1, .node [(2, .node [(3, .node [(4, .done)])])])]),(1, .node [(0, .node [(2, .node [(3, .node [(4, .done)])])]),(2, .node [(0, .node [(3, .node [(4, .done)])])])])]
theorem y8v (p:List (Int×Int)):Fn Tryz.prog 74 [plA false p] (.bool false):=by
 refine Fn.intro [.tmp 2] Tryz.func74 rfl rfl (by decide) (by simp [Tryz.ntmps74]) ?_;rw [Tryz.ntmps74]
 repeat' (first|omega|(try apply yaa);simp only [go_sem,sevalprocAttr]|apply yad<;>(intro h_;(try simp only [h_]);revert h_)|apply yac|apply yab|apply gspI|apply And.intro|with_reducible intro h_|trivial|simp only [go_sem,la2];omega)
theorem y1j:Fn Tryz.prog 43 [I (-2), .ro 1 5 (.ints [-1,0,0,0,-1])] (plA false [(-2,-1),(2,-1)]):=by
 have h:=yxw (-2) [-1,0,0,0,-1] (by decide) (by decide) (by decide)
 rw [show tmI (-2) [-1,0,0,0,-1]=[(-2,-1),(2,-1)] by decide] at h
 exact h
theorem yaar:Fn Tryz.prog 43 [I 0, .ro 1 1 (.ints [1])] (plA false [(0,1)]):=by
 have h:=yxw 0 [1] (by decide) (by decide) (by decide)
 rw [show tmI 0 [1]=[(0,1)] by decide] at h
 exact h
theorem yoj:yao [(0,1)] (dpw 0):=⟨⟨by decide,by decide⟩,fun e=>by
 simp only [cfL,dpw,Int.add_zero]
 by_cases h:e=0
 ·rw [if_pos h.symm,if_pos h]
 ·rw [if_neg (fun g=>h g.symm),if_neg h]⟩
theorem y1k {q:List (Int×Int)} {j:Nat} (hj:j<=20) (h:yao q (dpw j)): ∃r,yao r (dpw (j+1))/\Fn Tryz.prog 10 [plA false q,plA false [(-2,-1),(2,-1)]] (plA false r):=by
 have hl:=yjl h
 exact y05 h (fun e he=>ygu (by omega) he) (fun e=>by have:=ygv hj e;omega) fun _=>by omega
theorem y8w {m:List Int} {n:Nat} (hp:PmOk m n) (hn:n<=9) (hn0:0<n) {L:Nat} (hL:L<=20) {q:List (Int×Int)} (hq:yao q (dpw L)):
  Fn Tryz.prog 10 [plA false (ybl (brT m n 0 1)),plA false q] (plA false (brP m n L)):=by
 have hpp:yao (ybl (brT m n 0 1)) (brT m n 0 1):=ygc fun e he=>ygs hp hn (by omega) (Nat.le_refl _) he
 have hlast: ∀{r:List (Int×Int)},yao r (brT m n L 1)->r=brP m n L:=fun h=>h.eq fun e he=>ygs hp hn hL (Nat.le_refl _) he
 have hl:=yjl hq
 by_cases hp0:0<(ybl (brT m n 0 1)).length
 ·obtain ⟨r,h1,h2⟩:=yil hpp hq (fun e he=>ygs hp hn (by omega) (Nat.le_refl _) he) (fun e he=>ygu (by omega) he) (fun e=>by have:=ywc hp hn (L:=0) (by omega) (Nat.le_refl _) e;omega) (fun e=>by have:=ygv hL e;omega) (h:=brT m n L 1) (fun e=>by
   rw [ylf,ylg hp hn0 L e]
   exact ybs hpp.cf L e) (fun e=>by have:=ywc hp hn hL (Nat.le_refl _) e;omega) hp0 (by omega) (by
   have a:=yvt hpp.asc hpp.cf (fun e he=>yep hp he)
   have a0:=a _ (yc5 (i:=0) hp0)
   have a1:=a _ (yc5 (i:=(ybl (brT m n 0 1)).length-1) (by omega))
   have h2:=ysk hp
   have e1:lowE (ybl (brT m n 0 1))=((ybl (brT m n 0 1)).getD 0 (0,0)).1:=rfl
   have e2:ybf (ybl (brT m n 0 1))=((ybl (brT m n 0 1)).getD ((ybl (brT m n 0 1)).length-1) (0,0)).1:=rfl
   rw [←e1] at a0
   rw [←e2] at a1
   generalize (ybl (brT m n 0 1)).length=x at*
   have:4*(1:Int)*(L+1)<=4*(x:Int)*q.length:=Int.mul_le_mul (by omega) (by omega) (by omega) (by omega)
   omega)
  rw [hlast h1] at h2
  exact h2
 ·have h0:ybl (brT m n 0 1)=[]:=List.length_eq_zero_iff.1 (by omega)
  have hz: ∀e,brT m n 0 1 e=0:=fun e=>by rw [←hpp.cf,h0];rfl
  have:brP m n L=[]:=(hlast (yao.nil.congr fun e=>by rw [ylg hp hn0 L e,ybs hz L e,ymu])).symm
  rw [h0,this]
  exact yo1 q
theorem y4s {L:Nat} (hL:L<=20) {q:List (Int×Int)} (hq:yao q (dpw L)):Fn Tryz.prog 10 [plA false [(0,1)],plA false q] (plA false (brP [] 0 (L+1))):=by
 have hl:=yjl hq
 obtain ⟨r,h1,h2⟩:=yil yoj hq (fun e he=>ygu (by omega) he) (fun e he=>ygu (by omega) he) (fun e=>by have:=ygv (j:=0) (by omega) e;omega) (fun e=>by have:=ygv hL e;omega) (h:=dpw L) (fun e=>by
  rw [ylf]
  have: ∀e,cfL [(0,1)] e=dpw 0 e:=yoj.cf
  rw [ybs this L e]
  exact (ybs (fun x=>rfl) L e).trans (yla L e)) (fun e=>by have:=ygv hL e;omega) (by decide) (by omega) (by
  have e1:ybf [((0:Int),(1:Int))]=0:=rfl
  have e2:lowE [((0:Int),(1:Int))]=0:=rfl
  rw [e1,e2,show ([((0:Int),(1:Int))]:List (Int×Int)).length=1 from rfl]
  omega)
 have:r=brP [] 0 (L+1):=by
  unfold brP
  rw [h1.eq (fun e he=>ygu (by omega) he)]
  congr 1
  funext e
  exact (y4r L e).symm
 rw [this] at h2
 exact h2
theorem yqz (s m:List Int) (L:Nat) (o:List Int) (R R':List (Int×Int)) (hs:s.length<=64) (hL:L<=20) (hv:yah s m L=true) (hpb:ydf o s.length=true) (hne: ¬(s.length=0/\L=0)) (hwd:wdN m o o.length<=20)
  (hsw:0<s.length->Fn Tryz.prog 73 [dgA s m L,roI o] (.tup [plA false R, .bool true])) (h00:s.length=0->R'=brP m s.length L)
  (hmul:0<s.length-> ∀q,yao q (dpw L)->Fn Tryz.prog 10 [plA false R,plA false q] (plA false R')):Fn Tryz.prog 31 [dgA s m L,roI o] (.tup [plA false R',I 0]):=by
 obtain ⟨hprm,hol⟩:=yht hpb
 have hW:=yti s m L o (by omega) (by omega)
 have hp:=(ya8 hv).prd
 have hpm:=pmOk hv
 unfold widA at hW
 rw [if_pos hv,if_pos hpb] at hW
 generalize wdN m o o.length=wd at*
 have bw:decide (20<wd)=false:=by rw [decide_eq_false_iff_not];omega
 have bL:decide (20<(L:Int))=false:=by rw [decide_eq_false_iff_not];omega
 have hbig:=y8v R'
 have h1:=yaar
 have hd:=y1j
 by_cases hn0:s.length=0
 ·have hR0:=h00 hn0
  subst hR0
  have b0:((s.length:Int)==0)=true:=by simpa using hn0
  have bl0:((L:Int)==0)=false:=by simp;omega
  refine Fn.introL [.cell 4 29, .tmp 5] Tryz.func31 rfl rfl (by decide) (by simp [Tryz.ntmps31]) ?_;rw [Tryz.ntmps31]
  repeat' (first|omega|(try apply yaa);simp only [go_sem,sevalprocAttr]|apply yad<;>(intro h_;(try simp only [h_]);revert h_)|apply yac|apply yab|apply gspI|apply And.intro|with_reducible intro h_|trivial|simp only [go_sem,la2];omega)
  refine ⟨yaf.fn rfl hW ?_⟩
  repeat' (first|omega|(try apply yaa);simp only [go_sem,sevalprocAttr,b0,bl0,bw,bL]|apply yad<;>(intro h_;(try simp only [h_]);revert h_)|apply yac|apply yab|apply gspI|apply And.intro|with_reducible intro h_|trivial|simp only [go_sem,la2];omega)
  refine yae.cut [(9,I L),(8, .ptr 3 0),(4, .ptr 1 0),(2, .ptr 0 0),(1,roI o)] [(3, .cells 29 (.lst [.bool false,tmA [(0,1)]])),(1, .cells 29 (.lst [.bool false, .nils])),(0, .cells 24 (.lst [roI s,roI m,I L]))] ?_ ?_
  ·repeat' (first|omega|(first|apply yaa|(refine yae.introE (id:=8) (ya3) (by decide+kernel) mixed ?_)|(refine yae.intro (id:=8) [[43,44,8],[43,44,8],[41,42,8],[41,42,8],[41,42,43,44],[43,44],[]] [[],[],[0,1],[0,1],[0,1,2,3],[2,3],[]] (by decide+kernel) mixed ?_)|(refine yae.introE (id:=18) (yaj) (by decide+kernel) mixed ?_)|(refine yae.intro (id:=18) [[67,68],[66],[66],[],[]] [[],[0],[0],[],[]] (by decide+kernel) mixed ?_)|(refine yae.introT (id:=18) (yaj) (by decide+kernel) mixed ?_)|skip);simp only [go_sem,sevalprocAttr,b0,bl0,bw,bL,↓reduceIte,reduceCtorEq,ya3,yaj]|apply yad<;>(intro h_;(try simp only [h_]);revert h_)|apply yac|apply yab|apply gspI|apply And.intro|with_reducible intro h_|trivial|simp only [go_sem,la2];omega)
   all_goals first
    |(refine ⟨yaf.frz (ys:=[I 0, .ro 1 1 (.ints [1])]) [2] rfl ?_ ?_ ?_ ?_ rfl rfl rfl (yaf.fn rfl h1 ?_)⟩
      ·simp only [go_sem,sevalprocAttr,Nat.le_refl]
      ·simp only [go_sem,sevalprocAttr,Nat.le_refl]
      ·simp only [go_sem,sevalprocAttr,Nat.le_refl]
      ·simp only [go_sem,sevalprocAttr,Nat.le_refl])
    |(refine ⟨yaf.frz (ys:=[I 0, .ro 1 1 (.ints [1])]) [3] rfl ?_ ?_ ?_ ?_ rfl rfl rfl (yaf.fn rfl h1 ?_)⟩
      ·simp only [go_sem,sevalprocAttr,Nat.le_refl]
      ·simp only [go_sem,sevalprocAttr,Nat.le_refl]
      ·simp only [go_sem,sevalprocAttr,Nat.le_refl]
      ·simp only [go_sem,sevalprocAttr,Nat.le_refl])
   all_goals (repeat' (first|omega|(first|apply yaa|(refine yae.introE (id:=8) (ya3) (by decide+kernel) mixed ?_)|(refine yae.intro (id:=8) [[43,44,8],[43,44,8],[41,42,8],[41,42,8],[41,42,43,44],[43,44],[]] [[],[],[0,1],[0,1],[0,1,2,3],[2,3],[]] (by decide+kernel) mixed ?_)|(refine yae.introE (id:=18) (yaj) (by decide+kernel) mixed ?_)|(refine yae.intro (id:=18) [[67,68],[66],[66],[],[]] [[],[0],[0],[],[]] (by decide+kernel) mixed ?_)|(refine yae.introT (id:=18) (yaj) (by decide+kernel) mixed ?_)|skip);simp only [go_sem,sevalprocAttr,b0,bl0,bw,bL,↓reduceIte,reduceCtorEq,ya3,yaj]|apply yad<;>(intro h_;(try simp only [h_]);revert h_)|apply yac|apply yab|apply gspI|apply And.intro|with_reducible intro h_|trivial|simp only [go_sem,la2];omega))
   all_goals first
    |(refine Wk.sub ?_ ?_
      ·simp only [go_sem,sevalprocAttr]
      ·simp only [go_sem,sevalprocAttr,yba])
    |(refine Wk.subS (fr1:=[(9,I L),(8, .ptr 2 0),(4, .ptr 1 0),(2, .ptr 0 0),(1,roI o)]) (H1:=[(2, .cells 29 (.lst [.bool false,tmA [(0,1)]])),(1, .cells 29 (.lst [.bool false, .nils])),(0, .cells 24 (.lst [roI s,roI m,I L]))]) 2 3 rfl rfl rfl rfl ?_ ?_
      ·simp only [go_sem,sevalprocAttr]
      ·simp only [go_sem,sevalprocAttr,yba])
  obtain rfl:s=[]:=List.length_eq_zero_iff.1 hn0
  obtain rfl:m=[]:=List.length_eq_zero_iff.1 (by have:=hp.ok.1;simpa using this)
  obtain ⟨C,rfl⟩: ∃C,L=C+1:=⟨L-1,by simp at hne;omega⟩
  have hC:(C:Int)+1-1=(C:Nat):=by omega
  repeat' (first|omega|(try apply yaa);simp only [go_sem,sevalprocAttr,b0,hC]|apply yad<;>(intro h_;(try simp only [h_]);revert h_)|apply yac|apply yab|apply gspI|apply And.intro|with_reducible intro h_|trivial|simp only [go_sem,la2];omega)
  refine ⟨yaf.frz [4] rfl (by simp only [go_sem,sevalprocAttr,Nat.le_refl]) (by simp only [go_sem,sevalprocAttr,Nat.le_refl]) (by simp only [go_sem,sevalprocAttr,Nat.le_refl]) (by simp only [go_sem,sevalprocAttr,Nat.le_refl]) rfl rfl rfl (yaf.fn rfl h1 ?_)⟩
  repeat' (first|omega|(try apply yaa);simp only [go_sem,sevalprocAttr,b0,hC]|apply yad<;>(intro h_;(try simp only [h_]);revert h_)|apply yac|apply yab|apply gspI|apply And.intro|with_reducible intro h_|trivial|simp only [go_sem,la2];omega)
  refine yai.intro (fun n' fr H=> ∃(j:Nat) (q:List (Int×Int)),j<=C/\yao q (dpw j)/\n'=C-j/\fr=[(64,I j),(63,I (C:Nat)),(12, .ptr 5 0),(8, .ptr 3 0),(4, .ptr 1 0)]/\
   H=[(5, .cells 29 (.lst [.bool false,tmA q])),(3, .cells 29 (.lst [.bool false,tmA [(0,1)]])),(1, .cells 29 (.lst [.bool false, .nils]))]) ?_ ?_
  ·refine ⟨_,_,_,Wk.sub ?_ ?_,0,[(0,1)],by omega,yoj,rfl,rfl,rfl⟩
   ·(simp only [go_sem,sevalprocAttr,hC])<;>rfl
   ·(simp only [go_sem,sevalprocAttr,yba])<;>rfl
  rintro n' fr H ⟨j,q,hj,hq,rfl,rfl,rfl⟩
  by_cases hjc:j<C
  ·have bj:decide ((j:Int)<(C:Nat))=true:=by simp;omega
   obtain ⟨r,hr,hm⟩:=y1k (by omega) hq
   repeat' (first|omega|(first|apply yaa|(refine yae.introE (id:=8) (ya3) (by decide+kernel) mixed ?_)|(refine yae.intro (id:=8) [[43,44,8],[43,44,8],[41,42,8],[41,42,8],[41,42,43,44],[43,44],[]] [[],[],[0,1],[0,1],[0,1,2,3],[2,3],[]] (by decide+kernel) mixed ?_)|(refine yae.introE (id:=18) (yaj) (by decide+kernel) mixed ?_)|(refine yae.intro (id:=18) [[67,68],[66],[66],[],[]] [[],[0],[0],[],[]] (by decide+kernel) mixed ?_)|(refine yae.introT (id:=18) (yaj) (by decide+kernel) mixed ?_)|skip);simp only [go_sem,sevalprocAttr,bj,↓reduceIte,reduceCtorEq,ya3,yaj]|apply yad<;>(intro h_;(try simp only [h_]);revert h_)|apply yac|apply yab|apply gspI|apply And.intro|with_reducible intro h_|trivial|simp only [go_sem,la2];omega)
   all_goals refine ⟨yaf.frz [6] rfl (by simp only [go_sem,sevalprocAttr,Nat.le_refl,ycm,yb2]) (by simp only [go_sem,sevalprocAttr,Nat.le_refl,ycm,yb2]) (by simp only [go_sem,sevalprocAttr,Nat.le_refl,ycm,yb2]) (by simp only [go_sem,sevalprocAttr,Nat.le_refl,ycm,yb2]) rfl rfl rfl (yaf.fn rfl hd ?_)⟩
   all_goals (repeat' (first|omega|(first|apply yaa|(refine yae.introE (id:=8) (ya3) (by decide+kernel) mixed ?_)|(refine yae.intro (id:=8) [[43,44,8],[43,44,8],[41,42,8],[41,42,8],[41,42,43,44],[43,44],[]] [[],[],[0,1],[0,1],[0,1,2,3],[2,3],[]] (by decide+kernel) mixed ?_)|(refine yae.introE (id:=18) (yaj) (by decide+kernel) mixed ?_)|(refine yae.intro (id:=18) [[67,68],[66],[66],[],[]] [[],[0],[0],[],[]] (by decide+kernel) mixed ?_)|(refine yae.introT (id:=18) (yaj) (by decide+kernel) mixed ?_)|skip);simp only [go_sem,sevalprocAttr,bj,↓reduceIte,reduceCtorEq,ya3,yaj]|apply yad<;>(intro h_;(try simp only [h_]);revert h_)|apply yac|apply yab|apply gspI|apply And.intro|with_reducible intro h_|trivial|simp only [go_sem,la2];omega))
   all_goals refine ⟨yaf.fn rfl hm ?_⟩
   all_goals (repeat' (first|omega|(first|apply yaa|(refine yae.introE (id:=8) (ya3) (by decide+kernel) mixed ?_)|(refine yae.intro (id:=8) [[43,44,8],[43,44,8],[41,42,8],[41,42,8],[41,42,43,44],[43,44],[]] [[],[],[0,1],[0,1],[0,1,2,3],[2,3],[]] (by decide+kernel) mixed ?_)|(refine yae.introE (id:=18) (yaj) (by decide+kernel) mixed ?_)|(refine yae.intro (id:=18) [[67,68],[66],[66],[],[]] [[],[0],[0],[],[]] (by decide+kernel) mixed ?_)|(refine yae.introT (id:=18) (yaj) (by decide+kernel) mixed ?_)|skip);simp only [go_sem,sevalprocAttr,bj,↓reduceIte,reduceCtorEq,ya3,yaj]|apply yad<;>(intro h_;(try simp only [h_]);revert h_)|apply yac|apply yab|apply gspI|apply And.intro|with_reducible intro h_|trivial|simp only [go_sem,la2];omega))
   all_goals (
    refine ⟨_,_,_,?_,Wk.sub ?_ ?_,j+1,r,by omega,hr,rfl,rfl,rfl⟩
    ·omega
    ·simp only [go_sem,sevalprocAttr]
    ·(simp only [go_sem,sevalprocAttr,yba])<;>rfl)
  ·obtain rfl:C=j:=by omega
   have bj:decide (((C:Nat):Int)<(C:Nat))=false:=by simp
   have hl:=y4s (by omega) hq
   repeat' (first|omega|(first|apply yaa|(refine yae.introE (id:=8) (ya3) (by decide+kernel) mixed ?_)|(refine yae.intro (id:=8) [[43,44,8],[43,44,8],[41,42,8],[41,42,8],[41,42,43,44],[43,44],[]] [[],[],[0,1],[0,1],[0,1,2,3],[2,3],[]] (by decide+kernel) mixed ?_)|(refine yae.introE (id:=18) (yaj) (by decide+kernel) mixed ?_)|(refine yae.intro (id:=18) [[67,68],[66],[66],[],[]] [[],[0],[0],[],[]] (by decide+kernel) mixed ?_)|(refine yae.introT (id:=18) (yaj) (by decide+kernel) mixed ?_)|skip);simp only [go_sem,sevalprocAttr,bj,↓reduceIte,reduceCtorEq,ya3,yaj]|apply yad<;>(intro h_;(try simp only [h_]);revert h_)|apply yac|apply yab|apply gspI|apply And.intro|with_reducible intro h_|trivial|simp only [go_sem,la2];omega)
   all_goals refine ⟨yaf.fn rfl hl ?_⟩
   all_goals (repeat' (first|omega|(first|apply yaa|(refine yae.introE (id:=8) (ya3) (by decide+kernel) mixed ?_)|(refine yae.intro (id:=8) [[43,44,8],[43,44,8],[41,42,8],[41,42,8],[41,42,43,44],[43,44],[]] [[],[],[0,1],[0,1],[0,1,2,3],[2,3],[]] (by decide+kernel) mixed ?_)|(refine yae.introE (id:=18) (yaj) (by decide+kernel) mixed ?_)|(refine yae.intro (id:=18) [[67,68],[66],[66],[],[]] [[],[0],[0],[],[]] (by decide+kernel) mixed ?_)|(refine yae.introT (id:=18) (yaj) (by decide+kernel) mixed ?_)|skip);simp only [go_sem,sevalprocAttr,bj,↓reduceIte,reduceCtorEq,ya3,yaj]|apply yad<;>(intro h_;(try simp only [h_]);revert h_)|apply yac|apply yab|apply gspI|apply And.intro|with_reducible intro h_|trivial|simp only [go_sem,la2];omega))
   all_goals refine ⟨yaf.fn rfl hbig ?_⟩
   all_goals (repeat' (first|omega|(first|apply yaa|(refine yae.introE (id:=8) (ya3) (by decide+kernel) mixed ?_)|(refine yae.intro (id:=8) [[43,44,8],[43,44,8],[41,42,8],[41,42,8],[41,42,43,44],[43,44],[]] [[],[],[0,1],[0,1],[0,1,2,3],[2,3],[]] (by decide+kernel) mixed ?_)|(refine yae.introE (id:=18) (yaj) (by decide+kernel) mixed ?_)|(refine yae.intro (id:=18) [[67,68],[66],[66],[],[]] [[],[0],[0],[],[]] (by decide+kernel) mixed ?_)|(refine yae.introT (id:=18) (yaj) (by decide+kernel) mixed ?_)|skip);simp only [go_sem,sevalprocAttr,bj,↓reduceIte,reduceCtorEq,ya3,yaj]|apply yad<;>(intro h_;(try simp only [h_]);revert h_)|apply yac|apply yab|apply gspI|apply And.intro|with_reducible intro h_|trivial|simp only [go_sem,la2];omega))
   all_goals exact LeA.refl _
 ·have b0:((s.length:Int)==0)=false:=by simpa using hn0
  have bl0:True:=trivial
  refine Fn.introL [.cell 4 29, .tmp 5] Tryz.func31 rfl rfl (by decide) (by simp [Tryz.ntmps31]) ?_;rw [Tryz.ntmps31]
  repeat' (first|omega|(try apply yaa);simp only [go_sem,sevalprocAttr]|apply yad<;>(intro h_;(try simp only [h_]);revert h_)|apply yac|apply yab|apply gspI|apply And.intro|with_reducible intro h_|trivial|simp only [go_sem,la2];omega)
  refine ⟨yaf.fn rfl hW ?_⟩
  repeat' (first|omega|(try apply yaa);simp only [go_sem,sevalprocAttr,b0,bl0,bw,bL]|apply yad<;>(intro h_;(try simp only [h_]);revert h_)|apply yac|apply yab|apply gspI|apply And.intro|with_reducible intro h_|trivial|simp only [go_sem,la2];omega)
  refine yae.cut [(9,I L),(8, .ptr 3 0),(4, .ptr 1 0),(2, .ptr 0 0),(1,roI o)] [(3, .cells 29 (.lst [.bool false,tmA [(0,1)]])),(1, .cells 29 (.lst [.bool false, .nils])),(0, .cells 24 (.lst [roI s,roI m,I L]))] ?_ ?_
  ·repeat' (first|omega|(first|apply yaa|(refine yae.introE (id:=8) (ya3) (by decide+kernel) mixed ?_)|(refine yae.intro (id:=8) [[43,44,8],[43,44,8],[41,42,8],[41,42,8],[41,42,43,44],[43,44],[]] [[],[],[0,1],[0,1],[0,1,2,3],[2,3],[]] (by decide+kernel) mixed ?_)|(refine yae.introE (id:=18) (yaj) (by decide+kernel) mixed ?_)|(refine yae.intro (id:=18) [[67,68],[66],[66],[],[]] [[],[0],[0],[],[]] (by decide+kernel) mixed ?_)|(refine yae.introT (id:=18) (yaj) (by decide+kernel) mixed ?_)|skip);simp only [go_sem,sevalprocAttr,b0,bl0,bw,bL,↓reduceIte,reduceCtorEq,ya3,yaj]|apply yad<;>(intro h_;(try simp only [h_]);revert h_)|apply yac|apply yab|apply gspI|apply And.intro|with_reducible intro h_|trivial|simp only [go_sem,la2];omega)
   all_goals first
    |(refine ⟨yaf.frz (ys:=[I 0, .ro 1 1 (.ints [1])]) [2] rfl ?_ ?_ ?_ ?_ rfl rfl rfl (yaf.fn rfl h1 ?_)⟩
      ·simp only [go_sem,sevalprocAttr,Nat.le_refl]
      ·simp only [go_sem,sevalprocAttr,Nat.le_refl]
      ·simp only [go_sem,sevalprocAttr,Nat.le_refl]
      ·simp only [go_sem,sevalprocAttr,Nat.le_refl])
    |(refine ⟨yaf.frz (ys:=[I 0, .ro 1 1 (.ints [1])]) [3] rfl ?_ ?_ ?_ ?_ rfl rfl rfl (yaf.fn rfl h1 ?_)⟩
      ·simp only [go_sem,sevalprocAttr,Nat.le_refl]
      ·simp only [go_sem,sevalprocAttr,Nat.le_refl]
      ·simp only [go_sem,sevalprocAttr,Nat.le_refl]
      ·simp only [go_sem,sevalprocAttr,Nat.le_refl])
   all_goals (repeat' (first|omega|(first|apply yaa|(refine yae.introE (id:=8) (ya3) (by decide+kernel) mixed ?_)|(refine yae.intro (id:=8) [[43,44,8],[43,44,8],[41,42,8],[41,42,8],[41,42,43,44],[43,44],[]] [[],[],[0,1],[0,1],[0,1,2,3],[2,3],[]] (by decide+kernel) mixed ?_)|(refine yae.introE (id:=18) (yaj) (by decide+kernel) mixed ?_)|(refine yae.intro (id:=18) [[67,68],[66],[66],[],[]] [[],[0],[0],[],[]] (by decide+kernel) mixed ?_)|(refine yae.introT (id:=18) (yaj) (by decide+kernel) mixed ?_)|skip);simp only [go_sem,sevalprocAttr,b0,bl0,bw,bL,↓reduceIte,reduceCtorEq,ya3,yaj]|apply yad<;>(intro h_;(try simp only [h_]);revert h_)|apply yac|apply yab|apply gspI|apply And.intro|with_reducible intro h_|trivial|simp only [go_sem,la2];omega))
   all_goals first
    |(refine Wk.sub ?_ ?_
      ·simp only [go_sem,sevalprocAttr]
      ·simp only [go_sem,sevalprocAttr,yba])
    |(refine Wk.subS (fr1:=[(9,I L),(8, .ptr 2 0),(4, .ptr 1 0),(2, .ptr 0 0),(1,roI o)]) (H1:=[(2, .cells 29 (.lst [.bool false,tmA [(0,1)]])),(1, .cells 29 (.lst [.bool false, .nils])),(0, .cells 24 (.lst [roI s,roI m,I L]))]) 2 3 rfl rfl rfl rfl ?_ ?_
      ·simp only [go_sem,sevalprocAttr]
      ·simp only [go_sem,sevalprocAttr,yba])
  have hsw:=hsw (by omega)
  repeat' (first|omega|(try apply yaa);simp only [go_sem,sevalprocAttr,b0]|apply yad<;>(intro h_;(try simp only [h_]);revert h_)|apply yac|apply yab|apply gspI|apply And.intro|with_reducible intro h_|trivial|simp only [go_sem,la2];omega)
  refine ⟨yaf.fn rfl hsw ?_⟩
  repeat' (first|omega|(try apply yaa);simp only [go_sem,sevalprocAttr,b0]|apply yad<;>(intro h_;(try simp only [h_]);revert h_)|apply yac|apply yab|apply gspI|apply And.intro|with_reducible intro h_|trivial|simp only [go_sem,la2];omega)
  refine ⟨yaf.frz [5] rfl (by simp only [go_sem,sevalprocAttr,Nat.le_refl,ycm,yb2]) (by simp only [go_sem,sevalprocAttr,Nat.le_refl,ycm,yb2]) (by simp only [go_sem,sevalprocAttr,Nat.le_refl,ycm,yb2]) (by simp only [go_sem,sevalprocAttr,Nat.le_refl,ycm,yb2]) rfl rfl rfl (yaf.fn rfl h1 ?_)⟩
  repeat' (first|omega|(try apply yaa);simp only [go_sem,sevalprocAttr,b0]|apply yad<;>(intro h_;(try simp only [h_]);revert h_)|apply yac|apply yab|apply gspI|apply And.intro|with_reducible intro h_|trivial|simp only [go_sem,la2];omega)
  refine yai.intro (fun n' fr H=> ∃(j:Nat) (q:List (Int×Int)),j<=L/\yao q (dpw j)/\n'=L-j/\fr=[(64,I j),(63,I (L:Nat)),(12, .ptr 6 0),(8, .ptr 3 0),(4, .ptr 1 0)]/\
   H=[(6, .cells 29 (.lst [.bool false,tmA q])),(3, .cells 29 (.lst [.bool false,tmA R])),(1, .cells 29 (.lst [.bool false, .nils]))]) ?_ ?_
  ·refine ⟨_,_,_,Wk.sub ?_ ?_,0,[(0,1)],by omega,yoj,rfl,rfl,rfl⟩
   ·(simp only [go_sem,sevalprocAttr,hol])<;>rfl
   ·(simp only [go_sem,sevalprocAttr,yba])<;>rfl
  rintro n' fr H ⟨j,q,hj,hq,rfl,rfl,rfl⟩
  by_cases hjc:j<L
  ·have bj:decide ((j:Int)<(L:Nat))=true:=by simp;omega
   obtain ⟨r,hr,hm⟩:=y1k (by omega) hq
   repeat' (first|omega|(first|apply yaa|(refine yae.introE (id:=8) (ya3) (by decide+kernel) mixed ?_)|(refine yae.intro (id:=8) [[43,44,8],[43,44,8],[41,42,8],[41,42,8],[41,42,43,44],[43,44],[]] [[],[],[0,1],[0,1],[0,1,2,3],[2,3],[]] (by decide+kernel) mixed ?_)|(refine yae.introE (id:=18) (yaj) (by decide+kernel) mixed ?_)|(refine yae.intro (id:=18) [[67,68],[66],[66],[],[]] [[],[0],[0],[],[]] (by decide+kernel) mixed ?_)|(refine yae.introT (id:=18) (yaj) (by decide+kernel) mixed ?_)|skip);simp only [go_sem,sevalprocAttr,bj,↓reduceIte,reduceCtorEq,ya3,yaj]|apply yad<;>(intro h_;(try simp only [h_]);revert h_)|apply yac|apply yab|apply gspI|apply And.intro|with_reducible intro h_|trivial|simp only [go_sem,la2];omega)
   all_goals refine ⟨yaf.frz [7] rfl (by simp only [go_sem,sevalprocAttr,Nat.le_refl,ycm,yb2]) (by simp only [go_sem,sevalprocAttr,Nat.le_refl,ycm,yb2]) (by simp only [go_sem,sevalprocAttr,Nat.le_refl,ycm,yb2]) (by simp only [go_sem,sevalprocAttr,Nat.le_refl,ycm,yb2]) rfl rfl rfl (yaf.fn rfl hd ?_)⟩
   all_goals (repeat' (first|omega|(first|apply yaa|(refine yae.introE (id:=8) (ya3) (by decide+kernel) mixed ?_)|(refine yae.intro (id:=8) [[43,44,8],[43,44,8],[41,42,8],[41,42,8],[41,42,43,44],[43,44],[]] [[],[],[0,1],[0,1],[0,1,2,3],[2,3],[]] (by decide+kernel) mixed ?_)|(refine yae.introE (id:=18) (yaj) (by decide+kernel) mixed ?_)|(refine yae.intro (id:=18) [[67,68],[66],[66],[],[]] [[],[0],[0],[],[]] (by decide+kernel) mixed ?_)|(refine yae.introT (id:=18) (yaj) (by decide+kernel) mixed ?_)|skip);simp only [go_sem,sevalprocAttr,bj,↓reduceIte,reduceCtorEq,ya3,yaj]|apply yad<;>(intro h_;(try simp only [h_]);revert h_)|apply yac|apply yab|apply gspI|apply And.intro|with_reducible intro h_|trivial|simp only [go_sem,la2];omega))
   all_goals refine ⟨yaf.fn rfl hm ?_⟩
   all_goals (repeat' (first|omega|(first|apply yaa|(refine yae.introE (id:=8) (ya3) (by decide+kernel) mixed ?_)|(refine yae.intro (id:=8) [[43,44,8],[43,44,8],[41,42,8],[41,42,8],[41,42,43,44],[43,44],[]] [[],[],[0,1],[0,1],[0,1,2,3],[2,3],[]] (by decide+kernel) mixed ?_)|(refine yae.introE (id:=18) (yaj) (by decide+kernel) mixed ?_)|(refine yae.intro (id:=18) [[67,68],[66],[66],[],[]] [[],[0],[0],[],[]] (by decide+kernel) mixed ?_)|(refine yae.introT (id:=18) (yaj) (by decide+kernel) mixed ?_)|skip);simp only [go_sem,sevalprocAttr,bj,↓reduceIte,reduceCtorEq,ya3,yaj]|apply yad<;>(intro h_;(try simp only [h_]);revert h_)|apply yac|apply yab|apply gspI|apply And.intro|with_reducible intro h_|trivial|simp only [go_sem,la2];omega))
   all_goals (
    refine ⟨_,_,_,?_,Wk.sub ?_ ?_,j+1,r,by omega,hr,rfl,rfl,rfl⟩
    ·omega
    ·simp only [go_sem,sevalprocAttr]
    ·(simp only [go_sem,sevalprocAttr,yba])<;>rfl)
  ·obtain rfl:L=j:=by omega
   have bj:decide (((L:Nat):Int)<(L:Nat))=false:=by simp
   have hl:=hmul (by omega) q hq
   repeat' (first|omega|(first|apply yaa|(refine yae.introE (id:=8) (ya3) (by decide+kernel) mixed ?_)|(refine yae.intro (id:=8) [[43,44,8],[43,44,8],[41,42,8],[41,42,8],[41,42,43,44],[43,44],[]] [[],[],[0,1],[0,1],[0,1,2,3],[2,3],[]] (by decide+kernel) mixed ?_)|(refine yae.introE (id:=18) (yaj) (by decide+kernel) mixed ?_)|(refine yae.intro (id:=18) [[67,68],[66],[66],[],[]] [[],[0],[0],[],[]] (by decide+kernel) mixed ?_)|(refine yae.introT (id:=18) (yaj) (by decide+kernel) mixed ?_)|skip);simp only [go_sem,sevalprocAttr,bj,↓reduceIte,reduceCtorEq,ya3,yaj]|apply yad<;>(intro h_;(try simp only [h_]);revert h_)|apply yac|apply yab|apply gspI|apply And.intro|with_reducible intro h_|trivial|simp only [go_sem,la2];omega)
   all_goals refine ⟨yaf.fn rfl hl ?_⟩
   all_goals (repeat' (first|omega|(first|apply yaa|(refine yae.introE (id:=8) (ya3) (by decide+kernel) mixed ?_)|(refine yae.intro (id:=8) [[43,44,8],[43,44,8],[41,42,8],[41,42,8],[41,42,43,44],[43,44],[]] [[],[],[0,1],[0,1],[0,1,2,3],[2,3],[]] (by decide+kernel) mixed ?_)|(refine yae.introE (id:=18) (yaj) (by decide+kernel) mixed ?_)|(refine yae.intro (id:=18) [[67,68],[66],[66],[],[]] [[],[0],[0],[],[]] (by decide+kernel) mixed ?_)|(refine yae.introT (id:=18) (yaj) (by decide+kernel) mixed ?_)|skip);simp only [go_sem,sevalprocAttr,bj,↓reduceIte,reduceCtorEq,ya3,yaj]|apply yad<;>(intro h_;(try simp only [h_]);revert h_)|apply yac|apply yab|apply gspI|apply And.intro|with_reducible intro h_|trivial|simp only [go_sem,la2];omega))
   all_goals refine ⟨yaf.fn rfl hbig ?_⟩
   all_goals (repeat' (first|omega|(first|apply yaa|(refine yae.introE (id:=8) (ya3) (by decide+kernel) mixed ?_)|(refine yae.intro (id:=8) [[43,44,8],[43,44,8],[41,42,8],[41,42,8],[41,42,43,44],[43,44],[]] [[],[],[0,1],[0,1],[0,1,2,3],[2,3],[]] (by decide+kernel) mixed ?_)|(refine yae.introE (id:=18) (yaj) (by decide+kernel) mixed ?_)|(refine yae.intro (id:=18) [[67,68],[66],[66],[],[]] [[],[0],[0],[],[]] (by decide+kernel) mixed ?_)|(refine yae.introT (id:=18) (yaj) (by decide+kernel) mixed ?_)|skip);simp only [go_sem,sevalprocAttr,bj,↓reduceIte,reduceCtorEq,ya3,yaj]|apply yad<;>(intro h_;(try simp only [h_]);revert h_)|apply yac|apply yab|apply gspI|apply And.intro|with_reducible intro h_|trivial|simp only [go_sem,la2];omega))
   all_goals exact LeA.refl _
theorem yjr (s m:List Int) (L:Nat) (o:List Int) (hs:s.length<=14) (hL:L<=20) (hv:yah s m L=true) (hpb:ydf o s.length=true) (hne: ¬(s.length=0/\L=0)) (hwd:wdN m o o.length<=20)
  (hmul:0<s.length-> ∀q,yao q (dpw L)->Fn Tryz.prog 10 [plA false (ybl (brT m s.length 0 1)),plA false q] (plA false (brP m s.length L))):Fn Tryz.prog 31 [dgA s m L,roI o] (.tup [plA false (brP m s.length L),I 0]):=by
 obtain ⟨hprm,hol⟩:=yht hpb
 have hpm:=pmOk hv
 refine yqz s m L o (ybl (brT m s.length 0 1)) _ (by omega) hL hv hpb hne hwd (fun h0=>?_) (fun _=>rfl) hmul
 have hcast:(o.map Int.toNat).map (Nat.cast:Nat->Int)=o:=by
  rw [List.map_map]
  conv=>rhs;rw [←List.map_id o]
  exact List.map_congr_left fun x hx=>by
   have:=hprm.rg x hx
   simp only [Function.comp,id];omega
 have hnd:(o.map Int.toNat).Nodup:=by
  rw [List.nodup_iff_pairwise_ne,List.pairwise_map]
  refine List.Pairwise.imp_of_mem (fun {a b} ha hb hne e=>hne ?_) (List.nodup_iff_pairwise_ne.1 hprm.nd)
  have h1:=hprm.rg a ha
  have h2:=hprm.rg b hb
  omega
 have hsw:=y4q s m L hpm hnd (by rw [List.length_map,hol]) (fun c hc=>by
  obtain ⟨x,hx,rfl⟩:=List.mem_map.1 hc
  have:=hprm.rg x hx
  omega) (by omega) (by omega)
 rw [hcast] at hsw
 exact hsw
theorem ytl (s m:List Int) (L:Nat) (o:List Int) (hs:s.length<=9) (hL:L<=20) (hv:yah s m L=true) (hpb:ydf o s.length=true) (hne: ¬(s.length=0/\L=0)):Fn Tryz.prog 31 [dgA s m L,roI o] (.tup [plA false (brP m s.length L),I 0]):=by
 obtain ⟨hprm,hol⟩:=yht hpb
 have hp:=(ya8 hv).prd
 have hwd:=wd_le hp.ok hp.inv hprm hol o.length (by omega)
 exact yjr s m L o (by omega) hL hv hpb hne (by omega) fun h0 q hq=>y8w (pmOk hv) hs h0 hL hq
end Go.Proofs.YtmdjdekgakidhaaGreatDoor
