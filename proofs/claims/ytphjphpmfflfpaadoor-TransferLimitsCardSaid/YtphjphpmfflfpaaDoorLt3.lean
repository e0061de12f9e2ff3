/- Layer 17: the law TransferLimits. -/
import Derived.Test.YtphjphpmfflfpaaDoorZq
namespace Go.Proofs.YtphjphpmfflfpaaDoor
open Go Go.RowKit
set_option maxRecDepth 100000
set_option maxHeartbeats 8000000
set_option linter.unusedVariables false
set_option linter.unusedSimpArgs false
def ybi:Tr:= .node [(0, .node [(1, .node [(2, .node [(3, .done)])])]),(1, .node [(0, .node [(2, .node [(3, .done)])])])]
def yb2:List (List Nat):=[[84,85,86,87,88,89,90,91,92,93,94,95],[84,85,86,87,88,89,90,91,92,93,94,95],[82,83,87,88,89,90,91,92,93,94,95],[82,83,87,88,89,90,91,92,93,94,95],[82,83,87,88,89,90,91,92,93,94,95],[82,83,84,85,86,89,90,91,92,93,94,95,96],[82,83,84,85,86,89,90,91,92,93,94,95,96],[82,83,84,85,86,87,88,91,92,93,94,95,96],[82,83,84,85,86,87,88,91,92,93,94,95,96],[82,83,84,85,86,87,88,89,90,93,94,95],[82,83,84,85,86,87,88,89,90,93,94,95],[82,83,84,85,86,87,88,89,90,91,92,96],[82,83,84,85,86,87,88,89,90,91,92,96],[82,83,84,85,86,87,88,89,90,91,92,96],[87,88,89,90,93,94,95],[87,88,89,90,93,94,95],[],[]]
def yb3:List (List Nat):=[[],[],[0,1],[0,1],[0,1],[0,1,2,3,4],[0,1,2,3,4],[0,1,2,3,4,5,6],[0,1,2,3,4,5,6],[0,1,2,3,4,5,6,7,8],[0,1,2,3,4,5,6,7,8],[0,1,2,3,4,5,6,7,8,9,10],[0,1,2,3,4,5,6,7,8,9,10],[0,1,2,3,4,5,6,7,8,9,10],[5,6,7,8,11,12,13],[5,6,7,8,11,12,13],[],[]]
def yb4:List (List Nat):=[[100,101,102,103,104,105,106,107,108,109],[100,101,102,103,104,105,106,107,108,109],[98,99,103,104,105,106,107,108,109],[98,99,103,104,105,106,107,108,109],[98,99,103,104,105,106,107,108,109],[98,99,100,101,102,105,106,107,108,109,110],[98,99,100,101,102,105,106,107,108,109,110],[98,99,100,101,102,103,104,106,107,108,109,110],[98,99,100,101,102,103,104,105,107,108,109],[98,99,100,101,102,103,104,105,106,110],[98,99,100,101,102,103,104,105,106,110],[98,99,100,101,102,103,104,105,106,110],[103,104,105,107,108,109],[103,104,105,107,108,109],[],[]]
def yb5:List (List Nat):=[[],[],[0,1],[0,1],[0,1],[0,1,2,3,4],[0,1,2,3,4],[0,1,2,3,4,5,6],[0,1,2,3,4,5,6,7],[0,1,2,3,4,5,6,7,8],[0,1,2,3,4,5,6,7,8],[0,1,2,3,4,5,6,7,8],[5,6,7,9,10,11],[5,6,7,9,10,11],[],[]]
def ylm:Tr:= .node [(2, .node [(3, .node [(4, .node [(7, .node [(8, .node [(9, .node [(10, .node [(11, .node [(12, .node [(13, .node [(0, .node [(1, .node [(5, .node [(6, .node [(14, .node [(15, .node [(16, .node [(17, .done)])])])]),(14, .node [(6, .node [(15, .node [(16, .node [(17, .done)])])]),(15, .node [(6, .node [(16, .node [(17, .done)])])])])]),(14, .node [(5, .node [(6, .node [(15, .node [(16, .node [(17, .done)])])]),(15, .node [(6, .node [(16, .node [(17, .done)])])])]),(15, .node [(5, .node [(6, .node [(16, .node [(17, .done)])])])])])]),(5, .node [(1, .node [(6, .node [(14, .node [(15, .node [(16, .node [(17, .done)])])])]),(14, .node [(6, .node [(15, .node [(16, .node [(17, .done)])])]),(15, .node [(6, .node [(16, .node [(17, .done)])])])])]),(6, .node [(1, .node [(14, .node [(15, .node [(16, .node [(17, .done)])])])])])])]),(5, .node [(0, .node [(1, .node [(6, .node [(14, .node [(15, .node [(16, .node [(17, .done)])])])]),(14, .node [(6, .node [(15, .node [(16, .node [(17, .done)])])]),(15, .node [(6, .node [(16, .node [(17, .done)])])])])]),(6, .node [(1, .node [(14, .node [(15, .node [(16, .node [(17, .done)])])])])])]),(6, .node [(0, .node [(1, .node [(14, .node [(15, .node [(16, .node [(17, .done)])])])])])])])])])])])])])])])])])]
def yln:Tr:= .node [(2, .node [(3, .node [(4, .node [(7, .node [(8, .node [(9, .node [(10, .node [(11, .node [(0, .node [(1, .node [(5, .node [(6, .node [(12, .node [(13, .node [(14, .node [(15, .done)])])])]),(12, .node [(6, .node [(13, .node [(14, .node [(15, .done)])])]),(13, .node [(6, .node [(14, .node [(15, .done)])])])])]),(12, .node [(5, .node [(6, .node [(13, .node [(14, .node [(15, .done)])])]),(13, .node [(6, .node [(14, .node [(15, .done)])])])]),(13, .node [(5, .node [(6, .node [(14, .node [(15, .done)])])])])])]),(5, .node [(1, .node [(6, .node [(12, .node [(13, .node [(14, .node [(15, .done)])])])]),(12, .node [(6, .node [(13, .node [(14, .node [(15, .done)])])]),(13, .node [(6, .node [(14, .node [(15, .done)])])])])]),(6, .node [(1, .node [(12, .node [(13, .node [(14, .node [(15, .done)])])])])])])]),(5, .node [(0, .node [(1, .node [(6, .node [(12, .node [(13, .node [(14, .node [(15, .done)])])])]),(12, .node [(6, .node [(13, .node [(14, .node [(15, .done)])])]),(13, .node [(6, .node [(14, .node [(15, .done)])])])])]),(6, .node [(1, .node [(12, .node [(13, .node [(14, .node [(15, .done)])])])])])]),(6, .node [(0, .node [(1, .node [(12, .node [(13, .node [(14, .node [(15, .done)])])])])])])])])])])])])])])])]
theorem yyw: ∀n:Fin 65,ybc [] [] (n.val:Int)=true:=by decide+kernel
def toS (c:Nat):List Int:=List.replicate c 1
def toO (c:Nat):List Int:=(List.range c).map fun (i:Nat)=>2*(i:Int)% 24+2*(i:Int)/24
def toM:Nat->List Int
 |0=>List.replicate 96 0
 |c+1=>((((toM c).set (4*c+2) (4*(((c:Int)+1)% 24)+3)).set (4*((c+1)% 24)+3) (4*(c:Int)+2)).set (4*c+1) (4*(((c:Int)+1)% 24))).set (4*((c+1)% 24)) (4*(c:Int)+1)
theorem yec: ∀c,(toM c).length=96
 |0=>by simp [toM]
 |c+1=>by simp only [toM,List.length_set,yec c]
theorem yyx (c:Nat):toO (c+1)=toO c++[2*(c:Int)% 24+2*(c:Int)/24]:=by simp [toO,List.range_succ]
theorem ydo (c:Nat):(toO c).length=c:=by simp [toO]
theorem yyy (c:Nat):toS (c+1)=toS c++[1]:=by simp [toS,List.replicate_succ']
theorem yed (c:Nat):(toS c).length=c:=by simp [toS]
theorem yv9:ybc (toS 24) (toM 24) 0=true:=by decide+kernel
theorem yr8:ycv (toO 24) 24=true:=by decide+kernel
theorem ywa:wdN (toM 24) (toO 24) 24=48:=by decide+kernel
theorem yqn:Fn Tryd.prog 10 [] (plA false [(-2,-1),(2,-1)]):=by
 have hd:=yv5
 refine Fn.introL [.cell 0 25] Tryd.func10 rfl rfl (by decide) (by simp [Tryd.ntmps10]) ?_;rw [Tryd.ntmps10]
 repeat' (first|omega|(try apply yaa);simp only [go_sem,sevalprocAttr]|apply yad<;>(intro h_;(try simp only [h_]);revert h_)|apply yac|apply yab|apply gspI|apply And.intro|with_reducible intro h_|trivial|simp only [go_sem,la2];omega)
 refine ⟨yaf.frz [1] rfl (by simp only [go_sem,sevalprocAttr,Nat.le_refl]) (by simp only [go_sem,sevalprocAttr,Nat.le_refl]) (by simp only [go_sem,sevalprocAttr,Nat.le_refl]) (by simp only [go_sem,sevalprocAttr,Nat.le_refl]) rfl rfl rfl (yaf.fn rfl hd ?_)⟩
 repeat' (first|omega|(try apply yaa);simp only [go_sem,sevalprocAttr]|apply yad<;>(intro h_;(try simp only [h_]);revert h_)|apply yac|apply yab|apply gspI|apply And.intro|with_reducible intro h_|trivial|simp only [go_sem,la2];omega)
 all_goals exact LeA.refl _
theorem yyz:Fn Tryd.prog 8 [I 1,I 0] (plA false [(0,1)]):=y1n 1 0 (by decide) (by decide)
theorem yi3 (z:Int) (hz:0<=z/\z<=255):Fn Tryd.prog 3 [.int .u8 z] (.bool true):=by
 have hA:=ytd
 obtain ⟨n,hn⟩: ∃n:Nat,z.tmod 65=n:=⟨(z % 65).toNat,by rw [Int.tmod_eq_emod_of_nonneg hz.1];omega⟩
 have hn65:n<65:=by
  rw [Int.tmod_eq_emod_of_nonneg hz.1] at hn
  omega
 have hw:IntKind.i64.wrap z=z:=IntWalk.i64_in _ (by omega)
 have hv:=yyw ⟨n,hn65⟩
 simp only at hv
 have hst: ∀{k:Int},Fn Tryd.prog 6 [dgA [] [] (n:Int),roI []] (.tup [plA false [],I k])->Fn Tryd.prog 6 [.agg [.nils, .nils,I (n:Nat)], .nils] (.tup [plA false [],I k]):=fun h=>
  Fn.args h (.cons (LeA.aggL (.cons (LeA.nils (by decide) rfl) (.cons (LeA.nils (by decide) rfl) (.cons (LeA.refl _) .nil)))) (.cons (LeA.nils (by decide) rfl) .nil))
 by_cases h0:n=0
 ·subst h0
  have hB:=hst (k:=8) (y2o [] [] (by decide) hv (by decide))
  have b0:(((0:Nat):Int)==0)=true:=rfl
  refine Fn.intro [.tmp 2] Tryd.func3 rfl rfl (by decide) (by simp [Tryd.ntmps3]) ?_;rw [Tryd.ntmps3]
  repeat' (first|omega|(try apply yaa);simp only [go_sem,sevalprocAttr]|apply yad<;>(intro h_;(try simp only [h_]);revert h_)|apply yac|apply yab|apply gspI|apply And.intro|with_reducible intro h_|trivial|simp only [go_sem,la2];omega)
  refine ⟨yaf.fn rfl hA ?_⟩
  repeat' (first|omega|(try apply yaa);simp only [go_sem,sevalprocAttr,hw,hn,b0]|apply yad<;>(intro h_;(try simp only [h_]);revert h_)|apply yac|apply yab|apply gspI|apply And.intro|with_reducible intro h_|trivial|simp only [go_sem,la2];omega)
  refine ⟨yaf.fn rfl hB ?_⟩
  repeat' (first|omega|(try apply yaa);simp only [go_sem,sevalprocAttr,b0]|apply yad<;>(intro h_;(try simp only [h_]);revert h_)|apply yac|apply yab|apply gspI|apply And.intro|with_reducible intro h_|trivial|simp only [go_sem,la2];omega)
  refine ⟨yaf.fn rfl yp1 ?_⟩
  repeat' (first|omega|(try apply yaa);simp only [go_sem,sevalprocAttr]|apply yad<;>(intro h_;(try simp only [h_]);revert h_)|apply yac|apply yab|apply gspI|apply And.intro|with_reducible intro h_|trivial|simp only [go_sem,la2];omega)
 have b0:((n:Int)==0)=false:=by simp;omega
 by_cases h20:20<n
 ·have hB:=hst (k:=5) (yr7 [] [] n [] (by decide) (by decide) hv (by decide) (by simp;omega) (.inr (by omega)))
  have b1:decide ((20:Int)<n)=true:=by simp;omega
  refine Fn.intro [.tmp 2] Tryd.func3 rfl rfl (by decide) (by simp [Tryd.ntmps3]) ?_;rw [Tryd.ntmps3]
  repeat' (first|omega|(try apply yaa);simp only [go_sem,sevalprocAttr]|apply yad<;>(intro h_;(try simp only [h_]);revert h_)|apply yac|apply yab|apply gspI|apply And.intro|with_reducible intro h_|trivial|simp only [go_sem,la2];omega)
  refine ⟨yaf.fn rfl hA ?_⟩
  repeat' (first|omega|(try apply yaa);simp only [go_sem,sevalprocAttr,hw,hn,b0]|apply yad<;>(intro h_;(try simp only [h_]);revert h_)|apply yac|apply yab|apply gspI|apply And.intro|with_reducible intro h_|trivial|simp only [go_sem,la2];omega)
  refine ⟨yaf.fn rfl hB ?_⟩
  repeat' (first|omega|(try apply yaa);simp only [go_sem,sevalprocAttr,b0,b1]|apply yad<;>(intro h_;(try simp only [h_]);revert h_)|apply yac|apply yab|apply gspI|apply And.intro|with_reducible intro h_|trivial|simp only [go_sem,la2];omega)
  refine ⟨yaf.fn rfl yp1 ?_⟩
  repeat' (first|omega|(try apply yaa);simp only [go_sem,sevalprocAttr]|apply yad<;>(intro h_;(try simp only [h_]);revert h_)|apply yac|apply yab|apply gspI|apply And.intro|with_reducible intro h_|trivial|simp only [go_sem,la2];omega)
 have b1:decide ((20:Int)<n)=false:=by rw [decide_eq_false_iff_not];omega
 have hB0:=yh5 [] [] n [] (by decide) (by omega) hv (by decide) (by simp;omega)
 have hB:Fn Tryd.prog 6 [.agg [.nils, .nils,I (n:Nat)], .nils] (.tup [plA false (brP [] 0 n),I 0]):=
  Fn.args hB0 (.cons (LeA.aggL (.cons (LeA.nils (by decide) rfl) (.cons (LeA.nils (by decide) rfl) (.cons (LeA.refl _) .nil)))) (.cons (LeA.nils (by decide) rfl) .nil))
 obtain ⟨C,rfl⟩: ∃C,n=C+1:=⟨n-1,by omega⟩
 obtain ⟨P,hP⟩: ∃P,P=brP [] 0 (C+1):=⟨_,rfl⟩
 rw [←hP] at hB
 have hC:(C:Int)+1-1=(C:Nat):=by omega
 have hWt:=yfr (toS 24) (toM 24) 0 (toO 24) (by decide) (by decide)
 have hTt:=yr7 (toS 24) (toM 24) 0 (toO 24) (by decide) (by decide) yv9 yr8 (by decide) (.inl (by rw [ydo,ywa];decide))
 unfold widA at hWt
 rw [if_pos yv9,yed,if_pos yr8,ydo,ywa] at hWt
 have hf:=yqn
 have h1:=yyz
 refine Fn.intro [.tmp 2] Tryd.func3 rfl rfl (by decide) (by simp [Tryd.ntmps3]) ?_;rw [Tryd.ntmps3]
 repeat' (first|omega|(try apply yaa);simp only [go_sem,sevalprocAttr]|apply yad<;>(intro h_;(try simp only [h_]);revert h_)|apply yac|apply yab|apply gspI|apply And.intro|with_reducible intro h_|trivial|simp only [go_sem,la2];omega)
 refine ⟨yaf.fn rfl hA ?_⟩
 repeat' (first|omega|(try apply yaa);simp only [go_sem,sevalprocAttr,hw,hn,b0]|apply yad<;>(intro h_;(try simp only [h_]);revert h_)|apply yac|apply yab|apply gspI|apply And.intro|with_reducible intro h_|trivial|simp only [go_sem,la2];omega)
 refine ⟨yaf.fn rfl hB ?_⟩
 repeat' (first|omega|(try apply yaa);simp only [go_sem,sevalprocAttr,b0,b1]|apply yad<;>(intro h_;(try simp only [h_]);revert h_)|apply yac|apply yab|apply gspI|apply And.intro|with_reducible intro h_|trivial|simp only [go_sem,la2];omega)
 refine ⟨yaf.fn rfl h1 ?_⟩
 repeat' (first|omega|(try apply yaa);simp only [go_sem,sevalprocAttr,b0,b1,hC]|apply yad<;>(intro h_;(try simp only [h_]);revert h_)|apply yac|apply yab|apply gspI|apply And.intro|with_reducible intro h_|trivial|simp only [go_sem,la2];omega)
 refine yak.intro (fun n' fr H=> ∃(j:Nat) (q:List (Int×Int)),j<=C/\yau q (dpw j)/\n'=C-j/\fr=[(48,I j),(47,I (C:Nat)),(6, .ptr 1 0),(5,I 0),(4, .ptr 0 0)]/\H=[(1, .cells 25 (.lst [.bool false,tmA q])),(0, .cells 25 (.lst [.bool false,tmA P]))]) ?_ ?_
 ·refine ⟨_,_,_,Wk.sub ?_ ?_,0,[(0,1)],by omega,yh4,rfl,rfl,rfl⟩
  ·(simp only [go_sem,sevalprocAttr,hC])<;>rfl
  ·(simp only [go_sem,sevalprocAttr,yap])<;>rfl
 rintro n' fr H ⟨j,q,hj,hq,rfl,rfl,rfl⟩
 by_cases hjc:j<C
 ·have bj:decide ((j:Int)<(C:Nat))=true:=by simp;omega
  obtain ⟨r,hr,hm⟩:=yp0 (by omega) hq
  repeat' (first|omega|(first|apply yaa|(refine yae.introE (id:=12) (ybi) (by decide+kernel) mixed ?_)|(refine yae.intro (id:=12) [[51],[50],[],[]] [[],[0],[],[]] (by decide+kernel) mixed ?_)|(refine yae.introT (id:=12) (ybi) (by decide+kernel) mixed ?_)|(refine yae.intro (id:=27) yb2 yb3 (by decide+kernel) mixed ?_)|(refine yae.intro (id:=28) yb4 yb5 (by decide+kernel) mixed ?_)|skip);simp only [go_sem,sevalprocAttr,bj,↓reduceIte,reduceCtorEq,ybi,yb2,yb3,yb4,yb5]|apply yad<;>(intro h_;(try simp only [h_]);revert h_)|apply yac|apply yab|apply gspI|apply And.intro|with_reducible intro h_|trivial|simp only [go_sem,la2];omega)
  all_goals refine ⟨yaf.fn rfl hf ?_⟩
  all_goals (repeat' (first|omega|(first|apply yaa|(refine yae.introE (id:=12) (ybi) (by decide+kernel) mixed ?_)|(refine yae.intro (id:=12) [[51],[50],[],[]] [[],[0],[],[]] (by decide+kernel) mixed ?_)|(refine yae.introT (id:=12) (ybi) (by decide+kernel) mixed ?_)|(refine yae.intro (id:=27) yb2 yb3 (by decide+kernel) mixed ?_)|(refine yae.intro (id:=28) yb4 yb5 (by decide+kernel) mixed ?_)|skip);simp only [go_sem,sevalprocAttr,bj,↓reduceIte,reduceCtorEq,ybi,yb2,yb3,yb4,yb5]|apply yad<;>(intro h_;(try simp only [h_]);revert h_)|apply yac|apply yab|apply gspI|apply And.intro|with_reducible intro h_|trivial|simp only [go_sem,la2];omega))
  all_goals refine ⟨yaf.fn rfl hm ?_⟩
  all_goals (repeat' (first|omega|(first|apply yaa|(refine yae.introE (id:=12) (ybi) (by decide+kernel) mixed ?_)|(refine yae.intro (id:=12) [[51],[50],[],[]] [[],[0],[],[]] (by decide+kernel) mixed ?_)|(refine yae.introT (id:=12) (ybi) (by decide+kernel) mixed ?_)|(refine yae.intro (id:=27) yb2 yb3 (by decide+kernel) mixed ?_)|(refine yae.intro (id:=28) yb4 yb5 (by decide+kernel) mixed ?_)|skip);simp only [go_sem,sevalprocAttr,bj,↓reduceIte,reduceCtorEq,ybi,yb2,yb3,yb4,yb5]|apply yad<;>(intro h_;(try simp only [h_]);revert h_)|apply yac|apply yab|apply gspI|apply And.intro|with_reducible intro h_|trivial|simp only [go_sem,la2];omega))
  all_goals (
   refine ⟨_,_,_,?_,Wk.sub ?_ ?_,j+1,r,by omega,hr,rfl,rfl,rfl⟩
   ·omega
   ·simp only [go_sem,sevalprocAttr]
   ·(simp only [go_sem,sevalprocAttr,yap])<;>rfl)
 obtain rfl:C=j:=by omega
 have hqP:q=P:=by
  rw [hP,hq.eq (fun e he=>yeb (by omega) he)]
  unfold brP
  congr 1
  funext e
  exact (ypz C e).symm
 subst hqP
 have bj:decide (((C:Nat):Int)<(C:Nat))=false:=by simp
 have hPl:q.length<=1000000:=by have:=hq.len (fun e he=>yeb (by omega) he);omega
 have hEq:=yyv q hPl
 repeat' (first|omega|(try apply yaa);simp only [go_sem,sevalprocAttr,bj]|apply yad<;>(intro h_;(try simp only [h_]);revert h_)|apply yac|apply yab|apply gspI|apply And.intro|with_reducible intro h_|trivial|simp only [go_sem,la2];omega)
 refine yak.intro (fun n' fr H=> ∃c:Nat,c<=24/\n'=24-c/\
  ((c=0/\fr=[(54,I 0),(8, .nils),(7, .ptr 2 0),(6, .ptr 1 0),(5,I 0),(4, .ptr 0 0)]/\H=[(2, .cells 31 (.lst [.nils, .nils,I 0])),(1, .cells 25 (.lst [.bool false,tmA q])),(0, .cells 25 (.lst [.bool false,tmA q]))])\/
   (fr=[(54,I c),(8, .sl 1 6 0 c),(7, .ptr 2 0),(6, .ptr 1 0),(5,I 0),(4, .ptr 0 0)]/\H=[(6, .cells 3 (.ints (toO c))),(4, .cells 3 (.ints (toS c))),(2, .cells 31 (.lst [.sl 1 4 0 c, .nils,I 0])),(1, .cells 25 (.lst [.bool false,tmA q])),(0, .cells 25 (.lst [.bool false,tmA q]))]))) ?_ ?_
 ·refine ⟨_,_,_,Wk.sub ?_ ?_,0,by omega,rfl, .inl ⟨rfl,rfl,rfl⟩⟩
  ·simp only [go_sem,sevalprocAttr]
  ·simp only [go_sem,sevalprocAttr,yap]
 rintro n' fr H ⟨c,hc,rfl,hcase⟩
 have ol:=ydo c
 have sl:=yed c
 have os:=yyx c
 have ss:=yyy c
 have e1:(2*(c:Int)).tmod 24=2*(c:Int)% 24:=Int.tmod_eq_emod_of_nonneg (by omega)
 have e2:(2*(c:Int)).tdiv 24=2*(c:Int)/24:=Int.tdiv_eq_ediv_of_nonneg (by omega)
 by_cases hc24:c<24
 ·have bc:decide ((c:Int)<24)=true:=by simp;omega
  rcases hcase with ⟨rfl,rfl,rfl⟩|⟨rfl,rfl⟩
  ·repeat' (first|omega|(first|apply yaa|(refine yae.intro (id:=12) [[51],[50],[],[]] [[],[0],[],[]] (by decide+kernel) mixed ?_)|(refine yae.introT (id:=12) (ybi) (by decide+kernel) mixed ?_)|(refine yae.intro (id:=27) yb2 yb3 (by decide+kernel) mixed ?_)|(refine yae.intro (id:=28) yb4 yb5 (by decide+kernel) mixed ?_)|skip);simp only [go_sem,sevalprocAttr,bc,↓reduceIte,reduceCtorEq,ybi,yb2,yb3,yb4,yb5]|apply yad<;>(intro h_;(try simp only [h_]);revert h_)|apply yac|apply yab|apply gspI|apply And.intro|with_reducible intro h_|trivial|simp only [go_sem,la2];omega)
   refine ⟨_,_,_,?_,Wk.sub ?_ ?_,1,by omega,rfl, .inr ⟨rfl,rfl⟩⟩
   ·omega
   ·simp only [go_sem,sevalprocAttr]
   ·(simp only [go_sem,sevalprocAttr,yap])<;>first|rfl|exact ⟨rfl,rfl⟩|decide
  ·repeat' (first|omega|(first|apply yaa|(refine yae.intro (id:=12) [[51],[50],[],[]] [[],[0],[],[]] (by decide+kernel) mixed ?_)|(refine yae.introT (id:=12) (ybi) (by decide+kernel) mixed ?_)|(refine yae.intro (id:=27) yb2 yb3 (by decide+kernel) mixed ?_)|(refine yae.intro (id:=28) yb4 yb5 (by decide+kernel) mixed ?_)|skip);simp only [go_sem,sevalprocAttr,bc,e1,e2,ol,sl,↓reduceIte,reduceCtorEq,ybi,yb2,yb3,yb4,yb5]|apply yad<;>(intro h_;(try simp only [h_]);revert h_)|apply yac|apply yab|apply gspI|apply And.intro|with_reducible intro h_|trivial|simp only [go_sem,la2];omega)
   refine ⟨_,_,_,?_,Wk.sub ?_ ?_,c+1,by omega,rfl, .inr ⟨rfl,rfl⟩⟩
   ·omega
   ·simp only [go_sem,sevalprocAttr,ol,sl]
   ·simp only [go_sem,sevalprocAttr,yap,os,ss]
 obtain rfl:c=24:=by omega
 rcases hcase with ⟨h,_⟩|⟨rfl,rfl⟩
 ·cases h
 have bc:decide (((24:Nat):Int)<24)=false:=by decide
 repeat' (first|omega|(try apply yaa);simp only [go_sem,sevalprocAttr,bc]|apply yad<;>(intro h_;(try simp only [h_]);revert h_)|apply yac|apply yab|apply gspI|apply And.intro|with_reducible intro h_|trivial|simp only [go_sem,la2];omega)
 refine yak.intro (fun n' fr H=> ∃c:Nat,c<=24/\n'=24-c/\fr=[(75,I c),(8, .sl 1 6 0 24),(7, .ptr 2 0),(6, .ptr 1 0),(5,I 0),(4, .ptr 0 0)]/\
  H=[(7, .cells 3 (.ints (toM c))),(6, .cells 3 (.ints (toO 24))),(4, .cells 3 (.ints (toS 24))),(2, .cells 31 (.lst [.sl 1 4 0 24, .sl 1 7 0 96,I 0])),(1, .cells 25 (.lst [.bool false,tmA q])),(0, .cells 25 (.lst [.bool false,tmA q]))]) ?_ ?_
 ·refine ⟨_,_,_,Wk.sub ?_ ?_,0,by omega,rfl,rfl,rfl⟩
  ·simp only [go_sem,sevalprocAttr]
  ·(simp only [go_sem,sevalprocAttr,yap,toM])<;>rfl
 rintro n' fr H ⟨c,hc',rfl,rfl,rfl⟩
 have ml:=yec c
 by_cases hc25:c<24
 ·have bc2:decide ((c:Int)<24)=true:=by simp;omega
  have e3:((c:Int)+1).tmod 24=((c:Int)+1)% 24:=Int.tmod_eq_emod_of_nonneg (by omega)
  have e4:(4*(c:Int)+2).toNat=4*c+2:=by omega
  have e5:(4*(((c:Int)+1)% 24)+3).toNat=4*((c+1)% 24)+3:=by omega
  have e6:(4*(c:Int)+1).toNat=4*c+1:=by omega
  have e7:(4*(((c:Int)+1)% 24)).toNat=4*((c+1)% 24):=by omega
  have l1:((toM c).set (4*c+2) (4*(((c:Int)+1)% 24)+3)).length=96:=by rw [List.length_set,ml]
  repeat' (first|omega|(try apply yaa);simp only [go_sem,sevalprocAttr,bc2,e3]|apply yad<;>(intro h_;(try simp only [h_]);revert h_)|apply yac|apply yab|apply gspI|apply And.intro|with_reducible intro h_|trivial|simp only [go_sem,la2];omega)
  refine yae.cut [(11,I (4*(((c:Int)+1)% 24))),(10,I c),(75,I c),(8, .sl 1 6 0 24),(7, .ptr 2 0),(6, .ptr 1 0),(5,I 0),(4, .ptr 0 0)] [(7, .cells 3 (.ints (((toM c).set (4*c+2) (4*(((c:Int)+1)% 24)+3)).set (4*((c+1)% 24)+3) (4*(c:Int)+2)))),(6, .cells 3 (.ints (toO 24))),(4, .cells 3 (.ints (toS 24))),(2, .cells 31 (.lst [.sl 1 4 0 24, .sl 1 7 0 96,I 0])),(1, .cells 25 (.lst [.bool false,tmA q])),(0, .cells 25 (.lst [.bool false,tmA q]))] ?_ ?_
  ·repeat' (first|omega|(first|apply yaa|(refine yae.introF (id:=12) (ybi) (by decide+kernel) mixed ?_)|(refine yae.intro (id:=12) [[51],[50],[],[]] [[],[0],[],[]] (by decide+kernel) mixed ?_)|(refine yae.introT (id:=12) (ybi) (by decide+kernel) mixed ?_)|(refine yae.introF (id:=27) (ylm) (by decide+kernel) mixed ?_)|(refine yae.intro (id:=27) yb2 yb3 (by decide+kernel) mixed ?_)|(refine yae.introF (id:=28) (yln) (by decide+kernel) mixed ?_)|(refine yae.intro (id:=28) yb4 yb5 (by decide+kernel) mixed ?_)|skip);simp only [go_sem,sevalprocAttr,e4,e5,ml,List.length_set,↓reduceIte,reduceCtorEq,ybi,yb2,yb3,yb4,yb5,ylm,yln]|apply yad<;>(intro h_;(try simp only [h_]);revert h_)|apply yac|apply yab|apply gspI|apply And.intro|with_reducible intro h_|trivial|simp only [go_sem,la2];omega)
   all_goals (refine Wk.sub ?_ ?_<;>(simp only [go_sem,sevalprocAttr,yap]))
  repeat' (first|omega|(try apply yaa);simp only [go_sem,sevalprocAttr,bc2]|apply yad<;>(intro h_;(try simp only [h_]);revert h_)|apply yac|apply yab|apply gspI|apply And.intro|with_reducible intro h_|trivial|simp only [go_sem,la2];omega)
  refine yae.cutE [(75,I c),(8, .sl 1 6 0 24),(7, .ptr 2 0),(6, .ptr 1 0),(5,I 0),(4, .ptr 0 0)] [(7, .cells 3 (.ints (toM (c+1)))),(6, .cells 3 (.ints (toO 24))),(4, .cells 3 (.ints (toS 24))),(2, .cells 31 (.lst [.sl 1 4 0 24, .sl 1 7 0 96,I 0])),(1, .cells 25 (.lst [.bool false,tmA q])),(0, .cells 25 (.lst [.bool false,tmA q]))] ?_ ?_
  ·repeat' (first|omega|(first|apply yaa|(refine yae.introF (id:=12) (ybi) (by decide+kernel) mixed ?_)|(refine yae.intro (id:=12) [[51],[50],[],[]] [[],[0],[],[]] (by decide+kernel) mixed ?_)|(refine yae.introT (id:=12) (ybi) (by decide+kernel) mixed ?_)|(refine yae.introF (id:=27) (ylm) (by decide+kernel) mixed ?_)|(refine yae.intro (id:=27) yb2 yb3 (by decide+kernel) mixed ?_)|(refine yae.introF (id:=28) (yln) (by decide+kernel) mixed ?_)|(refine yae.intro (id:=28) yb4 yb5 (by decide+kernel) mixed ?_)|skip);simp only [go_sem,sevalprocAttr,e6,e7,ml,List.length_set,↓reduceIte,reduceCtorEq,ybi,yb2,yb3,yb4,yb5,ylm,yln]|apply yad<;>(intro h_;(try simp only [h_]);revert h_)|apply yac|apply yab|apply gspI|apply And.intro|with_reducible intro h_|trivial|simp only [go_sem,la2];omega)
   all_goals (refine Wk.sub ?_ ?_<;>(simp only [go_sem,sevalprocAttr,yap,toM]))
  repeat' (first|omega|(try apply yaa);simp only [go_sem,sevalprocAttr,bc2]|apply yad<;>(intro h_;(try simp only [h_]);revert h_)|apply yac|apply yab|apply gspI|apply And.intro|with_reducible intro h_|trivial|simp only [go_sem,la2];omega)
  refine ⟨_,_,_,?_,Wk.sub ?_ ?_,c+1,by omega,rfl,rfl,rfl⟩
  ·omega
  ·simp only [go_sem,sevalprocAttr]
  ·(simp only [go_sem,sevalprocAttr,yap,toM])<;>rfl
 obtain rfl:c=24:=by omega
 have wt:=List.take_of_length_le (Nat.le_of_eq (yec 24))
 have wo:=List.take_of_length_le (Nat.le_of_eq (ydo 24))
 have ws:=List.take_of_length_le (Nat.le_of_eq (yed 24))
 repeat' (first|omega|(try apply yaa);simp only [go_sem,sevalprocAttr,bc]|apply yad<;>(intro h_;(try simp only [h_]);revert h_)|apply yac|apply yab|apply gspI|apply And.intro|with_reducible intro h_|trivial|simp only [go_sem,la2];omega)
 refine ⟨yaf.frz [4,6,7] rfl (by simp only [go_sem,sevalprocAttr,wt,wo,ws,yec,ydo,yed,Nat.le_refl]) (by simp only [go_sem,sevalprocAttr,wt,wo,ws,yec,ydo,yed,Nat.le_refl]) (by simp only [go_sem,sevalprocAttr,wt,wo,ws,yec,ydo,yed,Nat.le_refl]) (by simp only [go_sem,sevalprocAttr,wt,wo,ws,yec,ydo,yed,Nat.le_refl]) rfl rfl rfl (yaf.fn rfl hWt ?_)⟩
 repeat' (first|omega|(try apply yaa);simp only [go_sem,sevalprocAttr,bc]|apply yad<;>(intro h_;(try simp only [h_]);revert h_)|apply yac|apply yab|apply gspI|apply And.intro|with_reducible intro h_|trivial|simp only [go_sem,la2];omega)
 refine ⟨yaf.fn rfl hTt ?_⟩
 repeat' (first|omega|(try apply yaa);simp only [go_sem,sevalprocAttr,bc]|apply yad<;>(intro h_;(try simp only [h_]);revert h_)|apply yac|apply yab|apply gspI|apply And.intro|with_reducible intro h_|trivial|simp only [go_sem,la2];omega)
 refine ⟨yaf.fn rfl hEq ?_⟩
 repeat' (first|omega|(try apply yaa);simp only [go_sem,sevalprocAttr,bc]|apply yad<;>(intro h_;(try simp only [h_]);revert h_)|apply yac|apply yab|apply gspI|apply And.intro|with_reducible intro h_|trivial|simp only [go_sem,la2];omega)
end Go.Proofs.YtphjphpmfflfpaaDoor
