/- Layer 17: the bracket along an order is the bracket, at most 9 crossings and 20 loops. -/
import Derived.Test.YtphjphpmfflfpaaGreatDoorSx3
import Derived.Test.YtphjphpmfflfpaaGreatDoorTo2
import Derived.Test.YtphjphpmfflfpaaGreatDoorTb0
namespace Go.Proofs.YtphjphpmfflfpaaGreatDoor
open Go Go.RowKit
set_option maxRecDepth 100000
set_option maxHeartbeats 8000000
set_option linter.unusedVariables false
set_option linter.unusedSimpArgs false
def fI:Tr:= .node [(0, .node [(1, .node [(2, .node [(3, .node [(4, .node [(5, .node [(6, .done)])])]),(4, .node [(3, .node [(5, .node [(6, .done)])]),(5, .node [(3, .node [(6, .done)])])])]),(4, .node [(2, .node [(3, .node [(5, .node [(6, .done)])]),(5, .node [(3, .node [(6, .done)])])]),(5, .node [(2, .node [(3, .node [(6, .done)])])])])]),(2, .node [(1, .node [(3, .node [(4, .node [(5, .node [(6, .done)])])]),(4, .node [(3, .node [(5, .node [(6, .done)])]),(5, .node [(3, .node [(6, .done)])])])]),(3, .node [(1, .node [(4, .node [(5, .node [(6, .done)])])]),(4, .node [(1, .node [(5, .node [(6, .done)])])])]),(4, .node [(1, .node [(3, .node [(5, .node [(6, .done)])]),(5, .node [(3, .node [(6, .done)])])]),(3, .node [(1, .node [(5, .node [(6, .done)])])])])]),(4, .node [(1, .node [(2, .node [(3, .node [(5, .node [(6, .done)])]),(5, .node [(3, .node [(6, .done)])])]),(5, .node [(2, .node [(3, .node [(6, .done)])])])]),(2, .node [(1, .node [(3, .node [(5, .node [(6, .done)])]),(5, .node [(3, .node [(6, .done)])])]),(3, .node [(1, .node [(5, .node [(6, .done)])])])])])]),(2, .node [(0, .node [(1, .node [(3, .node [(4, .node [(5, .node [(6, .done)])])]),(4, .node [(3, .node [(5, .node [(6, .done)])]),(5, .node [(3, .node [(6, .done)])])])]),(3, .node [(1, .node [(4, .node [(5, .node [(6, .done)])])]),(4, .node [(1, .node [(5, .node [(6, .done)])])])]),(4, .node [(1, .node [(3, .node [(5, .node [(6, .done)])]),(5, .node [(3, .node [(6, .done)])])]),(3, .node [(1, .node [(5, .node [(6, .done)])])])])]),(3, .node [(0, .node [(1, .node [(4, .node [(5, .node [(6, .done)])])]),(4, .node [(1, .node [(5, .node [(6, .done)])])])]),(4, .node [(0, .node [(1, .node [(5, .node [(6, .done)])])])])]),(4, .node [(0, .node [(1, .node [(3, .node [(5, .node [(6, .done)])]),(5, .node [(3, .node [(6, .done)])])]),(3, .node [(1, .node [(5, .node [(6, .done)])])])]),(3, .node [(0, .node [(1, .node [(5, .node [(6, .done)])])])])])]),(4, .node [(0, .node [(1, .node [(2, .node [(3, .node [(5, .node [(6, .done)])]),(5, .node [(3, .node [(6, .done)])])]),(5, .node [(2, .node [(3, .node [(6, .done)])])])]),(2, .node [(1, .node [(3, .node [(5, .node [(6, .done)])]),(5, .node [(3, .node [(6, .done)])])]),(3, .node [(1, .node [(5, .node [(6, .done)])])])])]),(2, .node [(0, .node [(1, .node [(3, .node [(5, .node [(6, .done)])]),(5, .node [(3, .node [(6, .done)])])]),(3, .node [(1, .node [(5, .node [(6, .done)])])])]),(3, .node [(0, .node [(1, .node [(5, .node [(6, .done)])])])])])])]
def cT:Tr:= .node [(0, .node [(1, .node [(2, .node [(3, .node [(4, .done)])])])]),(1, .node [(0, .node [(2, .node [(3, .node [(4, .done)])])]),(2, .node [(0, .node [(3, .node [(4, .done)])])])])]
theorem UL (p:List (Int×Int)):Fn Tryz.prog 91 [plA false p] (.bool false):=by
 refine Fn.intro [.tmp 2] Tryz.func91 rfl rfl (by decide) (by simp [Tryz.ntmps91]) ?_;rw [Tryz.ntmps91]
 repeat' (first|omega|(try apply aj);simp only [go_sem,sevalprocAttr]|apply ag<;>(intro h_;(try simp only [h_]);revert h_)|apply ah|apply ai|apply ae|apply And.intro|with_reducible intro h_|trivial|simp only [go_sem,ak];omega)
theorem Ja:Fn Tryz.prog 45 [I (-2), .ro 1 5 (.ints [-1,0,0,0,-1])] (plA false [(-2,-1),(2,-1)]):=by
 have h:=FV (-2) [-1,0,0,0,-1] (by decide) (by decide) (by decide);rw [show tmI (-2) [-1,0,0,0,-1]=[(-2,-1),(2,-1)] by decide] at h;exact h
theorem I9:Fn Tryz.prog 45 [I 0, .ro 1 1 (.ints [1])] (plA false [(0,1)]):=by
 have h:=FV 0 [1] (by decide) (by decide) (by decide);rw [show tmI 0 [1]=[(0,1)] by decide] at h;exact h
theorem Dw:bH [(0,1)] (dpw 0):=⟨⟨by decide,by decide⟩,fun e=>by
 simp only [cfL,dpw,Int.add_zero];by_cases h:e=0
 ·rw [if_pos h.symm,if_pos h]
 ·rw [if_neg (fun g=>h g.symm),if_neg h]⟩
theorem QI {q:List (Int×Int)} {j:Nat} (hj:j<=20) (h:bH q (dpw j)): ∃r,bH r (dpw (j+1))/\Fn Tryz.prog 16 [plA false q,plA false [(-2,-1),(2,-1)]] (plA false r):=by
 have hl:=Hk h;exact JA h (fun e he=>At (by omega) he) (fun e=>by have:=As hj e;omega) fun _=>by omega
theorem UK {m:List Int} {n:Nat} (hp:bd m n) (hn:n<=9) (jN:0<n) {L:Nat} (hL:L<=20) {q:List (Int×Int)} (hq:bH q (dpw L)):
  Fn Tryz.prog 16 [plA false (dJ (bA m n 0 1)),plA false q] (plA false (ld m n L)):=by
 have uo:bH (dJ (bA m n 0 1)) (bA m n 0 1):=sX fun e he=>tH hp hn (by omega) (Nat.le_refl _) he;have gM: ∀{r:List (Int×Int)},bH r (bA m n L 1)->r=ld m n L:=fun h=>h.eq fun e he=>tH hp hn hL (Nat.le_refl _) he;have hl:=Hk hq;by_cases jq:0<(dJ (bA m n 0 1)).length
 ·obtain ⟨r,h1,h2⟩:=Em uo hq (fun e he=>tH hp hn (by omega) (Nat.le_refl _) he) (fun e he=>At (by omega) he) (fun e=>by have:=El hp hn (L:=0) (by omega) (Nat.le_refl _) e;omega) (fun e=>by have:=As hL e;omega) (h:=bA m n L 1) (fun e=>by
   rw [GD,MD hp jN L e];exact qZ uo.cf L e) (fun e=>by have:=El hp hn hL (Nat.le_refl _) e;omega) jq (by omega) (by
   have a:=G6 uo.asc uo.cf (fun e he=>wI hp he);have a0:=a _ (lY (i:=0) jq);have a1:=a _ (lY (i:=(dJ (bA m n 0 1)).length-1) (by omega));have h2:=HB hp;have e1:aI (dJ (bA m n 0 1))=((dJ (bA m n 0 1)).getD 0 (0,0)).1:=rfl;have e2:fm (dJ (bA m n 0 1))=((dJ (bA m n 0 1)).getD ((dJ (bA m n 0 1)).length-1) (0,0)).1:=rfl;rw [←e1] at a0;rw [←e2] at a1
   generalize (dJ (bA m n 0 1)).length=x at*
   have:4*(1:Int)*(L+1)<=4*(x:Int)*q.length:=Int.mul_le_mul (by omega) (by omega) (by omega) (by omega)
   omega)
  rw [gM h1] at h2;exact h2
 ·have h0:dJ (bA m n 0 1)=[]:=List.length_eq_zero_iff.1 (by omega);have hz: ∀e,bA m n 0 1 e=0:=fun e=>by rw [←uo.cf,h0];rfl
  have:ld m n L=[]:=(gM (bH.nil.congr fun e=>by rw [MD hp jN L e,qZ hz L e,Ou])).symm
  rw [h0,this];exact MW q
theorem Vr {L:Nat} (hL:L<=20) {q:List (Int×Int)} (hq:bH q (dpw L)):Fn Tryz.prog 16 [plA false [(0,1)],plA false q] (plA false (ld [] 0 (L+1))):=by
 have hl:=Hk hq;obtain ⟨r,h1,h2⟩:=Em Dw hq (fun e he=>At (by omega) he) (fun e he=>At (by omega) he) (fun e=>by have:=As (j:=0) (by omega) e;omega) (fun e=>by have:=As hL e;omega) (h:=dpw L) (fun e=>by
  rw [GD]
  have: ∀e,cfL [(0,1)] e=dpw 0 e:=Dw.cf
  rw [qZ this L e];exact (qZ (fun x=>rfl) L e).trans (DR L e)) (fun e=>by have:=As hL e;omega) (by decide) (by omega) (by
  have e1:fm [((0:Int),(1:Int))]=0:=rfl;have e2:aI [((0:Int),(1:Int))]=0:=rfl;rw [e1,e2,show ([((0:Int),(1:Int))]:List (Int×Int)).length=1 from rfl];omega)
 have:r=ld [] 0 (L+1):=by
  unfold ld;rw [h1.eq (fun e he=>At (by omega) he)];congr 1;funext e;exact (Hj L e).symm
 rw [this] at h2;exact h2
theorem TI (s m:List Int) (L:Nat) (o:List Int) (hs:s.length<=9) (hL:L<=20) (hv:dm s m L=true) (xj:qh o s.length=true) (aw: ¬(s.length=0/\L=0)):Fn Tryz.prog 36 [dgA s m L,roI o] (.tup [plA false (ld m s.length L),I 0]):=by
 obtain ⟨mZ,cG⟩:=OX xj;have hW:=Vt s m L o (by omega) (by omega);have hp:=(jC hv).dd;have kg:=fA hv;have Fb:=A2 hp.ok hp.inv mZ cG o.length (by omega);unfold wO at hW;rw [if_pos hv,if_pos xj] at hW;generalize q9 m o o.length=wd at*;have bw:decide (20<wd)=false:=by rw [decide_eq_false_iff_not];omega
 have bL:decide (20<(L:Int))=false:=by rw [decide_eq_false_iff_not];omega
 have uI:=UL (ld m s.length L);have h1:=I9;have hd:=Ja;by_cases jN:s.length=0
 ·have b0:((s.length:Int)==0)=true:=by simpa using jN
  have xY:((L:Int)==0)=false:=by simp;omega
  refine Fn.au [.cell 4 29, .tmp 5] Tryz.func36 rfl rfl (by decide) (by simp [Tryz.ntmps36]) ?_;rw [Tryz.ntmps36]
  repeat' (first|omega|(try apply aj);simp only [go_sem,sevalprocAttr]|apply ag<;>(intro h_;(try simp only [h_]);revert h_)|apply ah|apply ai|apply ae|apply And.intro|with_reducible intro h_|trivial|simp only [go_sem,ak];omega)
  refine ⟨az.fn rfl hW ?_⟩
  repeat' (first|omega|(try apply aj);simp only [go_sem,sevalprocAttr,b0,xY,bw,bL]|apply ag<;>(intro h_;(try simp only [h_]);revert h_)|apply ah|apply ai|apply ae|apply And.intro|with_reducible intro h_|trivial|simp only [go_sem,ak];omega)
  refine an.cut [(9,I L),(8, .ptr 3 0),(4, .ptr 1 0),(2, .ptr 0 0),(1,roI o)] [(3, .cells 29 (.lst [.bool false,tmA [(0,1)]])),(1, .cells 29 (.lst [.bool false, .nils])),(0, .cells 24 (.lst [roI s,roI m,I L]))] ?_ ?_
  ·repeat' (first|omega|(first|apply aj|(refine an.ay (id:=8) (fI) (by decide+kernel) mixed ?_)|(refine an.intro (id:=8) [[43,44,8],[43,44,8],[41,42,8],[41,42,8],[41,42,43,44],[43,44],[]] [[],[],[0,1],[0,1],[0,1,2,3],[2,3],[]] (by decide+kernel) mixed ?_)|(refine an.ay (id:=18) (cT) (by decide+kernel) mixed ?_)|(refine an.intro (id:=18) [[67,68],[66],[66],[],[]] [[],[0],[0],[],[]] (by decide+kernel) mixed ?_)|(refine an.av (id:=18) (cT) (by decide+kernel) mixed ?_)|skip);simp only [go_sem,sevalprocAttr,b0,xY,bw,bL,↓reduceIte,reduceCtorEq,fI,cT]|apply ag<;>(intro h_;(try simp only [h_]);revert h_)|apply ah|apply ai|apply ae|apply And.intro|with_reducible intro h_|trivial|simp only [go_sem,ak];omega)
   all_goals first
    |(refine ⟨az.kB (ys:=[I 0, .ro 1 1 (.ints [1])]) [2] rfl ?_ ?_ ?_ ?_ rfl rfl rfl (az.fn rfl h1 ?_)⟩
      ·simp only [go_sem,sevalprocAttr,Nat.le_refl]
      ·simp only [go_sem,sevalprocAttr,Nat.le_refl]
      ·simp only [go_sem,sevalprocAttr,Nat.le_refl]
      ·simp only [go_sem,sevalprocAttr,Nat.le_refl])
    |(refine ⟨az.kB (ys:=[I 0, .ro 1 1 (.ints [1])]) [3] rfl ?_ ?_ ?_ ?_ rfl rfl rfl (az.fn rfl h1 ?_)⟩
      ·simp only [go_sem,sevalprocAttr,Nat.le_refl]
      ·simp only [go_sem,sevalprocAttr,Nat.le_refl]
      ·simp only [go_sem,sevalprocAttr,Nat.le_refl]
      ·simp only [go_sem,sevalprocAttr,Nat.le_refl])
   all_goals (repeat' (first|omega|(first|apply aj|(refine an.ay (id:=8) (fI) (by decide+kernel) mixed ?_)|(refine an.intro (id:=8) [[43,44,8],[43,44,8],[41,42,8],[41,42,8],[41,42,43,44],[43,44],[]] [[],[],[0,1],[0,1],[0,1,2,3],[2,3],[]] (by decide+kernel) mixed ?_)|(refine an.ay (id:=18) (cT) (by decide+kernel) mixed ?_)|(refine an.intro (id:=18) [[67,68],[66],[66],[],[]] [[],[0],[0],[],[]] (by decide+kernel) mixed ?_)|(refine an.av (id:=18) (cT) (by decide+kernel) mixed ?_)|skip);simp only [go_sem,sevalprocAttr,b0,xY,bw,bL,↓reduceIte,reduceCtorEq,fI,cT]|apply ag<;>(intro h_;(try simp only [h_]);revert h_)|apply ah|apply ai|apply ae|apply And.intro|with_reducible intro h_|trivial|simp only [go_sem,ak];omega))
   all_goals first
    |(refine Wk.sub ?_ ?_
      ·simp only [go_sem,sevalprocAttr]
      ·simp only [go_sem,sevalprocAttr,yav])
    |(refine Wk.tT (fr1:=[(9,I L),(8, .ptr 2 0),(4, .ptr 1 0),(2, .ptr 0 0),(1,roI o)]) (H1:=[(2, .cells 29 (.lst [.bool false,tmA [(0,1)]])),(1, .cells 29 (.lst [.bool false, .nils])),(0, .cells 24 (.lst [roI s,roI m,I L]))]) 2 3 rfl rfl rfl rfl ?_ ?_
      ·simp only [go_sem,sevalprocAttr]
      ·simp only [go_sem,sevalprocAttr,yav])
  obtain rfl:s=[]:=List.length_eq_zero_iff.1 jN;obtain rfl:m=[]:=List.length_eq_zero_iff.1 (by have:=hp.ok.1;simpa using this);obtain ⟨C,rfl⟩: ∃C,L=C+1:=⟨L-1,by simp at aw;omega⟩;have hC:(C:Int)+1-1=(C:Nat):=by omega
  repeat' (first|omega|(try apply aj);simp only [go_sem,sevalprocAttr,b0,hC]|apply ag<;>(intro h_;(try simp only [h_]);revert h_)|apply ah|apply ai|apply ae|apply And.intro|with_reducible intro h_|trivial|simp only [go_sem,ak];omega)
  refine ⟨az.kB [4] rfl (by simp only [go_sem,sevalprocAttr,Nat.le_refl]) (by simp only [go_sem,sevalprocAttr,Nat.le_refl]) (by simp only [go_sem,sevalprocAttr,Nat.le_refl]) (by simp only [go_sem,sevalprocAttr,Nat.le_refl]) rfl rfl rfl (az.fn rfl h1 ?_)⟩
  repeat' (first|omega|(try apply aj);simp only [go_sem,sevalprocAttr,b0,hC]|apply ag<;>(intro h_;(try simp only [h_]);revert h_)|apply ah|apply ai|apply ae|apply And.intro|with_reducible intro h_|trivial|simp only [go_sem,ak];omega)
  refine bN.intro (fun n' fr H=> ∃(j:Nat) (q:List (Int×Int)),j<=C/\bH q (dpw j)/\n'=C-j/\fr=[(64,I j),(63,I (C:Nat)),(12, .ptr 5 0),(8, .ptr 3 0),(4, .ptr 1 0)]/\
   H=[(5, .cells 29 (.lst [.bool false,tmA q])),(3, .cells 29 (.lst [.bool false,tmA [(0,1)]])),(1, .cells 29 (.lst [.bool false, .nils]))]) ?_ ?_
  ·refine ⟨_,_,_,Wk.sub ?_ ?_,0,[(0,1)],by omega,Dw,rfl,rfl,rfl⟩
   ·(simp only [go_sem,sevalprocAttr,hC])<;>rfl
   ·(simp only [go_sem,sevalprocAttr,yav])<;>rfl
  rintro n' fr H ⟨j,q,hj,hq,rfl,rfl,rfl⟩;by_cases gj:j<C
  ·have bj:decide ((j:Int)<(C:Nat))=true:=by simp;omega
   obtain ⟨r,hr,hm⟩:=QI (by omega) hq
   repeat' (first|omega|(first|apply aj|(refine an.ay (id:=8) (fI) (by decide+kernel) mixed ?_)|(refine an.intro (id:=8) [[43,44,8],[43,44,8],[41,42,8],[41,42,8],[41,42,43,44],[43,44],[]] [[],[],[0,1],[0,1],[0,1,2,3],[2,3],[]] (by decide+kernel) mixed ?_)|(refine an.ay (id:=18) (cT) (by decide+kernel) mixed ?_)|(refine an.intro (id:=18) [[67,68],[66],[66],[],[]] [[],[0],[0],[],[]] (by decide+kernel) mixed ?_)|(refine an.av (id:=18) (cT) (by decide+kernel) mixed ?_)|skip);simp only [go_sem,sevalprocAttr,bj,↓reduceIte,reduceCtorEq,fI,cT]|apply ag<;>(intro h_;(try simp only [h_]);revert h_)|apply ah|apply ai|apply ae|apply And.intro|with_reducible intro h_|trivial|simp only [go_sem,ak];omega)
   all_goals refine ⟨az.kB [6] rfl (by simp only [go_sem,sevalprocAttr,Nat.le_refl,ycu,yb9]) (by simp only [go_sem,sevalprocAttr,Nat.le_refl,ycu,yb9]) (by simp only [go_sem,sevalprocAttr,Nat.le_refl,ycu,yb9]) (by simp only [go_sem,sevalprocAttr,Nat.le_refl,ycu,yb9]) rfl rfl rfl (az.fn rfl hd ?_)⟩
   all_goals (repeat' (first|omega|(first|apply aj|(refine an.ay (id:=8) (fI) (by decide+kernel) mixed ?_)|(refine an.intro (id:=8) [[43,44,8],[43,44,8],[41,42,8],[41,42,8],[41,42,43,44],[43,44],[]] [[],[],[0,1],[0,1],[0,1,2,3],[2,3],[]] (by decide+kernel) mixed ?_)|(refine an.ay (id:=18) (cT) (by decide+kernel) mixed ?_)|(refine an.intro (id:=18) [[67,68],[66],[66],[],[]] [[],[0],[0],[],[]] (by decide+kernel) mixed ?_)|(refine an.av (id:=18) (cT) (by decide+kernel) mixed ?_)|skip);simp only [go_sem,sevalprocAttr,bj,↓reduceIte,reduceCtorEq,fI,cT]|apply ag<;>(intro h_;(try simp only [h_]);revert h_)|apply ah|apply ai|apply ae|apply And.intro|with_reducible intro h_|trivial|simp only [go_sem,ak];omega))
   all_goals refine ⟨az.fn rfl hm ?_⟩
   all_goals (repeat' (first|omega|(first|apply aj|(refine an.ay (id:=8) (fI) (by decide+kernel) mixed ?_)|(refine an.intro (id:=8) [[43,44,8],[43,44,8],[41,42,8],[41,42,8],[41,42,43,44],[43,44],[]] [[],[],[0,1],[0,1],[0,1,2,3],[2,3],[]] (by decide+kernel) mixed ?_)|(refine an.ay (id:=18) (cT) (by decide+kernel) mixed ?_)|(refine an.intro (id:=18) [[67,68],[66],[66],[],[]] [[],[0],[0],[],[]] (by decide+kernel) mixed ?_)|(refine an.av (id:=18) (cT) (by decide+kernel) mixed ?_)|skip);simp only [go_sem,sevalprocAttr,bj,↓reduceIte,reduceCtorEq,fI,cT]|apply ag<;>(intro h_;(try simp only [h_]);revert h_)|apply ah|apply ai|apply ae|apply And.intro|with_reducible intro h_|trivial|simp only [go_sem,ak];omega))
   all_goals (
    refine ⟨_,_,_,?_,Wk.sub ?_ ?_,j+1,r,by omega,hr,rfl,rfl,rfl⟩
    ·omega
    ·simp only [go_sem,sevalprocAttr]
    ·(simp only [go_sem,sevalprocAttr,yav])<;>rfl)
  ·obtain rfl:C=j:=by omega
   have bj:decide (((C:Nat):Int)<(C:Nat))=false:=by simp
   have hl:=Vr (by omega) hq
   repeat' (first|omega|(first|apply aj|(refine an.ay (id:=8) (fI) (by decide+kernel) mixed ?_)|(refine an.intro (id:=8) [[43,44,8],[43,44,8],[41,42,8],[41,42,8],[41,42,43,44],[43,44],[]] [[],[],[0,1],[0,1],[0,1,2,3],[2,3],[]] (by decide+kernel) mixed ?_)|(refine an.ay (id:=18) (cT) (by decide+kernel) mixed ?_)|(refine an.intro (id:=18) [[67,68],[66],[66],[],[]] [[],[0],[0],[],[]] (by decide+kernel) mixed ?_)|(refine an.av (id:=18) (cT) (by decide+kernel) mixed ?_)|skip);simp only [go_sem,sevalprocAttr,bj,↓reduceIte,reduceCtorEq,fI,cT]|apply ag<;>(intro h_;(try simp only [h_]);revert h_)|apply ah|apply ai|apply ae|apply And.intro|with_reducible intro h_|trivial|simp only [go_sem,ak];omega)
   all_goals refine ⟨az.fn rfl hl ?_⟩
   all_goals (repeat' (first|omega|(first|apply aj|(refine an.ay (id:=8) (fI) (by decide+kernel) mixed ?_)|(refine an.intro (id:=8) [[43,44,8],[43,44,8],[41,42,8],[41,42,8],[41,42,43,44],[43,44],[]] [[],[],[0,1],[0,1],[0,1,2,3],[2,3],[]] (by decide+kernel) mixed ?_)|(refine an.ay (id:=18) (cT) (by decide+kernel) mixed ?_)|(refine an.intro (id:=18) [[67,68],[66],[66],[],[]] [[],[0],[0],[],[]] (by decide+kernel) mixed ?_)|(refine an.av (id:=18) (cT) (by decide+kernel) mixed ?_)|skip);simp only [go_sem,sevalprocAttr,bj,↓reduceIte,reduceCtorEq,fI,cT]|apply ag<;>(intro h_;(try simp only [h_]);revert h_)|apply ah|apply ai|apply ae|apply And.intro|with_reducible intro h_|trivial|simp only [go_sem,ak];omega))
   all_goals refine ⟨az.fn rfl uI ?_⟩
   all_goals (repeat' (first|omega|(first|apply aj|(refine an.ay (id:=8) (fI) (by decide+kernel) mixed ?_)|(refine an.intro (id:=8) [[43,44,8],[43,44,8],[41,42,8],[41,42,8],[41,42,43,44],[43,44],[]] [[],[],[0,1],[0,1],[0,1,2,3],[2,3],[]] (by decide+kernel) mixed ?_)|(refine an.ay (id:=18) (cT) (by decide+kernel) mixed ?_)|(refine an.intro (id:=18) [[67,68],[66],[66],[],[]] [[],[0],[0],[],[]] (by decide+kernel) mixed ?_)|(refine an.av (id:=18) (cT) (by decide+kernel) mixed ?_)|skip);simp only [go_sem,sevalprocAttr,bj,↓reduceIte,reduceCtorEq,fI,cT]|apply ag<;>(intro h_;(try simp only [h_]);revert h_)|apply ah|apply ai|apply ae|apply And.intro|with_reducible intro h_|trivial|simp only [go_sem,ak];omega))
   all_goals exact aM.refl _
 ·have b0:((s.length:Int)==0)=false:=by simpa using jN
  have xY:True:=trivial;refine Fn.au [.cell 4 29, .tmp 5] Tryz.func36 rfl rfl (by decide) (by simp [Tryz.ntmps36]) ?_;rw [Tryz.ntmps36]
  repeat' (first|omega|(try apply aj);simp only [go_sem,sevalprocAttr]|apply ag<;>(intro h_;(try simp only [h_]);revert h_)|apply ah|apply ai|apply ae|apply And.intro|with_reducible intro h_|trivial|simp only [go_sem,ak];omega)
  refine ⟨az.fn rfl hW ?_⟩
  repeat' (first|omega|(try apply aj);simp only [go_sem,sevalprocAttr,b0,xY,bw,bL]|apply ag<;>(intro h_;(try simp only [h_]);revert h_)|apply ah|apply ai|apply ae|apply And.intro|with_reducible intro h_|trivial|simp only [go_sem,ak];omega)
  refine an.cut [(9,I L),(8, .ptr 3 0),(4, .ptr 1 0),(2, .ptr 0 0),(1,roI o)] [(3, .cells 29 (.lst [.bool false,tmA [(0,1)]])),(1, .cells 29 (.lst [.bool false, .nils])),(0, .cells 24 (.lst [roI s,roI m,I L]))] ?_ ?_
  ·repeat' (first|omega|(first|apply aj|(refine an.ay (id:=8) (fI) (by decide+kernel) mixed ?_)|(refine an.intro (id:=8) [[43,44,8],[43,44,8],[41,42,8],[41,42,8],[41,42,43,44],[43,44],[]] [[],[],[0,1],[0,1],[0,1,2,3],[2,3],[]] (by decide+kernel) mixed ?_)|(refine an.ay (id:=18) (cT) (by decide+kernel) mixed ?_)|(refine an.intro (id:=18) [[67,68],[66],[66],[],[]] [[],[0],[0],[],[]] (by decide+kernel) mixed ?_)|(refine an.av (id:=18) (cT) (by decide+kernel) mixed ?_)|skip);simp only [go_sem,sevalprocAttr,b0,xY,bw,bL,↓reduceIte,reduceCtorEq,fI,cT]|apply ag<;>(intro h_;(try simp only [h_]);revert h_)|apply ah|apply ai|apply ae|apply And.intro|with_reducible intro h_|trivial|simp only [go_sem,ak];omega)
   all_goals first
    |(refine ⟨az.kB (ys:=[I 0, .ro 1 1 (.ints [1])]) [2] rfl ?_ ?_ ?_ ?_ rfl rfl rfl (az.fn rfl h1 ?_)⟩
      ·simp only [go_sem,sevalprocAttr,Nat.le_refl]
      ·simp only [go_sem,sevalprocAttr,Nat.le_refl]
      ·simp only [go_sem,sevalprocAttr,Nat.le_refl]
      ·simp only [go_sem,sevalprocAttr,Nat.le_refl])
    |(refine ⟨az.kB (ys:=[I 0, .ro 1 1 (.ints [1])]) [3] rfl ?_ ?_ ?_ ?_ rfl rfl rfl (az.fn rfl h1 ?_)⟩
      ·simp only [go_sem,sevalprocAttr,Nat.le_refl]
      ·simp only [go_sem,sevalprocAttr,Nat.le_refl]
      ·simp only [go_sem,sevalprocAttr,Nat.le_refl]
      ·simp only [go_sem,sevalprocAttr,Nat.le_refl])
   all_goals (repeat' (first|omega|(first|apply aj|(refine an.ay (id:=8) (fI) (by decide+kernel) mixed ?_)|(refine an.intro (id:=8) [[43,44,8],[43,44,8],[41,42,8],[41,42,8],[41,42,43,44],[43,44],[]] [[],[],[0,1],[0,1],[0,1,2,3],[2,3],[]] (by decide+kernel) mixed ?_)|(refine an.ay (id:=18) (cT) (by decide+kernel) mixed ?_)|(refine an.intro (id:=18) [[67,68],[66],[66],[],[]] [[],[0],[0],[],[]] (by decide+kernel) mixed ?_)|(refine an.av (id:=18) (cT) (by decide+kernel) mixed ?_)|skip);simp only [go_sem,sevalprocAttr,b0,xY,bw,bL,↓reduceIte,reduceCtorEq,fI,cT]|apply ag<;>(intro h_;(try simp only [h_]);revert h_)|apply ah|apply ai|apply ae|apply And.intro|with_reducible intro h_|trivial|simp only [go_sem,ak];omega))
   all_goals first
    |(refine Wk.sub ?_ ?_
      ·simp only [go_sem,sevalprocAttr]
      ·simp only [go_sem,sevalprocAttr,yav])
    |(refine Wk.tT (fr1:=[(9,I L),(8, .ptr 2 0),(4, .ptr 1 0),(2, .ptr 0 0),(1,roI o)]) (H1:=[(2, .cells 29 (.lst [.bool false,tmA [(0,1)]])),(1, .cells 29 (.lst [.bool false, .nils])),(0, .cells 24 (.lst [roI s,roI m,I L]))]) 2 3 rfl rfl rfl rfl ?_ ?_
      ·simp only [go_sem,sevalprocAttr]
      ·simp only [go_sem,sevalprocAttr,yav])
  have CM:(o.map Int.toNat).map (Nat.cast:Nat->Int)=o:=by
   rw [List.map_map]
   conv=>rhs;rw [←List.map_id o]
   exact List.map_congr_left fun x hx=>by
    have:=mZ.rg x hx
    simp only [Function.comp,id];omega
  have hnd:(o.map Int.toNat).Nodup:=by
   rw [List.nodup_iff_pairwise_ne,List.pairwise_map];refine List.Pairwise.imp_of_mem (fun {a b} ha hb aw e=>aw ?_) (List.nodup_iff_pairwise_ne.1 mZ.nd);have h1:=mZ.rg a ha;have h2:=mZ.rg b hb;omega
  have fN:=Vu s m L kg hnd (by rw [List.length_map,cG]) (fun c hc=>by
   obtain ⟨x,hx,rfl⟩:=List.mem_map.1 hc
   have:=mZ.rg x hx
   omega) (by omega) (by omega)
  rw [CM] at fN
  repeat' (first|omega|(try apply aj);simp only [go_sem,sevalprocAttr,b0]|apply ag<;>(intro h_;(try simp only [h_]);revert h_)|apply ah|apply ai|apply ae|apply And.intro|with_reducible intro h_|trivial|simp only [go_sem,ak];omega)
  refine ⟨az.fn rfl fN ?_⟩
  repeat' (first|omega|(try apply aj);simp only [go_sem,sevalprocAttr,b0]|apply ag<;>(intro h_;(try simp only [h_]);revert h_)|apply ah|apply ai|apply ae|apply And.intro|with_reducible intro h_|trivial|simp only [go_sem,ak];omega)
  refine ⟨az.kB [5] rfl (by simp only [go_sem,sevalprocAttr,Nat.le_refl,ycu,yb9]) (by simp only [go_sem,sevalprocAttr,Nat.le_refl,ycu,yb9]) (by simp only [go_sem,sevalprocAttr,Nat.le_refl,ycu,yb9]) (by simp only [go_sem,sevalprocAttr,Nat.le_refl,ycu,yb9]) rfl rfl rfl (az.fn rfl h1 ?_)⟩
  repeat' (first|omega|(try apply aj);simp only [go_sem,sevalprocAttr,b0]|apply ag<;>(intro h_;(try simp only [h_]);revert h_)|apply ah|apply ai|apply ae|apply And.intro|with_reducible intro h_|trivial|simp only [go_sem,ak];omega)
  refine bN.intro (fun n' fr H=> ∃(j:Nat) (q:List (Int×Int)),j<=L/\bH q (dpw j)/\n'=L-j/\fr=[(64,I j),(63,I (L:Nat)),(12, .ptr 6 0),(8, .ptr 3 0),(4, .ptr 1 0)]/\
   H=[(6, .cells 29 (.lst [.bool false,tmA q])),(3, .cells 29 (.lst [.bool false,tmA (dJ (bA m s.length 0 1))])),(1, .cells 29 (.lst [.bool false, .nils]))]) ?_ ?_
  ·refine ⟨_,_,_,Wk.sub ?_ ?_,0,[(0,1)],by omega,Dw,rfl,rfl,rfl⟩
   ·(simp only [go_sem,sevalprocAttr,cG])<;>rfl
   ·(simp only [go_sem,sevalprocAttr,yav])<;>rfl
  rintro n' fr H ⟨j,q,hj,hq,rfl,rfl,rfl⟩;by_cases gj:j<L
  ·have bj:decide ((j:Int)<(L:Nat))=true:=by simp;omega
   obtain ⟨r,hr,hm⟩:=QI (by omega) hq
   repeat' (first|omega|(first|apply aj|(refine an.ay (id:=8) (fI) (by decide+kernel) mixed ?_)|(refine an.intro (id:=8) [[43,44,8],[43,44,8],[41,42,8],[41,42,8],[41,42,43,44],[43,44],[]] [[],[],[0,1],[0,1],[0,1,2,3],[2,3],[]] (by decide+kernel) mixed ?_)|(refine an.ay (id:=18) (cT) (by decide+kernel) mixed ?_)|(refine an.intro (id:=18) [[67,68],[66],[66],[],[]] [[],[0],[0],[],[]] (by decide+kernel) mixed ?_)|(refine an.av (id:=18) (cT) (by decide+kernel) mixed ?_)|skip);simp only [go_sem,sevalprocAttr,bj,↓reduceIte,reduceCtorEq,fI,cT]|apply ag<;>(intro h_;(try simp only [h_]);revert h_)|apply ah|apply ai|apply ae|apply And.intro|with_reducible intro h_|trivial|simp only [go_sem,ak];omega)
   all_goals refine ⟨az.kB [7] rfl (by simp only [go_sem,sevalprocAttr,Nat.le_refl,ycu,yb9]) (by simp only [go_sem,sevalprocAttr,Nat.le_refl,ycu,yb9]) (by simp only [go_sem,sevalprocAttr,Nat.le_refl,ycu,yb9]) (by simp only [go_sem,sevalprocAttr,Nat.le_refl,ycu,yb9]) rfl rfl rfl (az.fn rfl hd ?_)⟩
   all_goals (repeat' (first|omega|(first|apply aj|(refine an.ay (id:=8) (fI) (by decide+kernel) mixed ?_)|(refine an.intro (id:=8) [[43,44,8],[43,44,8],[41,42,8],[41,42,8],[41,42,43,44],[43,44],[]] [[],[],[0,1],[0,1],[0,1,2,3],[2,3],[]] (by decide+kernel) mixed ?_)|(refine an.ay (id:=18) (cT) (by decide+kernel) mixed ?_)|(refine an.intro (id:=18) [[67,68],[66],[66],[],[]] [[],[0],[0],[],[]] (by decide+kernel) mixed ?_)|(refine an.av (id:=18) (cT) (by decide+kernel) mixed ?_)|skip);simp only [go_sem,sevalprocAttr,bj,↓reduceIte,reduceCtorEq,fI,cT]|apply ag<;>(intro h_;(try simp only [h_]);revert h_)|apply ah|apply ai|apply ae|apply And.intro|with_reducible intro h_|trivial|simp only [go_sem,ak];omega))
   all_goals refine ⟨az.fn rfl hm ?_⟩
   all_goals (repeat' (first|omega|(first|apply aj|(refine an.ay (id:=8) (fI) (by decide+kernel) mixed ?_)|(refine an.intro (id:=8) [[43,44,8],[43,44,8],[41,42,8],[41,42,8],[41,42,43,44],[43,44],[]] [[],[],[0,1],[0,1],[0,1,2,3],[2,3],[]] (by decide+kernel) mixed ?_)|(refine an.ay (id:=18) (cT) (by decide+kernel) mixed ?_)|(refine an.intro (id:=18) [[67,68],[66],[66],[],[]] [[],[0],[0],[],[]] (by decide+kernel) mixed ?_)|(refine an.av (id:=18) (cT) (by decide+kernel) mixed ?_)|skip);simp only [go_sem,sevalprocAttr,bj,↓reduceIte,reduceCtorEq,fI,cT]|apply ag<;>(intro h_;(try simp only [h_]);revert h_)|apply ah|apply ai|apply ae|apply And.intro|with_reducible intro h_|trivial|simp only [go_sem,ak];omega))
   all_goals (
    refine ⟨_,_,_,?_,Wk.sub ?_ ?_,j+1,r,by omega,hr,rfl,rfl,rfl⟩
    ·omega
    ·simp only [go_sem,sevalprocAttr]
    ·(simp only [go_sem,sevalprocAttr,yav])<;>rfl)
  ·obtain rfl:L=j:=by omega
   have bj:decide (((L:Nat):Int)<(L:Nat))=false:=by simp
   have hl:=UK kg hs (by omega) hL hq
   repeat' (first|omega|(first|apply aj|(refine an.ay (id:=8) (fI) (by decide+kernel) mixed ?_)|(refine an.intro (id:=8) [[43,44,8],[43,44,8],[41,42,8],[41,42,8],[41,42,43,44],[43,44],[]] [[],[],[0,1],[0,1],[0,1,2,3],[2,3],[]] (by decide+kernel) mixed ?_)|(refine an.ay (id:=18) (cT) (by decide+kernel) mixed ?_)|(refine an.intro (id:=18) [[67,68],[66],[66],[],[]] [[],[0],[0],[],[]] (by decide+kernel) mixed ?_)|(refine an.av (id:=18) (cT) (by decide+kernel) mixed ?_)|skip);simp only [go_sem,sevalprocAttr,bj,↓reduceIte,reduceCtorEq,fI,cT]|apply ag<;>(intro h_;(try simp only [h_]);revert h_)|apply ah|apply ai|apply ae|apply And.intro|with_reducible intro h_|trivial|simp only [go_sem,ak];omega)
   all_goals refine ⟨az.fn rfl hl ?_⟩
   all_goals (repeat' (first|omega|(first|apply aj|(refine an.ay (id:=8) (fI) (by decide+kernel) mixed ?_)|(refine an.intro (id:=8) [[43,44,8],[43,44,8],[41,42,8],[41,42,8],[41,42,43,44],[43,44],[]] [[],[],[0,1],[0,1],[0,1,2,3],[2,3],[]] (by decide+kernel) mixed ?_)|(refine an.ay (id:=18) (cT) (by decide+kernel) mixed ?_)|(refine an.intro (id:=18) [[67,68],[66],[66],[],[]] [[],[0],[0],[],[]] (by decide+kernel) mixed ?_)|(refine an.av (id:=18) (cT) (by decide+kernel) mixed ?_)|skip);simp only [go_sem,sevalprocAttr,bj,↓reduceIte,reduceCtorEq,fI,cT]|apply ag<;>(intro h_;(try simp only [h_]);revert h_)|apply ah|apply ai|apply ae|apply And.intro|with_reducible intro h_|trivial|simp only [go_sem,ak];omega))
   all_goals refine ⟨az.fn rfl uI ?_⟩
   all_goals (repeat' (first|omega|(first|apply aj|(refine an.ay (id:=8) (fI) (by decide+kernel) mixed ?_)|(refine an.intro (id:=8) [[43,44,8],[43,44,8],[41,42,8],[41,42,8],[41,42,43,44],[43,44],[]] [[],[],[0,1],[0,1],[0,1,2,3],[2,3],[]] (by decide+kernel) mixed ?_)|(refine an.ay (id:=18) (cT) (by decide+kernel) mixed ?_)|(refine an.intro (id:=18) [[67,68],[66],[66],[],[]] [[],[0],[0],[],[]] (by decide+kernel) mixed ?_)|(refine an.av (id:=18) (cT) (by decide+kernel) mixed ?_)|skip);simp only [go_sem,sevalprocAttr,bj,↓reduceIte,reduceCtorEq,fI,cT]|apply ag<;>(intro h_;(try simp only [h_]);revert h_)|apply ah|apply ai|apply ae|apply And.intro|with_reducible intro h_|trivial|simp only [go_sem,ak];omega))
   all_goals exact aM.refl _
end Go.Proofs.YtphjphpmfflfpaaGreatDoor
