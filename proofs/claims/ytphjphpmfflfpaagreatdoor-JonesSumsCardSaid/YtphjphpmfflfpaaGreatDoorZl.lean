/- Layer 17: the bracket along an order is the bracket, at most 9 crossings and 20 loops. -/
import Derived.Test.YtphjphpmfflfpaaGreatDoorZj
import Derived.Test.YtphjphpmfflfpaaGreatDoorZk
import Derived.Test.YtphjphpmfflfpaaGreatDoorZb
namespace Go.Proofs.YtphjphpmfflfpaaGreatDoor
open Go Go.RowKit
set_option maxRecDepth 100000
set_option maxHeartbeats 8000000
set_option linter.unusedVariables false
set_option linter.unusedSimpArgs false
def gH:Tr:= .node [(0, .node [(1, .node [(2, .node [(3, .node [(4, .node [(5, .node [(6, .done)])])]),(4, .node [(3, .node [(5, .node [(6, .done)])]),(5, .node [(3, .node [(6, .done)])])])]),(4, .node [(2, .node [(3, .node [(5, .node [(6, .done)])]),(5, .node [(3, .node [(6, .done)])])]),(5, .node [(2, .node [(3, .node [(6, .done)])])])])]),(2, .node [(1, .node [(3, .node [(4, .node [(5, .node [(6, .done)])])]),(4, .node [(3, .node [(5, .node [(6, .done)])]),(5, .node [(3, .node [(6, .done)])])])]),(3, .node [(1, .node [(4, .node [(5, .node [(6, .done)])])]),(4, .node [(1, .node [(5, .node [(6, .done)])])])]),(4, .node [(1, .node [(3, .node [(5, .node [(6, .done)])]),(5, .node [(3, .node [(6, .done)])])]),(3, .node [(1, .node [(5, .node [(6, .done)])])])])]),(4, .node [(1, .node [(2, .node [(3, .node [(5, .node [(6, .done)])]),(5, .node [(3, .node [(6, .done)])])]),(5, .node [(2, .node [(3, .node [(6, .done)])])])]),(2, .node [(1, .node [(3, .node [(5, .node [(6, .done)])]),(5, .node [(3, .node [(6, .done)])])]),(3, .node [(1, .node [(5, .node [(6, .done)])])])])])]),(2, .node [(0, .node [(1, .node [(3, .node [(4, .node [(5, .node [(6, .done)])])]),(4, .node [(3, .node [(5, .node [(6, .done)])]),(5, .node [(3, .node [(6, .done)])])])]),(3, .node [(1, .node [(4, .node [(5, .node [(6, .done)])])]),(4, .node [(1, .node [(5, .node [(6, .done)])])])]),(4, .node [(1, .node [(3, .node [(5, .node [(6, .done)])]),(5, .node [(3, .node [(6, .done)])])]),(3, .node [(1, .node [(5, .node [(6, .done)])])])])]),(3, .node [(0, .node [(1, .node [(4, .node [(5, .node [(6, .done)])])]),(4, .node [(1, .node [(5, .node [(6, .done)])])])]),(4, .node [(0, .node [(1, .node [(5, .node [(6, .done)])])])])]),(4, .node [(0, .node [(1, .node [(3, .node [(5, .node [(6, .done)])]),(5, .node [(3, .node [(6, .done)])])]),(3, .node [(1, .node [(5, .node [(6, .done)])])])]),(3, .node [(0, .node [(1, .node [(5, .node [(6, .done)])])])])])]),(4, .node [(0, .node [(1, .node [(2, .node [(3, .node [(5, .node [(6, .done)])]),(5, .node [(3, .node [(6, .done)])])]),(5, .node [(2, .node [(3, .node [(6, .done)])])])]),(2, .node [(1, .node [(3, .node [(5, .node [(6, .done)])]),(5, .node [(3, .node [(6, .done)])])]),(3, .node [(1, .node [(5, .node [(6, .done)])])])])]),(2, .node [(0, .node [(1, .node [(3, .node [(5, .node [(6, .done)])]),(5, .node [(3, .node [(6, .done)])])]),(3, .node [(1, .node [(5, .node [(6, .done)])])])]),(3, .node [(0, .node [(1, .node [(5, .node [(6, .done)])])])])])])]
def dM:Tr:= .node [(0, .node [(1, .node [(2, .node [(3, .node [(4, .done)])])])]),(1, .node [(0, .node [(2, .node [(3, .node [(4, .done)])])]),(2, .node [(0, .node [(3, .node [(4, .done)])])])])]
theorem Ni (p:List (Int×Int)):Fn Tryz.prog 91 [plA false p] (.bool false):=by
 refine Fn.intro [.tmp 2] Tryz.func91 rfl rfl (by decide) (by simp [Tryz.ntmps91]) ?_;rw [Tryz.ntmps91]
 repeat' (first|omega|(try apply ag);simp only [go_sem,sevalprocAttr]|apply ah<;>(intro h_;(try simp only [h_]);revert h_)|apply ai|apply aj|apply ae|apply And.intro|with_reducible intro h_|trivial|simp only [go_sem,ak];omega)
theorem Me:Fn Tryz.prog 45 [I (-2), .ro 1 5 (.ints [-1,0,0,0,-1])] (plA false [(-2,-1),(2,-1)]):=by
 have h:=OS (-2) [-1,0,0,0,-1] (by decide) (by decide) (by decide);rw [show tmI (-2) [-1,0,0,0,-1]=[(-2,-1),(2,-1)] by decide] at h;exact h
theorem Md:Fn Tryz.prog 45 [I 0, .ro 1 1 (.ints [1])] (plA false [(0,1)]):=by
 have h:=OS 0 [1] (by decide) (by decide) (by decide);rw [show tmI 0 [1]=[(0,1)] by decide] at h;exact h
theorem Gs:bZ [(0,1)] (dpw 0):=⟨⟨by decide,by decide⟩,fun e=>by
 simp only [cfL,dpw,Int.add_zero];by_cases h:e=0
 ·rw [if_pos h.symm,if_pos h]
 ·rw [if_neg (fun g=>h g.symm),if_neg h]⟩
theorem U3 {q:List (Int×Int)} {j:Nat} (hj:j<=20) (h:bZ q (dpw j)): ∃r,bZ r (dpw (j+1))/\Fn Tryz.prog 16 [plA false q,plA false [(-2,-1),(2,-1)]] (plA false r):=by
 have hl:=KF h;exact U8 h (fun e he=>C2 (by omega) he) (fun e=>by have:=C1 hj e;omega) fun _=>by omega
theorem Nh {m:List Int} {n:Nat} (hp:aE m n) (hn:n<=9) (jM:0<n) {L:Nat} (hL:L<=20) {q:List (Int×Int)} (hq:bZ q (dpw L)):
  Fn Tryz.prog 16 [plA false (dN (aU m n 0 1)),plA false q] (plA false (gP m n L)):=by
 have wF:bZ (dN (aU m n 0 1)) (aU m n 0 1):=pH fun e he=>oW hp hn (by omega) (Nat.le_refl _) he;have iP: ∀{r:List (Int×Int)},bZ r (aU m n L 1)->r=gP m n L:=fun h=>h.eq fun e he=>oW hp hn hL (Nat.le_refl _) he;have hl:=KF hq;by_cases lf:0<(dN (aU m n 0 1)).length
 ·obtain ⟨r,h1,h2⟩:=Gw wF hq (fun e he=>oW hp hn (by omega) (Nat.le_refl _) he) (fun e he=>C2 (by omega) he) (fun e=>by have:=zm hp hn (L:=0) (by omega) (Nat.le_refl _) e;omega) (fun e=>by have:=C1 hL e;omega) (h:=aU m n L 1) (fun e=>by
   rw [JX,Wa hp jM L e];exact tc wF.cf L e) (fun e=>by have:=zm hp hn hL (Nat.le_refl _) e;omega) lf (by omega) (by
   have a:=GJ wF.asc wF.cf (fun e he=>uZ hp he);have a0:=a _ (jW (i:=0) lf);have a1:=a _ (jW (i:=(dN (aU m n 0 1)).length-1) (by omega));have h2:=Hf hp;have e1:aS (dN (aU m n 0 1))=((dN (aU m n 0 1)).getD 0 (0,0)).1:=rfl;have e2:fv (dN (aU m n 0 1))=((dN (aU m n 0 1)).getD ((dN (aU m n 0 1)).length-1) (0,0)).1:=rfl;rw [←e1] at a0;rw [←e2] at a1
   generalize (dN (aU m n 0 1)).length=x at*
   have:4*(1:Int)*(L+1)<=4*(x:Int)*q.length:=Int.mul_le_mul (by omega) (by omega) (by omega) (by omega)
   omega)
  rw [iP h1] at h2;exact h2
 ·have h0:dN (aU m n 0 1)=[]:=List.length_eq_zero_iff.1 (by omega);have hz: ∀e,aU m n 0 1 e=0:=fun e=>by rw [←wF.cf,h0];rfl
  have:gP m n L=[]:=(iP (bZ.nil.congr fun e=>by rw [Wa hp jM L e,tc hz L e,Sa])).symm
  rw [h0,this];exact Q8 q
theorem Zy {L:Nat} (hL:L<=20) {q:List (Int×Int)} (hq:bZ q (dpw L)):Fn Tryz.prog 16 [plA false [(0,1)],plA false q] (plA false (gP [] 0 (L+1))):=by
 have hl:=KF hq;obtain ⟨r,h1,h2⟩:=Gw Gs hq (fun e he=>C2 (by omega) he) (fun e he=>C2 (by omega) he) (fun e=>by have:=C1 (j:=0) (by omega) e;omega) (fun e=>by have:=C1 hL e;omega) (h:=dpw L) (fun e=>by
  rw [JX]
  have: ∀e,cfL [(0,1)] e=dpw 0 e:=Gs.cf
  rw [tc this L e];exact (tc (fun x=>rfl) L e).trans (Gz L e)) (fun e=>by have:=C1 hL e;omega) (by decide) (by omega) (by
  have e1:fv [((0:Int),(1:Int))]=0:=rfl;have e2:aS [((0:Int),(1:Int))]=0:=rfl;rw [e1,e2,show ([((0:Int),(1:Int))]:List (Int×Int)).length=1 from rfl];omega)
 have:r=gP [] 0 (L+1):=by
  unfold gP;rw [h1.eq (fun e he=>C2 (by omega) he)];congr 1;funext e;exact (Sm L e).symm
 rw [this] at h2;exact h2
theorem Ue (s m:List Int) (L:Nat) (o:List Int) (hs:s.length<=9) (hL:L<=20) (hv:bF s m L=true) (zY:rf o s.length=true) (az: ¬(s.length=0/\L=0)):Fn Tryz.prog 36 [dgA s m L,roI o] (.tup [plA false (gP m s.length L),I 0]):=by
 obtain ⟨oF,dd⟩:=S0 zY;have hW:=ZA s m L o (by omega) (by omega);have hp:=(cK hv).prd;have gn:=bP hv;have Ih:=DE hp.ok hp.inv oF dd o.length (by omega);unfold zw at hW;rw [if_pos hv,if_pos zY] at hW;generalize tf m o o.length=wd at*;have bw:decide (20<wd)=false:=by rw [decide_eq_false_iff_not];omega
 have bL:decide (20<(L:Int))=false:=by rw [decide_eq_false_iff_not];omega
 have wV:=Ni (gP m s.length L);have h1:=Md;have hd:=Me;by_cases jM:s.length=0
 ·have b0:((s.length:Int)==0)=true:=by simpa using jM
  have AL:((L:Int)==0)=false:=by simp;omega
  refine Fn.aq [.cell 4 29, .tmp 5] Tryz.func36 rfl rfl (by decide) (by simp [Tryz.ntmps36]) ?_;rw [Tryz.ntmps36]
  repeat' (first|omega|(try apply ag);simp only [go_sem,sevalprocAttr]|apply ah<;>(intro h_;(try simp only [h_]);revert h_)|apply ai|apply aj|apply ae|apply And.intro|with_reducible intro h_|trivial|simp only [go_sem,ak];omega)
  refine ⟨aA.fn rfl hW ?_⟩
  repeat' (first|omega|(try apply ag);simp only [go_sem,sevalprocAttr,b0,AL,bw,bL]|apply ah<;>(intro h_;(try simp only [h_]);revert h_)|apply ai|apply aj|apply ae|apply And.intro|with_reducible intro h_|trivial|simp only [go_sem,ak];omega)
  refine an.cut [(9,I L),(8, .ptr 3 0),(4, .ptr 1 0),(2, .ptr 0 0),(1,roI o)] [(3, .cells 29 (.lst [.bool false,tmA [(0,1)]])),(1, .cells 29 (.lst [.bool false, .nils])),(0, .cells 24 (.lst [roI s,roI m,I L]))] ?_ ?_
  ·repeat' (first|omega|(first|apply ag|(refine an.aD (id:=8) (gH) (by decide+kernel) mixed ?_)|(refine an.intro (id:=8) [[43,44,8],[43,44,8],[41,42,8],[41,42,8],[41,42,43,44],[43,44],[]] [[],[],[0,1],[0,1],[0,1,2,3],[2,3],[]] (by decide+kernel) mixed ?_)|(refine an.aD (id:=18) (dM) (by decide+kernel) mixed ?_)|(refine an.intro (id:=18) [[67,68],[66],[66],[],[]] [[],[0],[0],[],[]] (by decide+kernel) mixed ?_)|(refine an.aB (id:=18) (dM) (by decide+kernel) mixed ?_)|skip);simp only [go_sem,sevalprocAttr,b0,AL,bw,bL,↓reduceIte,reduceCtorEq,gH,dM]|apply ah<;>(intro h_;(try simp only [h_]);revert h_)|apply ai|apply aj|apply ae|apply And.intro|with_reducible intro h_|trivial|simp only [go_sem,ak];omega)
   all_goals first
    |(refine ⟨aA.ln (ys:=[I 0, .ro 1 1 (.ints [1])]) [2] rfl ?_ ?_ ?_ ?_ rfl rfl rfl (aA.fn rfl h1 ?_)⟩
      ·simp only [go_sem,sevalprocAttr,Nat.le_refl]
      ·simp only [go_sem,sevalprocAttr,Nat.le_refl]
      ·simp only [go_sem,sevalprocAttr,Nat.le_refl]
      ·simp only [go_sem,sevalprocAttr,Nat.le_refl])
    |(refine ⟨aA.ln (ys:=[I 0, .ro 1 1 (.ints [1])]) [3] rfl ?_ ?_ ?_ ?_ rfl rfl rfl (aA.fn rfl h1 ?_)⟩
      ·simp only [go_sem,sevalprocAttr,Nat.le_refl]
      ·simp only [go_sem,sevalprocAttr,Nat.le_refl]
      ·simp only [go_sem,sevalprocAttr,Nat.le_refl]
      ·simp only [go_sem,sevalprocAttr,Nat.le_refl])
   all_goals (repeat' (first|omega|(first|apply ag|(refine an.aD (id:=8) (gH) (by decide+kernel) mixed ?_)|(refine an.intro (id:=8) [[43,44,8],[43,44,8],[41,42,8],[41,42,8],[41,42,43,44],[43,44],[]] [[],[],[0,1],[0,1],[0,1,2,3],[2,3],[]] (by decide+kernel) mixed ?_)|(refine an.aD (id:=18) (dM) (by decide+kernel) mixed ?_)|(refine an.intro (id:=18) [[67,68],[66],[66],[],[]] [[],[0],[0],[],[]] (by decide+kernel) mixed ?_)|(refine an.aB (id:=18) (dM) (by decide+kernel) mixed ?_)|skip);simp only [go_sem,sevalprocAttr,b0,AL,bw,bL,↓reduceIte,reduceCtorEq,gH,dM]|apply ah<;>(intro h_;(try simp only [h_]);revert h_)|apply ai|apply aj|apply ae|apply And.intro|with_reducible intro h_|trivial|simp only [go_sem,ak];omega))
   all_goals first
    |(refine Wk.sub ?_ ?_
      ·simp only [go_sem,sevalprocAttr]
      ·simp only [go_sem,sevalprocAttr,yap])
    |(refine Wk.zA (fr1:=[(9,I L),(8, .ptr 2 0),(4, .ptr 1 0),(2, .ptr 0 0),(1,roI o)]) (H1:=[(2, .cells 29 (.lst [.bool false,tmA [(0,1)]])),(1, .cells 29 (.lst [.bool false, .nils])),(0, .cells 24 (.lst [roI s,roI m,I L]))]) 2 3 rfl rfl rfl rfl ?_ ?_
      ·simp only [go_sem,sevalprocAttr]
      ·simp only [go_sem,sevalprocAttr,yap])
  obtain rfl:s=[]:=List.length_eq_zero_iff.1 jM;obtain rfl:m=[]:=List.length_eq_zero_iff.1 (by have:=hp.ok.1;simpa using this);obtain ⟨C,rfl⟩: ∃C,L=C+1:=⟨L-1,by simp at az;omega⟩;have hC:(C:Int)+1-1=(C:Nat):=by omega
  repeat' (first|omega|(try apply ag);simp only [go_sem,sevalprocAttr,b0,hC]|apply ah<;>(intro h_;(try simp only [h_]);revert h_)|apply ai|apply aj|apply ae|apply And.intro|with_reducible intro h_|trivial|simp only [go_sem,ak];omega)
  refine ⟨aA.ln [4] rfl (by simp only [go_sem,sevalprocAttr,Nat.le_refl]) (by simp only [go_sem,sevalprocAttr,Nat.le_refl]) (by simp only [go_sem,sevalprocAttr,Nat.le_refl]) (by simp only [go_sem,sevalprocAttr,Nat.le_refl]) rfl rfl rfl (aA.fn rfl h1 ?_)⟩
  repeat' (first|omega|(try apply ag);simp only [go_sem,sevalprocAttr,b0,hC]|apply ah<;>(intro h_;(try simp only [h_]);revert h_)|apply ai|apply aj|apply ae|apply And.intro|with_reducible intro h_|trivial|simp only [go_sem,ak];omega)
  refine bV.intro (fun n' fr H=> ∃(j:Nat) (q:List (Int×Int)),j<=C/\bZ q (dpw j)/\n'=C-j/\fr=[(64,I j),(63,I (C:Nat)),(12, .ptr 5 0),(8, .ptr 3 0),(4, .ptr 1 0)]/\
   H=[(5, .cells 29 (.lst [.bool false,tmA q])),(3, .cells 29 (.lst [.bool false,tmA [(0,1)]])),(1, .cells 29 (.lst [.bool false, .nils]))]) ?_ ?_
  ·refine ⟨_,_,_,Wk.sub ?_ ?_,0,[(0,1)],by omega,Gs,rfl,rfl,rfl⟩
   ·(simp only [go_sem,sevalprocAttr,hC])<;>rfl
   ·(simp only [go_sem,sevalprocAttr,yap])<;>rfl
  rintro n' fr H ⟨j,q,hj,hq,rfl,rfl,rfl⟩;by_cases tP:j<C
  ·have bj:decide ((j:Int)<(C:Nat))=true:=by simp;omega
   obtain ⟨r,hr,hm⟩:=U3 (by omega) hq
   repeat' (first|omega|(first|apply ag|(refine an.aD (id:=8) (gH) (by decide+kernel) mixed ?_)|(refine an.intro (id:=8) [[43,44,8],[43,44,8],[41,42,8],[41,42,8],[41,42,43,44],[43,44],[]] [[],[],[0,1],[0,1],[0,1,2,3],[2,3],[]] (by decide+kernel) mixed ?_)|(refine an.aD (id:=18) (dM) (by decide+kernel) mixed ?_)|(refine an.intro (id:=18) [[67,68],[66],[66],[],[]] [[],[0],[0],[],[]] (by decide+kernel) mixed ?_)|(refine an.aB (id:=18) (dM) (by decide+kernel) mixed ?_)|skip);simp only [go_sem,sevalprocAttr,bj,↓reduceIte,reduceCtorEq,gH,dM]|apply ah<;>(intro h_;(try simp only [h_]);revert h_)|apply ai|apply aj|apply ae|apply And.intro|with_reducible intro h_|trivial|simp only [go_sem,ak];omega)
   all_goals refine ⟨aA.ln [6] rfl (by simp only [go_sem,sevalprocAttr,Nat.le_refl,yda,ycr]) (by simp only [go_sem,sevalprocAttr,Nat.le_refl,yda,ycr]) (by simp only [go_sem,sevalprocAttr,Nat.le_refl,yda,ycr]) (by simp only [go_sem,sevalprocAttr,Nat.le_refl,yda,ycr]) rfl rfl rfl (aA.fn rfl hd ?_)⟩
   all_goals (repeat' (first|omega|(first|apply ag|(refine an.aD (id:=8) (gH) (by decide+kernel) mixed ?_)|(refine an.intro (id:=8) [[43,44,8],[43,44,8],[41,42,8],[41,42,8],[41,42,43,44],[43,44],[]] [[],[],[0,1],[0,1],[0,1,2,3],[2,3],[]] (by decide+kernel) mixed ?_)|(refine an.aD (id:=18) (dM) (by decide+kernel) mixed ?_)|(refine an.intro (id:=18) [[67,68],[66],[66],[],[]] [[],[0],[0],[],[]] (by decide+kernel) mixed ?_)|(refine an.aB (id:=18) (dM) (by decide+kernel) mixed ?_)|skip);simp only [go_sem,sevalprocAttr,bj,↓reduceIte,reduceCtorEq,gH,dM]|apply ah<;>(intro h_;(try simp only [h_]);revert h_)|apply ai|apply aj|apply ae|apply And.intro|with_reducible intro h_|trivial|simp only [go_sem,ak];omega))
   all_goals refine ⟨aA.fn rfl hm ?_⟩
   all_goals (repeat' (first|omega|(first|apply ag|(refine an.aD (id:=8) (gH) (by decide+kernel) mixed ?_)|(refine an.intro (id:=8) [[43,44,8],[43,44,8],[41,42,8],[41,42,8],[41,42,43,44],[43,44],[]] [[],[],[0,1],[0,1],[0,1,2,3],[2,3],[]] (by decide+kernel) mixed ?_)|(refine an.aD (id:=18) (dM) (by decide+kernel) mixed ?_)|(refine an.intro (id:=18) [[67,68],[66],[66],[],[]] [[],[0],[0],[],[]] (by decide+kernel) mixed ?_)|(refine an.aB (id:=18) (dM) (by decide+kernel) mixed ?_)|skip);simp only [go_sem,sevalprocAttr,bj,↓reduceIte,reduceCtorEq,gH,dM]|apply ah<;>(intro h_;(try simp only [h_]);revert h_)|apply ai|apply aj|apply ae|apply And.intro|with_reducible intro h_|trivial|simp only [go_sem,ak];omega))
   all_goals (
    refine ⟨_,_,_,?_,Wk.sub ?_ ?_,j+1,r,by omega,hr,rfl,rfl,rfl⟩
    ·omega
    ·simp only [go_sem,sevalprocAttr]
    ·(simp only [go_sem,sevalprocAttr,yap])<;>rfl)
  ·obtain rfl:C=j:=by omega
   have bj:decide (((C:Nat):Int)<(C:Nat))=false:=by simp
   have hl:=Zy (by omega) hq
   repeat' (first|omega|(first|apply ag|(refine an.aD (id:=8) (gH) (by decide+kernel) mixed ?_)|(refine an.intro (id:=8) [[43,44,8],[43,44,8],[41,42,8],[41,42,8],[41,42,43,44],[43,44],[]] [[],[],[0,1],[0,1],[0,1,2,3],[2,3],[]] (by decide+kernel) mixed ?_)|(refine an.aD (id:=18) (dM) (by decide+kernel) mixed ?_)|(refine an.intro (id:=18) [[67,68],[66],[66],[],[]] [[],[0],[0],[],[]] (by decide+kernel) mixed ?_)|(refine an.aB (id:=18) (dM) (by decide+kernel) mixed ?_)|skip);simp only [go_sem,sevalprocAttr,bj,↓reduceIte,reduceCtorEq,gH,dM]|apply ah<;>(intro h_;(try simp only [h_]);revert h_)|apply ai|apply aj|apply ae|apply And.intro|with_reducible intro h_|trivial|simp only [go_sem,ak];omega)
   all_goals refine ⟨aA.fn rfl hl ?_⟩
   all_goals (repeat' (first|omega|(first|apply ag|(refine an.aD (id:=8) (gH) (by decide+kernel) mixed ?_)|(refine an.intro (id:=8) [[43,44,8],[43,44,8],[41,42,8],[41,42,8],[41,42,43,44],[43,44],[]] [[],[],[0,1],[0,1],[0,1,2,3],[2,3],[]] (by decide+kernel) mixed ?_)|(refine an.aD (id:=18) (dM) (by decide+kernel) mixed ?_)|(refine an.intro (id:=18) [[67,68],[66],[66],[],[]] [[],[0],[0],[],[]] (by decide+kernel) mixed ?_)|(refine an.aB (id:=18) (dM) (by decide+kernel) mixed ?_)|skip);simp only [go_sem,sevalprocAttr,bj,↓reduceIte,reduceCtorEq,gH,dM]|apply ah<;>(intro h_;(try simp only [h_]);revert h_)|apply ai|apply aj|apply ae|apply And.intro|with_reducible intro h_|trivial|simp only [go_sem,ak];omega))
   all_goals refine ⟨aA.fn rfl wV ?_⟩
   all_goals (repeat' (first|omega|(first|apply ag|(refine an.aD (id:=8) (gH) (by decide+kernel) mixed ?_)|(refine an.intro (id:=8) [[43,44,8],[43,44,8],[41,42,8],[41,42,8],[41,42,43,44],[43,44],[]] [[],[],[0,1],[0,1],[0,1,2,3],[2,3],[]] (by decide+kernel) mixed ?_)|(refine an.aD (id:=18) (dM) (by decide+kernel) mixed ?_)|(refine an.intro (id:=18) [[67,68],[66],[66],[],[]] [[],[0],[0],[],[]] (by decide+kernel) mixed ?_)|(refine an.aB (id:=18) (dM) (by decide+kernel) mixed ?_)|skip);simp only [go_sem,sevalprocAttr,bj,↓reduceIte,reduceCtorEq,gH,dM]|apply ah<;>(intro h_;(try simp only [h_]);revert h_)|apply ai|apply aj|apply ae|apply And.intro|with_reducible intro h_|trivial|simp only [go_sem,ak];omega))
   all_goals exact aR.refl _
 ·have b0:((s.length:Int)==0)=false:=by simpa using jM
  have AL:True:=trivial;refine Fn.aq [.cell 4 29, .tmp 5] Tryz.func36 rfl rfl (by decide) (by simp [Tryz.ntmps36]) ?_;rw [Tryz.ntmps36]
  repeat' (first|omega|(try apply ag);simp only [go_sem,sevalprocAttr]|apply ah<;>(intro h_;(try simp only [h_]);revert h_)|apply ai|apply aj|apply ae|apply And.intro|with_reducible intro h_|trivial|simp only [go_sem,ak];omega)
  refine ⟨aA.fn rfl hW ?_⟩
  repeat' (first|omega|(try apply ag);simp only [go_sem,sevalprocAttr,b0,AL,bw,bL]|apply ah<;>(intro h_;(try simp only [h_]);revert h_)|apply ai|apply aj|apply ae|apply And.intro|with_reducible intro h_|trivial|simp only [go_sem,ak];omega)
  refine an.cut [(9,I L),(8, .ptr 3 0),(4, .ptr 1 0),(2, .ptr 0 0),(1,roI o)] [(3, .cells 29 (.lst [.bool false,tmA [(0,1)]])),(1, .cells 29 (.lst [.bool false, .nils])),(0, .cells 24 (.lst [roI s,roI m,I L]))] ?_ ?_
  ·repeat' (first|omega|(first|apply ag|(refine an.aD (id:=8) (gH) (by decide+kernel) mixed ?_)|(refine an.intro (id:=8) [[43,44,8],[43,44,8],[41,42,8],[41,42,8],[41,42,43,44],[43,44],[]] [[],[],[0,1],[0,1],[0,1,2,3],[2,3],[]] (by decide+kernel) mixed ?_)|(refine an.aD (id:=18) (dM) (by decide+kernel) mixed ?_)|(refine an.intro (id:=18) [[67,68],[66],[66],[],[]] [[],[0],[0],[],[]] (by decide+kernel) mixed ?_)|(refine an.aB (id:=18) (dM) (by decide+kernel) mixed ?_)|skip);simp only [go_sem,sevalprocAttr,b0,AL,bw,bL,↓reduceIte,reduceCtorEq,gH,dM]|apply ah<;>(intro h_;(try simp only [h_]);revert h_)|apply ai|apply aj|apply ae|apply And.intro|with_reducible intro h_|trivial|simp only [go_sem,ak];omega)
   all_goals first
    |(refine ⟨aA.ln (ys:=[I 0, .ro 1 1 (.ints [1])]) [2] rfl ?_ ?_ ?_ ?_ rfl rfl rfl (aA.fn rfl h1 ?_)⟩
      ·simp only [go_sem,sevalprocAttr,Nat.le_refl]
      ·simp only [go_sem,sevalprocAttr,Nat.le_refl]
      ·simp only [go_sem,sevalprocAttr,Nat.le_refl]
      ·simp only [go_sem,sevalprocAttr,Nat.le_refl])
    |(refine ⟨aA.ln (ys:=[I 0, .ro 1 1 (.ints [1])]) [3] rfl ?_ ?_ ?_ ?_ rfl rfl rfl (aA.fn rfl h1 ?_)⟩
      ·simp only [go_sem,sevalprocAttr,Nat.le_refl]
      ·simp only [go_sem,sevalprocAttr,Nat.le_refl]
      ·simp only [go_sem,sevalprocAttr,Nat.le_refl]
      ·simp only [go_sem,sevalprocAttr,Nat.le_refl])
   all_goals (repeat' (first|omega|(first|apply ag|(refine an.aD (id:=8) (gH) (by decide+kernel) mixed ?_)|(refine an.intro (id:=8) [[43,44,8],[43,44,8],[41,42,8],[41,42,8],[41,42,43,44],[43,44],[]] [[],[],[0,1],[0,1],[0,1,2,3],[2,3],[]] (by decide+kernel) mixed ?_)|(refine an.aD (id:=18) (dM) (by decide+kernel) mixed ?_)|(refine an.intro (id:=18) [[67,68],[66],[66],[],[]] [[],[0],[0],[],[]] (by decide+kernel) mixed ?_)|(refine an.aB (id:=18) (dM) (by decide+kernel) mixed ?_)|skip);simp only [go_sem,sevalprocAttr,b0,AL,bw,bL,↓reduceIte,reduceCtorEq,gH,dM]|apply ah<;>(intro h_;(try simp only [h_]);revert h_)|apply ai|apply aj|apply ae|apply And.intro|with_reducible intro h_|trivial|simp only [go_sem,ak];omega))
   all_goals first
    |(refine Wk.sub ?_ ?_
      ·simp only [go_sem,sevalprocAttr]
      ·simp only [go_sem,sevalprocAttr,yap])
    |(refine Wk.zA (fr1:=[(9,I L),(8, .ptr 2 0),(4, .ptr 1 0),(2, .ptr 0 0),(1,roI o)]) (H1:=[(2, .cells 29 (.lst [.bool false,tmA [(0,1)]])),(1, .cells 29 (.lst [.bool false, .nils])),(0, .cells 24 (.lst [roI s,roI m,I L]))]) 2 3 rfl rfl rfl rfl ?_ ?_
      ·simp only [go_sem,sevalprocAttr]
      ·simp only [go_sem,sevalprocAttr,yap])
  have Fl:(o.map Int.toNat).map (Nat.cast:Nat->Int)=o:=by
   rw [List.map_map]
   conv=>rhs;rw [←List.map_id o]
   exact List.map_congr_left fun x hx=>by
    have:=oF.rg x hx
    simp only [Function.comp,id];omega
  have hnd:(o.map Int.toNat).Nodup:=by
   rw [List.nodup_iff_pairwise_ne,List.pairwise_map];refine List.Pairwise.imp_of_mem (fun {a b} ha hb az e=>az ?_) (List.nodup_iff_pairwise_ne.1 oF.nd);have h1:=oF.rg a ha;have h2:=oF.rg b hb;omega
  have gm:=Y2 s m L gn hnd (by rw [List.length_map,dd]) (fun c hc=>by
   obtain ⟨x,hx,rfl⟩:=List.mem_map.1 hc
   have:=oF.rg x hx
   omega) (by omega) (by omega)
  rw [Fl] at gm
  repeat' (first|omega|(try apply ag);simp only [go_sem,sevalprocAttr,b0]|apply ah<;>(intro h_;(try simp only [h_]);revert h_)|apply ai|apply aj|apply ae|apply And.intro|with_reducible intro h_|trivial|simp only [go_sem,ak];omega)
  refine ⟨aA.fn rfl gm ?_⟩
  repeat' (first|omega|(try apply ag);simp only [go_sem,sevalprocAttr,b0]|apply ah<;>(intro h_;(try simp only [h_]);revert h_)|apply ai|apply aj|apply ae|apply And.intro|with_reducible intro h_|trivial|simp only [go_sem,ak];omega)
  refine ⟨aA.ln [5] rfl (by simp only [go_sem,sevalprocAttr,Nat.le_refl,yda,ycr]) (by simp only [go_sem,sevalprocAttr,Nat.le_refl,yda,ycr]) (by simp only [go_sem,sevalprocAttr,Nat.le_refl,yda,ycr]) (by simp only [go_sem,sevalprocAttr,Nat.le_refl,yda,ycr]) rfl rfl rfl (aA.fn rfl h1 ?_)⟩
  repeat' (first|omega|(try apply ag);simp only [go_sem,sevalprocAttr,b0]|apply ah<;>(intro h_;(try simp only [h_]);revert h_)|apply ai|apply aj|apply ae|apply And.intro|with_reducible intro h_|trivial|simp only [go_sem,ak];omega)
  refine bV.intro (fun n' fr H=> ∃(j:Nat) (q:List (Int×Int)),j<=L/\bZ q (dpw j)/\n'=L-j/\fr=[(64,I j),(63,I (L:Nat)),(12, .ptr 6 0),(8, .ptr 3 0),(4, .ptr 1 0)]/\
   H=[(6, .cells 29 (.lst [.bool false,tmA q])),(3, .cells 29 (.lst [.bool false,tmA (dN (aU m s.length 0 1))])),(1, .cells 29 (.lst [.bool false, .nils]))]) ?_ ?_
  ·refine ⟨_,_,_,Wk.sub ?_ ?_,0,[(0,1)],by omega,Gs,rfl,rfl,rfl⟩
   ·(simp only [go_sem,sevalprocAttr,dd])<;>rfl
   ·(simp only [go_sem,sevalprocAttr,yap])<;>rfl
  rintro n' fr H ⟨j,q,hj,hq,rfl,rfl,rfl⟩;by_cases tP:j<L
  ·have bj:decide ((j:Int)<(L:Nat))=true:=by simp;omega
   obtain ⟨r,hr,hm⟩:=U3 (by omega) hq
   repeat' (first|omega|(first|apply ag|(refine an.aD (id:=8) (gH) (by decide+kernel) mixed ?_)|(refine an.intro (id:=8) [[43,44,8],[43,44,8],[41,42,8],[41,42,8],[41,42,43,44],[43,44],[]] [[],[],[0,1],[0,1],[0,1,2,3],[2,3],[]] (by decide+kernel) mixed ?_)|(refine an.aD (id:=18) (dM) (by decide+kernel) mixed ?_)|(refine an.intro (id:=18) [[67,68],[66],[66],[],[]] [[],[0],[0],[],[]] (by decide+kernel) mixed ?_)|(refine an.aB (id:=18) (dM) (by decide+kernel) mixed ?_)|skip);simp only [go_sem,sevalprocAttr,bj,↓reduceIte,reduceCtorEq,gH,dM]|apply ah<;>(intro h_;(try simp only [h_]);revert h_)|apply ai|apply aj|apply ae|apply And.intro|with_reducible intro h_|trivial|simp only [go_sem,ak];omega)
   all_goals refine ⟨aA.ln [7] rfl (by simp only [go_sem,sevalprocAttr,Nat.le_refl,yda,ycr]) (by simp only [go_sem,sevalprocAttr,Nat.le_refl,yda,ycr]) (by simp only [go_sem,sevalprocAttr,Nat.le_refl,yda,ycr]) (by simp only [go_sem,sevalprocAttr,Nat.le_refl,yda,ycr]) rfl rfl rfl (aA.fn rfl hd ?_)⟩
   all_goals (repeat' (first|omega|(first|apply ag|(refine an.aD (id:=8) (gH) (by decide+kernel) mixed ?_)|(refine an.intro (id:=8) [[43,44,8],[43,44,8],[41,42,8],[41,42,8],[41,42,43,44],[43,44],[]] [[],[],[0,1],[0,1],[0,1,2,3],[2,3],[]] (by decide+kernel) mixed ?_)|(refine an.aD (id:=18) (dM) (by decide+kernel) mixed ?_)|(refine an.intro (id:=18) [[67,68],[66],[66],[],[]] [[],[0],[0],[],[]] (by decide+kernel) mixed ?_)|(refine an.aB (id:=18) (dM) (by decide+kernel) mixed ?_)|skip);simp only [go_sem,sevalprocAttr,bj,↓reduceIte,reduceCtorEq,gH,dM]|apply ah<;>(intro h_;(try simp only [h_]);revert h_)|apply ai|apply aj|apply ae|apply And.intro|with_reducible intro h_|trivial|simp only [go_sem,ak];omega))
   all_goals refine ⟨aA.fn rfl hm ?_⟩
   all_goals (repeat' (first|omega|(first|apply ag|(refine an.aD (id:=8) (gH) (by decide+kernel) mixed ?_)|(refine an.intro (id:=8) [[43,44,8],[43,44,8],[41,42,8],[41,42,8],[41,42,43,44],[43,44],[]] [[],[],[0,1],[0,1],[0,1,2,3],[2,3],[]] (by decide+kernel) mixed ?_)|(refine an.aD (id:=18) (dM) (by decide+kernel) mixed ?_)|(refine an.intro (id:=18) [[67,68],[66],[66],[],[]] [[],[0],[0],[],[]] (by decide+kernel) mixed ?_)|(refine an.aB (id:=18) (dM) (by decide+kernel) mixed ?_)|skip);simp only [go_sem,sevalprocAttr,bj,↓reduceIte,reduceCtorEq,gH,dM]|apply ah<;>(intro h_;(try simp only [h_]);revert h_)|apply ai|apply aj|apply ae|apply And.intro|with_reducible intro h_|trivial|simp only [go_sem,ak];omega))
   all_goals (
    refine ⟨_,_,_,?_,Wk.sub ?_ ?_,j+1,r,by omega,hr,rfl,rfl,rfl⟩
    ·omega
    ·simp only [go_sem,sevalprocAttr]
    ·(simp only [go_sem,sevalprocAttr,yap])<;>rfl)
  ·obtain rfl:L=j:=by omega
   have bj:decide (((L:Nat):Int)<(L:Nat))=false:=by simp
   have hl:=Nh gn hs (by omega) hL hq
   repeat' (first|omega|(first|apply ag|(refine an.aD (id:=8) (gH) (by decide+kernel) mixed ?_)|(refine an.intro (id:=8) [[43,44,8],[43,44,8],[41,42,8],[41,42,8],[41,42,43,44],[43,44],[]] [[],[],[0,1],[0,1],[0,1,2,3],[2,3],[]] (by decide+kernel) mixed ?_)|(refine an.aD (id:=18) (dM) (by decide+kernel) mixed ?_)|(refine an.intro (id:=18) [[67,68],[66],[66],[],[]] [[],[0],[0],[],[]] (by decide+kernel) mixed ?_)|(refine an.aB (id:=18) (dM) (by decide+kernel) mixed ?_)|skip);simp only [go_sem,sevalprocAttr,bj,↓reduceIte,reduceCtorEq,gH,dM]|apply ah<;>(intro h_;(try simp only [h_]);revert h_)|apply ai|apply aj|apply ae|apply And.intro|with_reducible intro h_|trivial|simp only [go_sem,ak];omega)
   all_goals refine ⟨aA.fn rfl hl ?_⟩
   all_goals (repeat' (first|omega|(first|apply ag|(refine an.aD (id:=8) (gH) (by decide+kernel) mixed ?_)|(refine an.intro (id:=8) [[43,44,8],[43,44,8],[41,42,8],[41,42,8],[41,42,43,44],[43,44],[]] [[],[],[0,1],[0,1],[0,1,2,3],[2,3],[]] (by decide+kernel) mixed ?_)|(refine an.aD (id:=18) (dM) (by decide+kernel) mixed ?_)|(refine an.intro (id:=18) [[67,68],[66],[66],[],[]] [[],[0],[0],[],[]] (by decide+kernel) mixed ?_)|(refine an.aB (id:=18) (dM) (by decide+kernel) mixed ?_)|skip);simp only [go_sem,sevalprocAttr,bj,↓reduceIte,reduceCtorEq,gH,dM]|apply ah<;>(intro h_;(try simp only [h_]);revert h_)|apply ai|apply aj|apply ae|apply And.intro|with_reducible intro h_|trivial|simp only [go_sem,ak];omega))
   all_goals refine ⟨aA.fn rfl wV ?_⟩
   all_goals (repeat' (first|omega|(first|apply ag|(refine an.aD (id:=8) (gH) (by decide+kernel) mixed ?_)|(refine an.intro (id:=8) [[43,44,8],[43,44,8],[41,42,8],[41,42,8],[41,42,43,44],[43,44],[]] [[],[],[0,1],[0,1],[0,1,2,3],[2,3],[]] (by decide+kernel) mixed ?_)|(refine an.aD (id:=18) (dM) (by decide+kernel) mixed ?_)|(refine an.intro (id:=18) [[67,68],[66],[66],[],[]] [[],[0],[0],[],[]] (by decide+kernel) mixed ?_)|(refine an.aB (id:=18) (dM) (by decide+kernel) mixed ?_)|skip);simp only [go_sem,sevalprocAttr,bj,↓reduceIte,reduceCtorEq,gH,dM]|apply ah<;>(intro h_;(try simp only [h_]);revert h_)|apply ai|apply aj|apply ae|apply And.intro|with_reducible intro h_|trivial|simp only [go_sem,ak];omega))
   all_goals exact aR.refl _
end Go.Proofs.YtphjphpmfflfpaaGreatDoor
set_option linter.unusedSimpArgs false
set_option linter.unusedVariables false
namespace Go.Proofs.YtphjphpmfflfpaaGreatDoor
open Go Go.RowKit
set_option maxRecDepth 100000
set_option maxHeartbeats 4000000
abbrev rY (g:Nat) (p q acc:List (Int×Int)) (fits:Bool):Hp:=[(6, .cells 4 (.lst [.bool fits])),(5, .cells 29 (.lst [.bool false, .sl 2 4 0 acc.length])),(4, .cells 75 (.lst (dw acc))),(3, .cells 29 (.lst [.bool false, .nils])),(2, .cells 115 (.lst [.fn g []])),(1, .cells 29 (.lst [.bool false,tmA q])),(0, .cells 29 (.lst [.bool false,tmA p]))]
theorem Dj (fr:Fr) (K:AV->Fr->Hp->Prop) (g:Nat) (p q acc:List (Int×Int)) (fits:Bool) (e a b c:Int) (hg:Fn Tryz.prog g [I a,I b] (I c)) (hl:acc.length<=1000000)
  (nU:c=0->K (.tup []) fr (rY g p q acc (fits&&gC c 1125899906842624))) (jG:c≠0->K (.tup []) (fcut 4 fr) [(4, .cells 75 (.lst (dw (acc++[(e,c)])))),(7, .cells 75 (.lst [I e,I c])),(6, .cells 4 (.lst [.bool (fits&&gC c 1125899906842624)])),(5, .cells 29 (.lst [.bool false, .sl 2 4 0 (acc.length+1)])),(3, .cells 29 (.lst [.bool false, .nils])),(2, .cells 115 (.lst [.fn g []])),(1, .cells 29 (.lst [.bool false,tmA q])),(0, .cells 29 (.lst [.bool false,tmA p]))]):fM Tryz.prog 150 [I e,I a,I b, .ptr 2 0, .ptr 6 0, .ptr 5 0] fr (rY g p q acc fits) K:=by
 unfold rY at*;have hw:=u9 c 1125899906842624 (by omega) (by omega);refine fM.intro [] Tryz.func150 rfl rfl (by decide) (by simp [Tryz.ntmps150]) ?_;rw [Tryz.ntmps150]
 repeat' (first|omega|(try apply ag);simp only [go_sem,sevalprocAttr]|apply ah<;>(intro h_;(try simp only [h_]);revert h_)|apply ai|apply aj|apply ae|apply And.intro|with_reducible intro h_|trivial|simp only [go_sem,ak];omega)
 refine ⟨aA.fn rfl hg ?_⟩;cases fits
 ·repeat' (first|omega|(try apply ag);simp only [go_sem,sevalprocAttr]|apply ah<;>(intro h_;(try simp only [h_]);revert h_)|apply ai|apply aj|apply ae|apply And.intro|with_reducible intro h_|trivial|simp only [go_sem,ak];omega)
  ·rw [zr];exact jG (by assumption)
  ·exact nU (by assumption)
 ·repeat' (first|omega|(try apply ag);simp only [go_sem,sevalprocAttr]|apply ah<;>(intro h_;(try simp only [h_]);revert h_)|apply ai|apply aj|apply ae|apply And.intro|with_reducible intro h_|trivial|simp only [go_sem,ak];omega)
  refine ⟨aA.fn rfl hw ?_⟩
  repeat' (first|omega|(try apply ag);simp only [go_sem,sevalprocAttr]|apply ah<;>(intro h_;(try simp only [h_]);revert h_)|apply ai|apply aj|apply ae|apply And.intro|with_reducible intro h_|trivial|simp only [go_sem,ak];omega)
  ·rw [zr];exact jG (by assumption)
  ·exact nU (by assumption)
theorem F3 {f:Int->Int->Int} {p q:List (Int×Int)} {i j:Nat} (hi:i<p.length) (h:j=q.length\/(p.getD i (0,0)).1<(q.getD j (0,0)).1) (hj:j<=q.length):mrg f (p.drop i) (q.drop j)=((p.getD i (0,0)).1,f (p.getD i (0,0)).2 0)::mrg f (p.drop (i+1)) (q.drop j):=by
 rw [List.drop_eq_getElem_cons hi];have e:p.getD i (0,0)=p[i]:=by simp [hi]
 rw [e] at h⊢;rcases Nat.lt_or_ge j q.length with g|g
 ·rw [List.drop_eq_getElem_cons g];have e2:q.getD j (0,0)=q[j]:=by simp [g]
  rw [e2] at h
  conv=>lhs;unfold mrg
  rw [if_pos (by omega)]
 ·rw [List.drop_of_length_le g]
  conv=>lhs;unfold mrg
theorem F2 {f:Int->Int->Int} {p q:List (Int×Int)} {i j:Nat} (hj:j<q.length) (h:i=p.length\/(q.getD j (0,0)).1<(p.getD i (0,0)).1) (hi:i<=p.length):mrg f (p.drop i) (q.drop j)=((q.getD j (0,0)).1,f 0 (q.getD j (0,0)).2)::mrg f (p.drop i) (q.drop (j+1)):=by
 rw [List.drop_eq_getElem_cons hj];have e:q.getD j (0,0)=q[j]:=by simp [hj]
 rw [e] at h⊢;rcases Nat.lt_or_ge i p.length with g|g
 ·rw [List.drop_eq_getElem_cons g];have e2:p.getD i (0,0)=p[i]:=by simp [g]
  rw [e2] at h
  conv=>lhs;unfold mrg
  rw [if_neg (by omega),if_pos (by omega)]
 ·rw [List.drop_of_length_le g]
  conv=>lhs;unfold mrg
theorem Vr {f:Int->Int->Int} {p q:List (Int×Int)} {i j:Nat} (hi:i<p.length) (hj:j<q.length) (h:(q.getD j (0,0)).1=(p.getD i (0,0)).1):mrg f (p.drop i) (q.drop j)=((p.getD i (0,0)).1,f (p.getD i (0,0)).2 (q.getD j (0,0)).2)::mrg f (p.drop (i+1)) (q.drop (j+1)):=by
 rw [List.drop_eq_getElem_cons hi,List.drop_eq_getElem_cons hj];have e:p.getD i (0,0)=p[i]:=by simp [hi]
 have e2:q.getD j (0,0)=q[j]:=by simp [hj]
 rw [e,e2] at h⊢
 conv=>lhs;unfold mrg
 rw [if_neg (by omega),if_neg (by omega)]
theorem Di {c e:Int} (l:List (Int×Int)) (h:c=0):nz (l++[(e,c)])=nz l:=by unfold nz;rw [List.filter_append];simp [h]
theorem Dh {c e:Int} (l:List (Int×Int)) (h:c≠0):nz (l++[(e,c)])=nz l++[(e,c)]:=by unfold nz;rw [List.filter_append];simp [h]
theorem u6 (l:List (Int×Int)) (e c:Int):pE (l++[(e,c)])=(pE l&&gC c 1125899906842624):=by unfold pE;simp
set_option maxHeartbeats 16000000
def so:List (List Nat):=[[67,68,69],[66],[66],[66],[],[],[73,74,75],[72],[72],[72],[],[],[80,84,85,86,87,88,89],[80,84,85,86,87,88,89],[78,79,84,85,86,87,88,89],[84,85,86,87,88,89],[84,85,86,87,88,89],[84,85,86,87,88,89],[78,79,80,81,82,83,86],[78,79,80,81,82,83,86],[78,79,80,81,82,83,84,85],[78,79,80,81,82,83],[78,79,80,81,82,83],[78,79,80,81,82,83],[],[],[],[]]
def sk:List (List Nat):=[[],[0],[0],[0],[],[],[],[6],[6],[6],[],[],[],[],[12,13],[],[],[],[12,13,14,15,16,17],[12,13,14,15,16,17],[12,13,14,15,16,17,18,19],[12,13,14,15,16,17],[12,13,14,15,16,17],[12,13,14,15,16,17],[],[],[],[]]
def nG:List (List Nat):=[[94,95,96,97,98,99,100,101,102,103,104,105],[93,96,100,101,102,103,104,105],[93,96,100,101,102,103,104,105],[93,94,95,100,101,102,103,104,105],[93,100,101,102,103,104,105],[93,100,101,102,103,104,105],[93,100,101,102,103,104,105],[93,94,95,96,97,98,99,102],[93,94,95,96,97,98,99,102],[93,94,95,96,97,98,99,100,101],[93,94,95,96,97,98,99],[93,94,95,96,97,98,99],[93,94,95,96,97,98,99],[]]
def ig:List (List Nat):=[[],[0],[0],[0,1,2],[0],[0],[0],[0,1,2,3,4,5,6],[0,1,2,3,4,5,6],[0,1,2,3,4,5,6,7,8],[0,1,2,3,4,5,6],[0,1,2,3,4,5,6],[0,1,2,3,4,5,6],[]]
def sj:List (List Nat):=[[111,112,113],[110],[110],[110],[],[],[118,122,123,124,125,126,127],[118,122,123,124,125,126,127],[116,117,122,123,124,125,126,127],[122,123,124,125,126,127],[122,123,124,125,126,127],[122,123,124,125,126,127],[116,117,118,119,120,121,124],[116,117,118,119,120,121,124],[116,117,118,119,120,121,122,123],[116,117,118,119,120,121],[116,117,118,119,120,121],[116,117,118,119,120,121],[],[],[]]
def sf:List (List Nat):=[[],[0],[0],[0],[],[],[],[],[6,7],[],[],[],[6,7,8,9,10,11],[6,7,8,9,10,11],[6,7,8,9,10,11,12,13],[6,7,8,9,10,11],[6,7,8,9,10,11],[6,7,8,9,10,11],[],[],[]]
def nF:List (List Nat):=[[131,132,133,134,135,136,137,138,139,140,141,142],[130,133,137,138,139,140,141,142],[130,133,137,138,139,140,141,142],[130,131,132,137,138,139,140,141,142],[130,137,138,139,140,141,142],[130,137,138,139,140,141,142],[130,137,138,139,140,141,142],[130,131,132,133,134,135,136,139],[130,131,132,133,134,135,136,139],[130,131,132,133,134,135,136,137,138],[130,131,132,133,134,135,136],[130,131,132,133,134,135,136],[130,131,132,133,134,135,136],[]]
def nE:List (List Nat):=[[42,43,44,45,46,47,48,49,50,51,52,53,54,55,56,57,58,59],[41,44,48,49,50,51,52,53,54,55,56,57,58,59],[41,44,48,49,50,51,52,53,54,55,56,57,58,59],[41,42,43,48,49,50,51,52,53,54,55,56,57,58,59],[41,48,49,50,51,52,53,54,55,56,57,58,59],[41,48,49,50,51,52,53,54,55,56,57,58,59],[41,48,49,50,51,52,53,54,55,56,57,58,59],[41,42,43,44,45,46,47,50,54,55,56,57,58,59],[41,42,43,44,45,46,47,50,54,55,56,57,58,59],[41,42,43,44,45,46,47,48,49,54,55,56,57,58,59],[41,42,43,44,45,46,47,54,55,56,57,58,59],[41,42,43,44,45,46,47,54,55,56,57,58,59],[41,42,43,44,45,46,47,54,55,56,57,58,59],[41,42,43,44,45,46,47,48,49,50,51,52,53,56],[41,42,43,44,45,46,47,48,49,50,51,52,53,56],[41,42,43,44,45,46,47,48,49,50,51,52,53,54,55],[41,42,43,44,45,46,47,48,49,50,51,52,53],[41,42,43,44,45,46,47,48,49,50,51,52,53],[41,42,43,44,45,46,47,48,49,50,51,52,53],[]]
def nD:List (List Nat):=[[],[0],[0],[0,1,2],[0],[0],[0],[0,1,2,3,4,5,6],[0,1,2,3,4,5,6],[0,1,2,3,4,5,6,7,8],[0,1,2,3,4,5,6],[0,1,2,3,4,5,6],[0,1,2,3,4,5,6],[0,1,2,3,4,5,6,7,8,9,10,11,12],[0,1,2,3,4,5,6,7,8,9,10,11,12],[0,1,2,3,4,5,6,7,8,9,10,11,12,13,14],[0,1,2,3,4,5,6,7,8,9,10,11,12],[0,1,2,3,4,5,6,7,8,9,10,11,12],[0,1,2,3,4,5,6,7,8,9,10,11,12],[]]
theorem TU (p q:List (Int×Int)) (g:Nat) (f:Int->Int->Int) (hp:uE p) (hq:uE q) (lI:p.length<=500000) (Cm:q.length<=500000) (hg: ∀a b:Int,-1125899906842624<=a->a<=1125899906842624-> -1125899906842624<=b->b<=1125899906842624->Fn Tryz.prog g [I a,I b] (I (f a b))):
  Fn Tryz.prog 96 [plA false p,plA false q, .fn g []] (if pE (mrg f p q) then plA false (nz (mrg f p q)) else plA true []):=by
 refine Fn.aq [.cell 6 29] Tryz.func96 rfl rfl (by decide) (by simp [Tryz.ntmps96]) ?_;rw [Tryz.ntmps96]
 repeat' (first|omega|(first|apply ag|(refine an.intro (id:=11) so sk (by decide+kernel) mixed ?_)|(refine an.intro (id:=12) nG ig (by decide+kernel) mixed ?_)|(refine an.aq (id:=12) nG ig (by decide+kernel) mixed ?_)|(refine an.intro (id:=14) sj sf (by decide+kernel) mixed ?_)|(refine an.intro (id:=15) nF ig (by decide+kernel) mixed ?_)|(refine an.aq (id:=15) nF ig (by decide+kernel) mixed ?_)|(refine an.intro (id:=8) nE nD (by decide+kernel) mixed ?_)|(refine an.aq (id:=8) nE nD (by decide+kernel) mixed ?_)|skip);simp only [go_sem,sevalprocAttr,↓reduceIte,reduceCtorEq,so,sk,nG,ig,sj,sf,nF,nE,nD]|apply ah<;>(intro h_;(try simp only [h_]);revert h_)|apply ai|apply aj|apply ae|apply And.intro|with_reducible intro h_|trivial|simp only [go_sem,ak];omega)
 refine bV.intro (fun n fr H=> ∃(i j:Nat) (done:List (Int×Int)),i<=p.length/\j<=q.length/\n=(p.length-i)+(q.length-j)/\done.length<=i+j/\done++mrg f (p.drop i) (q.drop j)=mrg f p q/\fr=[(11,I j),(10,I i),(9, .fn 150 [.ptr 2 0, .ptr 6 0, .ptr 5 0]),(8, .ptr 6 0),(7, .ptr 5 0),(6, .ptr 3 0),(4, .ptr 1 0),(3, .ptr 0 0)]/\H=rY g p q (nz done) (pE done)) ?_ ?_
 ·refine ⟨_,_,_,?_,0,0,[],by omega,by omega,rfl,by simp,rfl,rfl,rfl⟩;unfold rY;refine Wk.sub ?_ ?_<;>simp only [go_sem,sevalprocAttr]
  all_goals simp [nz,pE,dw]
 rintro n fr H ⟨i,j,done,hi,hj,rfl,IE,fy,rfl,rfl⟩;have jF:(nz done).length<=1000000:=by have:=List.length_filter_le (fun t:Int×Int=>t.2 !=0) done;unfold nz;omega
 have t0:=fun h=>l7 p i h;have t1:=fun h=>qt p i h;have u0:=fun h=>l7 q j h;have u1:=fun h=>qt q j h;unfold rY;by_cases fi:i<p.length
 ·have fp:=Ds hp fi;have t0:=t0 fi;have t1:=t1 fi;by_cases cO:j<q.length
  ·have fq:=Ds hq cO;have u0:=u0 cO;have u1:=u1 cO;by_cases he:(p.getD i (0,0)).1<(q.getD j (0,0)).1
   ·have bi:decide ((i:Int)<p.length)=true:=by simp;omega
    have bj:((j:Int)==q.length)=false:=by simp;omega
    have yM:decide ((p.getD i (0,0)).1<(q.getD j (0,0)).1)=true:=by exact decide_eq_true he
    repeat' (first|omega|(first|apply ag|(refine an.intro (id:=11) so sk (by decide+kernel) mixed ?_)|(refine an.aq (id:=12) nG ig (by decide+kernel) mixed ?_)|(refine an.intro (id:=12) nG ig (by decide+kernel) mixed ?_)|(refine an.intro (id:=14) sj sf (by decide+kernel) mixed ?_)|(refine an.aq (id:=15) nF ig (by decide+kernel) mixed ?_)|(refine an.intro (id:=15) nF ig (by decide+kernel) mixed ?_)|(refine an.aq (id:=8) nE nD (by decide+kernel) mixed ?_)|(refine an.intro (id:=8) nE nD (by decide+kernel) mixed ?_)|skip);simp only [go_sem,sevalprocAttr,t0,t1,u0,u1,bi,bj,yM,↓reduceIte,reduceCtorEq,so,sk,nG,ig,sj,sf,nF,nE,nD]|apply ah<;>(intro h_;(try simp only [h_]);revert h_)|apply ai|apply aj|apply ae|apply And.intro|with_reducible intro h_|trivial|simp only [go_sem,ak];omega)
    refine ⟨aA.inline (Dj _ _ g p q (nz done) (pE done) (p.getD i (0,0)).1 (p.getD i (0,0)).2 0 _ (hg _ _ (by omega) (by omega) (by omega) (by omega)) jF (fun h0=>?_) (fun h1=>?_))⟩
    ·repeat' (first|omega|(try apply ag);simp only [go_sem,sevalprocAttr]|apply ah<;>(intro h_;(try simp only [h_]);revert h_)|apply ai|apply aj|apply ae|apply And.intro|with_reducible intro h_|trivial|simp only [go_sem,ak];omega)
     refine ⟨_,_,_,?_,?_,⟨i+1,j,done++[((p.getD i (0,0)).1,f (p.getD i (0,0)).2 0)],by omega,by omega,rfl,by simp;omega,by rw [←fy,F3 fi (.inr he) hj];simp,rfl,rfl⟩⟩
     ·omega
     ·rw [Di done h0,u6];refine Wk.sub ?_ ?_<;>(simp only [go_sem,sevalprocAttr,List.length_append])
    ·repeat' (first|omega|(try apply ag);simp only [go_sem,sevalprocAttr]|apply ah<;>(intro h_;(try simp only [h_]);revert h_)|apply ai|apply aj|apply ae|apply And.intro|with_reducible intro h_|trivial|simp only [go_sem,ak];omega)
     refine ⟨_,_,_,?_,?_,⟨i+1,j,done++[((p.getD i (0,0)).1,f (p.getD i (0,0)).2 0)],by omega,by omega,rfl,by simp;omega,by rw [←fy,F3 fi (.inr he) hj];simp,rfl,rfl⟩⟩
     ·omega
     ·rw [Dh done h1,u6];refine Wk.sub ?_ ?_<;>(simp only [go_sem,sevalprocAttr,List.length_append])
   ·by_cases vy:(q.getD j (0,0)).1<(p.getD i (0,0)).1
    ·have bi:decide ((i:Int)<p.length)=true:=by simp;omega
     have bin:((i:Int)==p.length)=false:=by simp;omega
     have bj:((j:Int)==q.length)=false:=by simp;omega
     have yM:decide ((p.getD i (0,0)).1<(q.getD j (0,0)).1)=false:=by exact decide_eq_false (by omega)
     have QU:decide ((q.getD j (0,0)).1<(p.getD i (0,0)).1)=true:=by exact decide_eq_true vy
     repeat' (first|omega|(first|apply ag|(refine an.intro (id:=11) so sk (by decide+kernel) mixed ?_)|(refine an.aq (id:=12) nG ig (by decide+kernel) mixed ?_)|(refine an.intro (id:=12) nG ig (by decide+kernel) mixed ?_)|(refine an.intro (id:=14) sj sf (by decide+kernel) mixed ?_)|(refine an.aq (id:=15) nF ig (by decide+kernel) mixed ?_)|(refine an.intro (id:=15) nF ig (by decide+kernel) mixed ?_)|(refine an.aq (id:=8) nE nD (by decide+kernel) mixed ?_)|(refine an.intro (id:=8) nE nD (by decide+kernel) mixed ?_)|skip);simp only [go_sem,sevalprocAttr,t0,t1,u0,u1,bi,bin,bj,yM,QU,↓reduceIte,reduceCtorEq,so,sk,nG,ig,sj,sf,nF,nE,nD]|apply ah<;>(intro h_;(try simp only [h_]);revert h_)|apply ai|apply aj|apply ae|apply And.intro|with_reducible intro h_|trivial|simp only [go_sem,ak];omega)
     refine ⟨aA.inline (Dj _ _ g p q (nz done) (pE done) (q.getD j (0,0)).1 0 (q.getD j (0,0)).2 _ (hg _ _ (by omega) (by omega) (by omega) (by omega)) jF (fun h0=>?_) (fun h1=>?_))⟩
     ·repeat' (first|omega|(try apply ag);simp only [go_sem,sevalprocAttr]|apply ah<;>(intro h_;(try simp only [h_]);revert h_)|apply ai|apply aj|apply ae|apply And.intro|with_reducible intro h_|trivial|simp only [go_sem,ak];omega)
      refine ⟨_,_,_,?_,?_,⟨i,j+1,done++[((q.getD j (0,0)).1,f 0 (q.getD j (0,0)).2)],by omega,by omega,rfl,by simp;omega,by rw [←fy,F2 cO (.inr vy) hi];simp,rfl,rfl⟩⟩
      ·omega
      ·rw [Di done h0,u6];refine Wk.sub ?_ ?_<;>(simp only [go_sem,sevalprocAttr,List.length_append])
     ·repeat' (first|omega|(try apply ag);simp only [go_sem,sevalprocAttr]|apply ah<;>(intro h_;(try simp only [h_]);revert h_)|apply ai|apply aj|apply ae|apply And.intro|with_reducible intro h_|trivial|simp only [go_sem,ak];omega)
      refine ⟨_,_,_,?_,?_,⟨i,j+1,done++[((q.getD j (0,0)).1,f 0 (q.getD j (0,0)).2)],by omega,by omega,rfl,by simp;omega,by rw [←fy,F2 cO (.inr vy) hi];simp,rfl,rfl⟩⟩
      ·omega
      ·rw [Dh done h1,u6];refine Wk.sub ?_ ?_<;>(simp only [go_sem,sevalprocAttr,List.length_append])
    ·have bi:decide ((i:Int)<p.length)=true:=by simp;omega
     have bin:((i:Int)==p.length)=false:=by simp;omega
     have bj:((j:Int)==q.length)=false:=by simp;omega
     have yM:decide ((p.getD i (0,0)).1<(q.getD j (0,0)).1)=false:=by exact decide_eq_false (by omega)
     have QU:decide ((q.getD j (0,0)).1<(p.getD i (0,0)).1)=false:=by exact decide_eq_false (by omega)
     repeat' (first|omega|(first|apply ag|(refine an.intro (id:=11) so sk (by decide+kernel) mixed ?_)|(refine an.aq (id:=12) nG ig (by decide+kernel) mixed ?_)|(refine an.intro (id:=12) nG ig (by decide+kernel) mixed ?_)|(refine an.intro (id:=14) sj sf (by decide+kernel) mixed ?_)|(refine an.aq (id:=15) nF ig (by decide+kernel) mixed ?_)|(refine an.intro (id:=15) nF ig (by decide+kernel) mixed ?_)|(refine an.aq (id:=8) nE nD (by decide+kernel) mixed ?_)|(refine an.intro (id:=8) nE nD (by decide+kernel) mixed ?_)|skip);simp only [go_sem,sevalprocAttr,t0,t1,u0,u1,bi,bin,bj,yM,QU,↓reduceIte,reduceCtorEq,so,sk,nG,ig,sj,sf,nF,nE,nD]|apply ah<;>(intro h_;(try simp only [h_]);revert h_)|apply ai|apply aj|apply ae|apply And.intro|with_reducible intro h_|trivial|simp only [go_sem,ak];omega)
     refine ⟨aA.inline (Dj _ _ g p q (nz done) (pE done) (p.getD i (0,0)).1 (p.getD i (0,0)).2 (q.getD j (0,0)).2 _ (hg _ _ (by omega) (by omega) (by omega) (by omega)) jF (fun h0=>?_) (fun h1=>?_))⟩
     ·repeat' (first|omega|(try apply ag);simp only [go_sem,sevalprocAttr]|apply ah<;>(intro h_;(try simp only [h_]);revert h_)|apply ai|apply aj|apply ae|apply And.intro|with_reducible intro h_|trivial|simp only [go_sem,ak];omega)
      refine ⟨_,_,_,?_,?_,⟨i+1,j+1,done++[((p.getD i (0,0)).1,f (p.getD i (0,0)).2 (q.getD j (0,0)).2)],by omega,by omega,rfl,by simp;omega,by rw [←fy,Vr fi cO (by omega)];simp,rfl,rfl⟩⟩
      ·omega
      ·rw [Di done h0,u6];refine Wk.sub ?_ ?_<;>(simp only [go_sem,sevalprocAttr,List.length_append])
     ·repeat' (first|omega|(try apply ag);simp only [go_sem,sevalprocAttr]|apply ah<;>(intro h_;(try simp only [h_]);revert h_)|apply ai|apply aj|apply ae|apply And.intro|with_reducible intro h_|trivial|simp only [go_sem,ak];omega)
      refine ⟨_,_,_,?_,?_,⟨i+1,j+1,done++[((p.getD i (0,0)).1,f (p.getD i (0,0)).2 (q.getD j (0,0)).2)],by omega,by omega,rfl,by simp;omega,by rw [←fy,Vr fi cO (by omega)];simp,rfl,rfl⟩⟩
      ·omega
      ·rw [Dh done h1,u6];refine Wk.sub ?_ ?_<;>(simp only [go_sem,sevalprocAttr,List.length_append])
  ·obtain rfl:j=q.length:=by omega
   have bi:decide ((i:Int)<p.length)=true:=by simp;omega
   have bj:((q.length:Int)==q.length)=true:=by simp
   repeat' (first|omega|(first|apply ag|(refine an.intro (id:=11) so sk (by decide+kernel) mixed ?_)|(refine an.aq (id:=12) nG ig (by decide+kernel) mixed ?_)|(refine an.intro (id:=12) nG ig (by decide+kernel) mixed ?_)|(refine an.intro (id:=14) sj sf (by decide+kernel) mixed ?_)|(refine an.aq (id:=15) nF ig (by decide+kernel) mixed ?_)|(refine an.intro (id:=15) nF ig (by decide+kernel) mixed ?_)|(refine an.aq (id:=8) nE nD (by decide+kernel) mixed ?_)|(refine an.intro (id:=8) nE nD (by decide+kernel) mixed ?_)|skip);simp only [go_sem,sevalprocAttr,t0,t1,bi,bj,↓reduceIte,reduceCtorEq,so,sk,nG,ig,sj,sf,nF,nE,nD]|apply ah<;>(intro h_;(try simp only [h_]);revert h_)|apply ai|apply aj|apply ae|apply And.intro|with_reducible intro h_|trivial|simp only [go_sem,ak];omega)
   refine ⟨aA.inline (Dj _ _ g p q (nz done) (pE done) (p.getD i (0,0)).1 (p.getD i (0,0)).2 0 _ (hg _ _ (by omega) (by omega) (by omega) (by omega)) jF (fun h0=>?_) (fun h1=>?_))⟩
   ·repeat' (first|omega|(try apply ag);simp only [go_sem,sevalprocAttr]|apply ah<;>(intro h_;(try simp only [h_]);revert h_)|apply ai|apply aj|apply ae|apply And.intro|with_reducible intro h_|trivial|simp only [go_sem,ak];omega)
    refine ⟨_,_,_,?_,?_,⟨i+1,q.length,done++[((p.getD i (0,0)).1,f (p.getD i (0,0)).2 0)],by omega,by omega,rfl,by simp;omega,by rw [←fy,F3 fi (.inl rfl) hj];simp,rfl,rfl⟩⟩
    ·omega
    ·rw [Di done h0,u6];refine Wk.sub ?_ ?_<;>(simp only [go_sem,sevalprocAttr,List.length_append])
   ·repeat' (first|omega|(try apply ag);simp only [go_sem,sevalprocAttr]|apply ah<;>(intro h_;(try simp only [h_]);revert h_)|apply ai|apply aj|apply ae|apply And.intro|with_reducible intro h_|trivial|simp only [go_sem,ak];omega)
    refine ⟨_,_,_,?_,?_,⟨i+1,q.length,done++[((p.getD i (0,0)).1,f (p.getD i (0,0)).2 0)],by omega,by omega,rfl,by simp;omega,by rw [←fy,F3 fi (.inl rfl) hj];simp,rfl,rfl⟩⟩
    ·omega
    ·rw [Dh done h1,u6];refine Wk.sub ?_ ?_<;>(simp only [go_sem,sevalprocAttr,List.length_append])
 ·obtain rfl:i=p.length:=by omega
  by_cases cO:j<q.length
  ·have fq:=Ds hq cO;have u0:=u0 cO;have u1:=u1 cO;have bi:decide ((p.length:Int)<p.length)=false:=by simp
   have bin:((p.length:Int)==p.length)=true:=by simp
   have bj:((j:Int)==q.length)=false:=by simp;omega
   have bjl:decide ((j:Int)<q.length)=true:=by simp;omega
   repeat' (first|omega|(first|apply ag|(refine an.intro (id:=11) so sk (by decide+kernel) mixed ?_)|(refine an.aq (id:=12) nG ig (by decide+kernel) mixed ?_)|(refine an.intro (id:=12) nG ig (by decide+kernel) mixed ?_)|(refine an.intro (id:=14) sj sf (by decide+kernel) mixed ?_)|(refine an.aq (id:=15) nF ig (by decide+kernel) mixed ?_)|(refine an.intro (id:=15) nF ig (by decide+kernel) mixed ?_)|(refine an.aq (id:=8) nE nD (by decide+kernel) mixed ?_)|(refine an.intro (id:=8) nE nD (by decide+kernel) mixed ?_)|skip);simp only [go_sem,sevalprocAttr,u0,u1,bi,bin,bj,bjl,↓reduceIte,reduceCtorEq,so,sk,nG,ig,sj,sf,nF,nE,nD]|apply ah<;>(intro h_;(try simp only [h_]);revert h_)|apply ai|apply aj|apply ae|apply And.intro|with_reducible intro h_|trivial|simp only [go_sem,ak];omega)
   refine ⟨aA.inline (Dj _ _ g p q (nz done) (pE done) (q.getD j (0,0)).1 0 (q.getD j (0,0)).2 _ (hg _ _ (by omega) (by omega) (by omega) (by omega)) jF (fun h0=>?_) (fun h1=>?_))⟩
   ·repeat' (first|omega|(try apply ag);simp only [go_sem,sevalprocAttr]|apply ah<;>(intro h_;(try simp only [h_]);revert h_)|apply ai|apply aj|apply ae|apply And.intro|with_reducible intro h_|trivial|simp only [go_sem,ak];omega)
    refine ⟨_,_,_,?_,?_,⟨p.length,j+1,done++[((q.getD j (0,0)).1,f 0 (q.getD j (0,0)).2)],by omega,by omega,rfl,by simp;omega,by rw [←fy,F2 cO (.inl rfl) hi];simp,rfl,rfl⟩⟩
    ·omega
    ·rw [Di done h0,u6];refine Wk.sub ?_ ?_<;>(simp only [go_sem,sevalprocAttr,List.length_append])
   ·repeat' (first|omega|(try apply ag);simp only [go_sem,sevalprocAttr]|apply ah<;>(intro h_;(try simp only [h_]);revert h_)|apply ai|apply aj|apply ae|apply And.intro|with_reducible intro h_|trivial|simp only [go_sem,ak];omega)
    refine ⟨_,_,_,?_,?_,⟨p.length,j+1,done++[((q.getD j (0,0)).1,f 0 (q.getD j (0,0)).2)],by omega,by omega,rfl,by simp;omega,by rw [←fy,F2 cO (.inl rfl) hi];simp,rfl,rfl⟩⟩
    ·omega
    ·rw [Dh done h1,u6];refine Wk.sub ?_ ?_<;>(simp only [go_sem,sevalprocAttr,List.length_append])
  ·obtain rfl:j=q.length:=by omega
   rw [List.drop_length,List.drop_length] at fy;have hd:mrg f p q=done:=by rw [←fy];simp [mrg]
   rw [hd]
   repeat' (first|omega|(try apply ag);simp only [go_sem,sevalprocAttr]|apply ah<;>(intro h_;(try simp only [h_]);revert h_)|apply ai|apply aj|apply ae|apply And.intro|with_reducible intro h_|trivial|simp only [go_sem,ak];omega)
   all_goals first
    |(rw [if_pos (by assumption)];exact aR.refl _)
    |(rw [if_neg (by simp only [*];decide)];exact aR.js (.cons (aR.refl _) (.cons (aR.nils (by omega) rfl) .nil)))
    |(rw [if_pos (by assumption),List.take_of_length_le (by rw [ybn];omega)];exact aR.refl _)
theorem Ng (a b:Int) (h1: -1125899906842624<=a) (h2:a<=1125899906842624) (h3: -1125899906842624<=b) (h4:b<=1125899906842624):Fn Tryz.prog 168 [I a,I b] (I (nq a b)):=by
 unfold nq;refine Fn.intro [.tmp 4] Tryz.func168 rfl rfl (by decide) (by simp [Tryz.ntmps168]) ?_;rw [Tryz.ntmps168]
 repeat' (first|omega|(try apply ag);simp only [go_sem,sevalprocAttr]|apply ah<;>(intro h_;(try simp only [h_]);revert h_)|apply ai|apply aj|apply ae|apply And.intro|with_reducible intro h_|trivial|simp only [go_sem,ak];omega)
theorem Mc (p q:List (Int×Int)) (hp:uE p) (hq:uE q) (lI:p.length<=500000) (Cm:q.length<=500000) (cZ:pE (mrg nq p q)=true):Fn Tryz.prog 130 [plA false p,plA false q] (plA false (nz (mrg nq p q))):=by
 have hc:=TU p q 168 nq hp hq lI Cm (fun a b h1 h2 h3 h4=>Ng a b h1 h2 h3 h4);rw [if_pos cZ] at hc;refine Fn.intro [.cell 4 29] Tryz.func130 rfl rfl (by decide) (by simp [Tryz.ntmps130]) ?_;rw [Tryz.ntmps130]
 repeat' (first|omega|(try apply ag);simp only [go_sem,sevalprocAttr]|apply ah<;>(intro h_;(try simp only [h_]);revert h_)|apply ai|apply aj|apply ae|apply And.intro|with_reducible intro h_|trivial|simp only [go_sem,ak];omega)
 refine ⟨aA.fn rfl hc ?_⟩
 repeat' (first|omega|(try apply ag);simp only [go_sem,sevalprocAttr]|apply ah<;>(intro h_;(try simp only [h_]);revert h_)|apply ai|apply aj|apply ae|apply And.intro|with_reducible intro h_|trivial|simp only [go_sem,ak];omega)
end Go.Proofs.YtphjphpmfflfpaaGreatDoor
