/- Plain: powers of d as factors. -/
import Derived.Test.YtmdjdekgakidhaaGreatDoorZg
import Derived.Test.YtmdjdekgakidhaaGreatDoorZo
import Derived.Test.YtmdjdekgakidhaaGreatDoorZr
import Derived.Test.YtmdjdekgakidhaaGreatDoorZe
namespace Go.Proofs.YtmdjdekgakidhaaGreatDoor
set_option linter.unusedVariables false
set_option linter.unusedSimpArgs false
theorem J9 (p:List (Int×Int)) (g:Int->Int) (e:Int):cvL p (dw g) e=dw (cvL p g) e:=by
 induction p with
 |nil=>simp [cvL,dw]
 |cons t p ih=>
  simp only [cvL,ih,dw];rw [show e+2-t.1=e-t.1+2 by omega,show e-2-t.1=e-t.1-2 by omega,Int.mul_sub,Int.mul_neg];omega
theorem J8 (p:List (Int×Int)) (e:Int):cvL p (dpw 0) e=cfL p e:=by
 induction p with
 |nil=>rfl
 |cons t p ih=>
  simp only [cvL,cfL,ih,dpw];congr 1;by_cases h:t.1=e
  ·rw [if_pos h,if_pos (by omega)];simp
  ·rw [if_neg h,if_neg (by omega)];simp
theorem GH (p:List (Int×Int)): ∀(j:Nat) (e:Int),cvL p (dpw j) e=dmn j (cfL p) e
 |0,e=>J8 p e
 |j+1,e=>by
  have:dpw (j+1)=dw (dpw j):=rfl
  rw [this,J9];exact yC (GH p j) e
theorem MX: ∀j:Nat,dpw j (2*(j:Int))≠0
 |0=>by simp [dpw]
 |j+1=>by
  have ih:=MX j;have h0:dpw j (2*(j:Int)+4)=0:=by
   by_cases h:dpw j (2*(j:Int)+4)=0
   ·exact h
   ·have:=qi j _ h;omega
  simp only [dpw,dw];rw [show 2*((j+1:Nat):Int)+2=2*(j:Int)+4 by omega,show 2*((j+1:Nat):Int)-2=2*(j:Int) by omega,h0];omega
theorem zK {j:Nat} (hj:j<=100) {e:Int} (h:dpw j e≠0): -1000<=e/\e<=1000:=by have:=qi j e h;omega
theorem zJ {j:Nat} (hj:j<=20) (e:Int): -1048576<=dpw j e/\dpw j e<=1048576:=by
 have h:=zP j e;have h2:2^j<=2^20:=Nat.pow_le_pow_right (by omega) hj;omega
theorem Hv {q:List (Int×Int)} {j:Nat} (h:aV q (dpw j)):j+1<=q.length/\gS q<=2*j/\ -(2*(j:Int))<=aH q:=by
 have av:q≠[]:=fun e=>by
  subst e;exact MX j ((h.cf _).symm)
 have hr:=Nn h.asc h.cf (qi j);have oD:0<q.length:=List.length_pos_iff.2 av;have a:=hr _ (iO (i:=0) oD);have b:=hr _ (iO (i:=q.length-1) (by omega));refine ⟨Qk j q (dpw 0) h.asc ⟨0,fun e he=>by have:=qi 0 e he;omega⟩ (fun e=>?_) av,?_,?_⟩
 ·rw [h.cf];exact (D7 j e).symm.trans (qN (fun x=>rfl) j e)
 ·unfold gS;omega
 ·unfold aH;omega
theorem MW {m:List Int} {n:Nat} (hp:bD m n) (hn:0<n) (L:Nat) (e:Int):cu m n L 1 e=dmn L (cu m n 0 1) e:=by
 have key: ∀e,cu m n L (L+1) e=cu m n 0 1 e:=fun e=>by
  unfold cu rq;refine kK fun k _=>?_;unfold cN
  have:=Ep hp (e9 k) hn
  rw [if_pos (by omega),if_pos (by omega),show bT m n (e9 k)+L-(L+1)=bT m n (e9 k)+0-1 by omega]
 cases L with
 |zero=>rfl
 |succ L=>
  have h1:=Np (m:=m) (n:=n) (L:=L+1) L (by omega) e;rw [show L+1-L=1 by omega] at h1;rw [h1];have h2: ∀e,cu m n (L+1) (L+1) e=dmn 1 (cu m n 0 1) e:=fun e=>by
   have h3:=Pt (K:=2^n) (c:=cN m n (L+1)) (w:=wB n) (L+1) e;have h0:yU (2^n) (cN m n (L+1)) (wB n) (L+1) e=0:=by
    have:yU (2^n) (cN m n (L+1)) (wB n) (L+1) e=sm (fun _=>0) (2^n):=kK fun k _=>by
     rw [if_neg];rintro ⟨h2,_⟩
     have:=Ep hp (e9 k) hn
     unfold cN at h2;omega
    rw [this,qj];omega
   rw [h0,Int.add_zero] at h3;exact h3.trans (yC key e)
  rw [qN h2 L e,G5]
theorem Hu (L:Nat) (e:Int):cu [] 0 (L+1) 1 e=dpw L e:=by
 have h0:bT [] 0 (e9 0)=0:=rfl;have h1:cu [] 0 (L+1) 1 e=0+if 1<=cN [] 0 (L+1) 0 then dpw (cN [] 0 (L+1) 0-1) (e-wB 0 0) else 0:=rfl;rw [h1];unfold cN wB;rw [h0,if_pos (by omega),show 0+(L+1)-1=L by omega];simp [bY]
open Go Go.RowKit
set_option maxRecDepth 100000
set_option maxHeartbeats 8000000
def fM:Tr:= .node [(0, .node [(1, .node [(2, .node [(3,trD [4,5,6]),(4, .node [(3,trD [5,6]),(5,trD [3,6])])]),(4, .node [(2, .node [(3,trD [5,6]),(5,trD [3,6])]),(5,trD [2,3,6])])]),(2, .node [(1, .node [(3,trD [4,5,6]),(4, .node [(3,trD [5,6]),(5,trD [3,6])])]),(3, .node [(1,trD [4,5,6]),(4,trD [1,5,6])]),(4, .node [(1, .node [(3,trD [5,6]),(5,trD [3,6])]),(3,trD [1,5,6])])]),(4, .node [(1, .node [(2, .node [(3,trD [5,6]),(5,trD [3,6])]),(5,trD [2,3,6])]),(2, .node [(1, .node [(3,trD [5,6]),(5,trD [3,6])]),(3,trD [1,5,6])])])]),(2, .node [(0, .node [(1, .node [(3,trD [4,5,6]),(4, .node [(3,trD [5,6]),(5,trD [3,6])])]),(3, .node [(1,trD [4,5,6]),(4,trD [1,5,6])]),(4, .node [(1, .node [(3,trD [5,6]),(5,trD [3,6])]),(3,trD [1,5,6])])]),(3, .node [(0, .node [(1,trD [4,5,6]),(4,trD [1,5,6])]),(4,trD [0,1,5,6])]),(4, .node [(0, .node [(1, .node [(3,trD [5,6]),(5,trD [3,6])]),(3,trD [1,5,6])]),(3,trD [0,1,5,6])])]),(4, .node [(0, .node [(1, .node [(2, .node [(3,trD [5,6]),(5,trD [3,6])]),(5,trD [2,3,6])]),(2, .node [(1, .node [(3,trD [5,6]),(5,trD [3,6])]),(3,trD [1,5,6])])]),(2, .node [(0, .node [(1, .node [(3,trD [5,6]),(5,trD [3,6])]),(3,trD [1,5,6])]),(3,trD [0,1,5,6])])])]
def dk:Tr:= .node [(0,trD [1,2,3,4]),(1, .node [(0,trD [2,3,4]),(2,trD [0,3,4])])]
theorem J7 (p:List (Int×Int)):Fn Tryz.prog 74 [plA false p] (.bool false):=by
 refine Fn.intro [.tmp 2] Tryz.func74 rfl rfl (by decide) (by simp [Tryz.ntmps74]) ?_;rw [Tryz.ntmps74]
 repeat' (first|omega|(try apply ag);simp only [go_sem,sevalprocAttr]|apply ae<;>(intro h_;(try simp only [h_]);revert h_)|apply And.intro|with_reducible intro h_|trivial|simp only [go_sem,ah];omega)
theorem Ja:Fn Tryz.prog 43 [I (-2), .ro 1 5 (.ints [-1,0,0,0,-1])] (plA false [(-2,-1),(2,-1)]):=by
 have h:=FE (-2) [-1,0,0,0,-1] (by decide) (by decide) (by decide);rw [show tmI (-2) [-1,0,0,0,-1]=[(-2,-1),(2,-1)] by decide] at h;exact h
theorem I9:Fn Tryz.prog 43 [I 0, .ro 1 1 (.ints [1])] (plA false [(0,1)]):=by
 have h:=FE 0 [1] (by decide) (by decide) (by decide);rw [show tmI 0 [1]=[(0,1)] by decide] at h;exact h
theorem RO {q:List (Int×Int)} {j:Nat} (hj:j<=20) (h:aV q (dpw j)): ∃r,aV r (dpw (j+1))/\Fn Tryz.prog 10 [plA false q,plA false [(-2,-1),(2,-1)]] (plA false r):=by
 have hl:=Hv h;exact IZ h (fun e he=>zK (by omega) he) (fun e=>by have:=zJ hj e;omega) fun _=>by omega
theorem J6 {m:List Int} {n:Nat} (hp:bD m n) (hn:n<=9) (iK:0<n) {L:Nat} (hL:L<=20) {q:List (Int×Int)} (hq:aV q (dpw L)):
  Fn Tryz.prog 10 [plA false (bS (cu m n 0 1)),plA false q] (plA false (kE m n L)):=by
 have tX:aV (bS (cu m n 0 1)) (cu m n 0 1):=nQ fun e he=>tu hp hn (by omega) (zzA _) he;have gG: ∀{r:List (Int×Int)},aV r (cu m n L 1)->r=kE m n L:=fun h=>h.eq fun e he=>tu hp hn hL (zzA _) he;have hl:=Hv hq;by_cases jt:0<(bS (cu m n 0 1)).length
 ·obtain ⟨r,h1,h2⟩:=Gz tX hq (fun e he=>tu hp hn (by omega) (zzA _) he) (fun e he=>zK (by omega) he) (fun e=>by have:=DL hp hn (L:=0) (by omega) (zzA _) e;omega) (fun e=>by have:=zJ hL e;omega) (h:=cu m n L 1) (fun e=>by
   rw [GH,MW hp iK L e];exact qN tX.cf L e) (fun e=>by have:=DL hp hn hL (zzA _) e;omega) jt (by omega) (by
   have a:=Nn tX.asc tX.cf (fun e he=>Aj hp he);have a0:=a _ (iO (i:=0) jt);have a1:=a _ (iO (i:=(bS (cu m n 0 1)).length-1) (by omega));have h2:=OY hp;have e1:aH (bS (cu m n 0 1))=((bS (cu m n 0 1)).getD 0 (0,0)).1:=rfl;have e2:gS (bS (cu m n 0 1))=((bS (cu m n 0 1)).getD ((bS (cu m n 0 1)).length-1) (0,0)).1:=rfl;rw [←e1] at a0;rw [←e2] at a1
   generalize (bS (cu m n 0 1)).length=x at*
   have:4*(1:Int)*(L+1)<=4*(x:Int)*q.length:=Int.mul_le_mul (by omega) (by omega) (by omega) (by omega)
   omega)
  rw [gG h1] at h2;exact h2
 ·have h0:bS (cu m n 0 1)=[]:=List.length_eq_zero_iff.1 (by omega);have hz: ∀e,cu m n 0 1 e=0:=fun e=>by rw [←tX.cf,h0];rfl
  have:kE m n L=[]:=(gG (aV.nil.congr fun e=>by rw [MW hp iK L e,qN hz L e,O4])).symm
  rw [h0,this];exact Nr q
theorem Vg {L:Nat} (hL:L<=20) {q:List (Int×Int)} (hq:aV q (dpw L)):Fn Tryz.prog 10 [plA false [(0,1)],plA false q] (plA false (kE [] 0 (L+1))):=by
 have hl:=Hv hq;obtain ⟨r,h1,h2⟩:=Gz yc hq (fun e he=>zK (by omega) he) (fun e he=>zK (by omega) he) (fun e=>by have:=zJ (j:=0) (by omega) e;omega) (fun e=>by have:=zJ hL e;omega) (h:=dpw L) (fun e=>by
  rw [GH]
  have: ∀e,cfL [(0,1)] e=dpw 0 e:=yc.cf
  rw [qN this L e];exact (qN (fun x=>rfl) L e).trans (D7 L e)) (fun e=>by have:=zJ hL e;omega) (by decide) (by omega) (by
  have e1:gS [((0:Int),(1:Int))]=0:=rfl;have e2:aH [((0:Int),(1:Int))]=0:=rfl;rw [e1,e2,show ([((0:Int),(1:Int))]:List (Int×Int)).length=1 from rfl];omega)
 have:r=kE [] 0 (L+1):=by
  unfold kE;rw [h1.eq (fun e he=>zK (by omega) he)];congr 1;funext e;exact (Hu L e).symm
 rw [this] at h2;exact h2
theorem UM (s m:List Int) (L:Nat) (o:List Int) (R R':List (Int×Int)) (hs:s.length<=64) (hL:L<=20) (hv:cX s m L=true) (lX:nk o s.length=true) (av: ¬(s.length=0/\L=0)) (wN:oZ m o o.length<=20)
  (eH:0<s.length->Fn Tryz.prog 73 [dgA s m L,roI o] (.tup [plA false R, .bool true])) (Zs:s.length=0->R'=kE m s.length L)
  (hmul:0<s.length-> ∀q,aV q (dpw L)->Fn Tryz.prog 10 [plA false R,plA false q] (plA false R')):Fn Tryz.prog 31 [dgA s m L,roI o] (.tup [plA false R',I 0]):=by
 obtain ⟨j7,cI⟩:=Ew lX;have hW:=On s m L o (by omega) (by omega);have hp:=(jb hv).prd;have j9:=dI hv;unfold tK at hW;rw [if_pos hv,if_pos lX] at hW;generalize oZ m o o.length=wd at*;have bw:decide (20<wd)=false:=by rw [decide_eq_false_iff_not];omega
 have bL:decide (20<(L:Int))=false:=by rw [decide_eq_false_iff_not];omega
 have pI:=J7 R';have h1:=I9;have hd:=Ja;by_cases iK:s.length=0
 ·have Y8:=Zs iK;subst Y8;have b0:((s.length:Int)==0)=true:=by simpa using iK
  have xC:((L:Int)==0)=false:=by simp;omega
  refine Fn.ai [.cell 4 29, .tmp 5] Tryz.func31 rfl rfl (by decide) (by simp [Tryz.ntmps31]) ?_;rw [Tryz.ntmps31]
  repeat' (first|omega|(try apply ag);simp only [go_sem,sevalprocAttr]|apply ae<;>(intro h_;(try simp only [h_]);revert h_)|apply And.intro|with_reducible intro h_|trivial|simp only [go_sem,ah];omega)
  refine ⟨au.fn rfl hW ?_⟩
  repeat' (first|omega|(try apply ag);simp only [go_sem,sevalprocAttr,b0,xC,bw,bL]|apply ae<;>(intro h_;(try simp only [h_]);revert h_)|apply And.intro|with_reducible intro h_|trivial|simp only [go_sem,ah];omega)
  refine aj.cut [(9,I L),(8, .ptr 3 0),(4, .ptr 1 0),(2, .ptr 0 0),(1,roI o)] [(3, .cells 29 (.lst [.bool false,tmA [(0,1)]])),(1, .cells 29 (.lst [.bool false, .nils])),(0, .cells 24 (.lst [roI s,roI m,I L]))] ?_ ?_
  ·repeat' (first|omega|(first|apply ag|(refine aj.aq (id:=8) (fM) (by decide+kernel) mixed ?_)|(refine aj.intro (id:=8) [[43,44,8],[43,44,8],[41,42,8],[41,42,8],[41,42,43,44],[43,44],[]] [[],[],[0,1],[0,1],[0,1,2,3],[2,3],[]] (by decide+kernel) mixed ?_)|(refine aj.aq (id:=18) (dk) (by decide+kernel) mixed ?_)|(refine aj.intro (id:=18) [[67,68],[66],[66],[],[]] [[],[0],[0],[],[]] (by decide+kernel) mixed ?_)|(refine aj.ay (id:=18) (dk) (by decide+kernel) mixed ?_)|skip);simp only [go_sem,sevalprocAttr,b0,xC,bw,bL,↓reduceIte,reduceCtorEq,fM,dk]|apply ae<;>(intro h_;(try simp only [h_]);revert h_)|apply And.intro|with_reducible intro h_|trivial|simp only [go_sem,ah];omega)
   all_goals first
    |(refine ⟨au.jU (ys:=[I 0, .ro 1 1 (.ints [1])]) [2] rfl ?_ ?_ ?_ ?_ rfl rfl rfl (au.fn rfl h1 ?_)⟩
      ·simp only [go_sem,sevalprocAttr,zzA]
      ·simp only [go_sem,sevalprocAttr,zzA]
      ·simp only [go_sem,sevalprocAttr,zzA]
      ·simp only [go_sem,sevalprocAttr,zzA])
    |(refine ⟨au.jU (ys:=[I 0, .ro 1 1 (.ints [1])]) [3] rfl ?_ ?_ ?_ ?_ rfl rfl rfl (au.fn rfl h1 ?_)⟩
      ·simp only [go_sem,sevalprocAttr,zzA]
      ·simp only [go_sem,sevalprocAttr,zzA]
      ·simp only [go_sem,sevalprocAttr,zzA]
      ·simp only [go_sem,sevalprocAttr,zzA])
   all_goals (repeat' (first|omega|(first|apply ag|(refine aj.aq (id:=8) (fM) (by decide+kernel) mixed ?_)|(refine aj.intro (id:=8) [[43,44,8],[43,44,8],[41,42,8],[41,42,8],[41,42,43,44],[43,44],[]] [[],[],[0,1],[0,1],[0,1,2,3],[2,3],[]] (by decide+kernel) mixed ?_)|(refine aj.aq (id:=18) (dk) (by decide+kernel) mixed ?_)|(refine aj.intro (id:=18) [[67,68],[66],[66],[],[]] [[],[0],[0],[],[]] (by decide+kernel) mixed ?_)|(refine aj.ay (id:=18) (dk) (by decide+kernel) mixed ?_)|skip);simp only [go_sem,sevalprocAttr,b0,xC,bw,bL,↓reduceIte,reduceCtorEq,fM,dk]|apply ae<;>(intro h_;(try simp only [h_]);revert h_)|apply And.intro|with_reducible intro h_|trivial|simp only [go_sem,ah];omega))
   all_goals first
    |(refine Wk.sub ?_ ?_
      ·simp only [go_sem,sevalprocAttr]
      ·simp only [go_sem,sevalprocAttr,yaj])
    |(refine Wk.nS (fr1:=[(9,I L),(8, .ptr 2 0),(4, .ptr 1 0),(2, .ptr 0 0),(1,roI o)]) (H1:=[(2, .cells 29 (.lst [.bool false,tmA [(0,1)]])),(1, .cells 29 (.lst [.bool false, .nils])),(0, .cells 24 (.lst [roI s,roI m,I L]))]) 2 3 rfl rfl rfl rfl ?_ ?_
      ·simp only [go_sem,sevalprocAttr]
      ·simp only [go_sem,sevalprocAttr,yaj])
  obtain rfl:s=[]:=List.length_eq_zero_iff.1 iK;obtain rfl:m=[]:=List.length_eq_zero_iff.1 (by have:=hp.ok.1;simpa using this);obtain ⟨C,rfl⟩: ∃C,L=C+1:=⟨L-1,by simp at av;omega⟩;have hC:(C:Int)+1-1=(C:Nat):=by omega
  repeat' (first|omega|(try apply ag);simp only [go_sem,sevalprocAttr,b0,hC]|apply ae<;>(intro h_;(try simp only [h_]);revert h_)|apply And.intro|with_reducible intro h_|trivial|simp only [go_sem,ah];omega)
  refine ⟨au.jU [4] rfl (by simp only [go_sem,sevalprocAttr,zzA]) (by simp only [go_sem,sevalprocAttr,zzA]) (by simp only [go_sem,sevalprocAttr,zzA]) (by simp only [go_sem,sevalprocAttr,zzA]) rfl rfl rfl (au.fn rfl h1 ?_)⟩
  repeat' (first|omega|(try apply ag);simp only [go_sem,sevalprocAttr,b0,hC]|apply ae<;>(intro h_;(try simp only [h_]);revert h_)|apply And.intro|with_reducible intro h_|trivial|simp only [go_sem,ah];omega)
  refine aR.intro (fun n' fr H=> ∃(j:Nat) (q:List (Int×Int)),j<=C/\aV q (dpw j)/\n'=C-j/\fr=[(64,I j),(63,I (C:Nat)),(12, .ptr 5 0),(8, .ptr 3 0),(4, .ptr 1 0)]/\
   H=[(5, .cells 29 (.lst [.bool false,tmA q])),(3, .cells 29 (.lst [.bool false,tmA [(0,1)]])),(1, .cells 29 (.lst [.bool false, .nils]))]) ?_ ?_
  ·refine ⟨_,_,_,Wk.sub ?_ ?_,0,[(0,1)],by omega,yc,rfl,rfl,rfl⟩
   ·(simp only [go_sem,sevalprocAttr,hC])<;>rfl
   ·(simp only [go_sem,sevalprocAttr,yaj])<;>rfl
  rintro n' fr H ⟨j,q,hj,hq,rfl,rfl,rfl⟩;by_cases ug:j<C
  ·have bj:decide ((j:Int)<(C:Nat))=true:=by simp;omega
   obtain ⟨r,hr,hm⟩:=RO (by omega) hq
   repeat' (first|omega|(first|apply ag|(refine aj.aq (id:=8) (fM) (by decide+kernel) mixed ?_)|(refine aj.intro (id:=8) [[43,44,8],[43,44,8],[41,42,8],[41,42,8],[41,42,43,44],[43,44],[]] [[],[],[0,1],[0,1],[0,1,2,3],[2,3],[]] (by decide+kernel) mixed ?_)|(refine aj.aq (id:=18) (dk) (by decide+kernel) mixed ?_)|(refine aj.intro (id:=18) [[67,68],[66],[66],[],[]] [[],[0],[0],[],[]] (by decide+kernel) mixed ?_)|(refine aj.ay (id:=18) (dk) (by decide+kernel) mixed ?_)|skip);simp only [go_sem,sevalprocAttr,bj,↓reduceIte,reduceCtorEq,fM,dk]|apply ae<;>(intro h_;(try simp only [h_]);revert h_)|apply And.intro|with_reducible intro h_|trivial|simp only [go_sem,ah];omega)
   all_goals refine ⟨au.jU [6] rfl (by simp only [go_sem,sevalprocAttr,zzA,ycl,yb2]) (by simp only [go_sem,sevalprocAttr,zzA,ycl,yb2]) (by simp only [go_sem,sevalprocAttr,zzA,ycl,yb2]) (by simp only [go_sem,sevalprocAttr,zzA,ycl,yb2]) rfl rfl rfl (au.fn rfl hd ?_)⟩
   all_goals (repeat' (first|omega|(first|apply ag|(refine aj.aq (id:=8) (fM) (by decide+kernel) mixed ?_)|(refine aj.intro (id:=8) [[43,44,8],[43,44,8],[41,42,8],[41,42,8],[41,42,43,44],[43,44],[]] [[],[],[0,1],[0,1],[0,1,2,3],[2,3],[]] (by decide+kernel) mixed ?_)|(refine aj.aq (id:=18) (dk) (by decide+kernel) mixed ?_)|(refine aj.intro (id:=18) [[67,68],[66],[66],[],[]] [[],[0],[0],[],[]] (by decide+kernel) mixed ?_)|(refine aj.ay (id:=18) (dk) (by decide+kernel) mixed ?_)|skip);simp only [go_sem,sevalprocAttr,bj,↓reduceIte,reduceCtorEq,fM,dk]|apply ae<;>(intro h_;(try simp only [h_]);revert h_)|apply And.intro|with_reducible intro h_|trivial|simp only [go_sem,ah];omega))
   all_goals refine ⟨au.fn rfl hm ?_⟩
   all_goals (repeat' (first|omega|(first|apply ag|(refine aj.aq (id:=8) (fM) (by decide+kernel) mixed ?_)|(refine aj.intro (id:=8) [[43,44,8],[43,44,8],[41,42,8],[41,42,8],[41,42,43,44],[43,44],[]] [[],[],[0,1],[0,1],[0,1,2,3],[2,3],[]] (by decide+kernel) mixed ?_)|(refine aj.aq (id:=18) (dk) (by decide+kernel) mixed ?_)|(refine aj.intro (id:=18) [[67,68],[66],[66],[],[]] [[],[0],[0],[],[]] (by decide+kernel) mixed ?_)|(refine aj.ay (id:=18) (dk) (by decide+kernel) mixed ?_)|skip);simp only [go_sem,sevalprocAttr,bj,↓reduceIte,reduceCtorEq,fM,dk]|apply ae<;>(intro h_;(try simp only [h_]);revert h_)|apply And.intro|with_reducible intro h_|trivial|simp only [go_sem,ah];omega))
   all_goals (
    refine ⟨_,_,_,?_,Wk.sub ?_ ?_,j+1,r,by omega,hr,rfl,rfl,rfl⟩
    ·omega
    ·simp only [go_sem,sevalprocAttr]
    ·(simp only [go_sem,sevalprocAttr,yaj])<;>rfl)
  ·obtain rfl:C=j:=by omega
   have bj:decide (((C:Nat):Int)<(C:Nat))=false:=by simp
   have hl:=Vg (by omega) hq
   repeat' (first|omega|(first|apply ag|(refine aj.aq (id:=8) (fM) (by decide+kernel) mixed ?_)|(refine aj.intro (id:=8) [[43,44,8],[43,44,8],[41,42,8],[41,42,8],[41,42,43,44],[43,44],[]] [[],[],[0,1],[0,1],[0,1,2,3],[2,3],[]] (by decide+kernel) mixed ?_)|(refine aj.aq (id:=18) (dk) (by decide+kernel) mixed ?_)|(refine aj.intro (id:=18) [[67,68],[66],[66],[],[]] [[],[0],[0],[],[]] (by decide+kernel) mixed ?_)|(refine aj.ay (id:=18) (dk) (by decide+kernel) mixed ?_)|skip);simp only [go_sem,sevalprocAttr,bj,↓reduceIte,reduceCtorEq,fM,dk]|apply ae<;>(intro h_;(try simp only [h_]);revert h_)|apply And.intro|with_reducible intro h_|trivial|simp only [go_sem,ah];omega)
   all_goals refine ⟨au.fn rfl hl ?_⟩
   all_goals (repeat' (first|omega|(first|apply ag|(refine aj.aq (id:=8) (fM) (by decide+kernel) mixed ?_)|(refine aj.intro (id:=8) [[43,44,8],[43,44,8],[41,42,8],[41,42,8],[41,42,43,44],[43,44],[]] [[],[],[0,1],[0,1],[0,1,2,3],[2,3],[]] (by decide+kernel) mixed ?_)|(refine aj.aq (id:=18) (dk) (by decide+kernel) mixed ?_)|(refine aj.intro (id:=18) [[67,68],[66],[66],[],[]] [[],[0],[0],[],[]] (by decide+kernel) mixed ?_)|(refine aj.ay (id:=18) (dk) (by decide+kernel) mixed ?_)|skip);simp only [go_sem,sevalprocAttr,bj,↓reduceIte,reduceCtorEq,fM,dk]|apply ae<;>(intro h_;(try simp only [h_]);revert h_)|apply And.intro|with_reducible intro h_|trivial|simp only [go_sem,ah];omega))
   all_goals refine ⟨au.fn rfl pI ?_⟩
   all_goals (repeat' (first|omega|(first|apply ag|(refine aj.aq (id:=8) (fM) (by decide+kernel) mixed ?_)|(refine aj.intro (id:=8) [[43,44,8],[43,44,8],[41,42,8],[41,42,8],[41,42,43,44],[43,44],[]] [[],[],[0,1],[0,1],[0,1,2,3],[2,3],[]] (by decide+kernel) mixed ?_)|(refine aj.aq (id:=18) (dk) (by decide+kernel) mixed ?_)|(refine aj.intro (id:=18) [[67,68],[66],[66],[],[]] [[],[0],[0],[],[]] (by decide+kernel) mixed ?_)|(refine aj.ay (id:=18) (dk) (by decide+kernel) mixed ?_)|skip);simp only [go_sem,sevalprocAttr,bj,↓reduceIte,reduceCtorEq,fM,dk]|apply ae<;>(intro h_;(try simp only [h_]);revert h_)|apply And.intro|with_reducible intro h_|trivial|simp only [go_sem,ah];omega))
   all_goals exact az.refl _
 ·have b0:((s.length:Int)==0)=false:=by simpa using iK
  have xC:True:=trivial;refine Fn.ai [.cell 4 29, .tmp 5] Tryz.func31 rfl rfl (by decide) (by simp [Tryz.ntmps31]) ?_;rw [Tryz.ntmps31]
  repeat' (first|omega|(try apply ag);simp only [go_sem,sevalprocAttr]|apply ae<;>(intro h_;(try simp only [h_]);revert h_)|apply And.intro|with_reducible intro h_|trivial|simp only [go_sem,ah];omega)
  refine ⟨au.fn rfl hW ?_⟩
  repeat' (first|omega|(try apply ag);simp only [go_sem,sevalprocAttr,b0,xC,bw,bL]|apply ae<;>(intro h_;(try simp only [h_]);revert h_)|apply And.intro|with_reducible intro h_|trivial|simp only [go_sem,ah];omega)
  refine aj.cut [(9,I L),(8, .ptr 3 0),(4, .ptr 1 0),(2, .ptr 0 0),(1,roI o)] [(3, .cells 29 (.lst [.bool false,tmA [(0,1)]])),(1, .cells 29 (.lst [.bool false, .nils])),(0, .cells 24 (.lst [roI s,roI m,I L]))] ?_ ?_
  ·repeat' (first|omega|(first|apply ag|(refine aj.aq (id:=8) (fM) (by decide+kernel) mixed ?_)|(refine aj.intro (id:=8) [[43,44,8],[43,44,8],[41,42,8],[41,42,8],[41,42,43,44],[43,44],[]] [[],[],[0,1],[0,1],[0,1,2,3],[2,3],[]] (by decide+kernel) mixed ?_)|(refine aj.aq (id:=18) (dk) (by decide+kernel) mixed ?_)|(refine aj.intro (id:=18) [[67,68],[66],[66],[],[]] [[],[0],[0],[],[]] (by decide+kernel) mixed ?_)|(refine aj.ay (id:=18) (dk) (by decide+kernel) mixed ?_)|skip);simp only [go_sem,sevalprocAttr,b0,xC,bw,bL,↓reduceIte,reduceCtorEq,fM,dk]|apply ae<;>(intro h_;(try simp only [h_]);revert h_)|apply And.intro|with_reducible intro h_|trivial|simp only [go_sem,ah];omega)
   all_goals first
    |(refine ⟨au.jU (ys:=[I 0, .ro 1 1 (.ints [1])]) [2] rfl ?_ ?_ ?_ ?_ rfl rfl rfl (au.fn rfl h1 ?_)⟩
      ·simp only [go_sem,sevalprocAttr,zzA]
      ·simp only [go_sem,sevalprocAttr,zzA]
      ·simp only [go_sem,sevalprocAttr,zzA]
      ·simp only [go_sem,sevalprocAttr,zzA])
    |(refine ⟨au.jU (ys:=[I 0, .ro 1 1 (.ints [1])]) [3] rfl ?_ ?_ ?_ ?_ rfl rfl rfl (au.fn rfl h1 ?_)⟩
      ·simp only [go_sem,sevalprocAttr,zzA]
      ·simp only [go_sem,sevalprocAttr,zzA]
      ·simp only [go_sem,sevalprocAttr,zzA]
      ·simp only [go_sem,sevalprocAttr,zzA])
   all_goals (repeat' (first|omega|(first|apply ag|(refine aj.aq (id:=8) (fM) (by decide+kernel) mixed ?_)|(refine aj.intro (id:=8) [[43,44,8],[43,44,8],[41,42,8],[41,42,8],[41,42,43,44],[43,44],[]] [[],[],[0,1],[0,1],[0,1,2,3],[2,3],[]] (by decide+kernel) mixed ?_)|(refine aj.aq (id:=18) (dk) (by decide+kernel) mixed ?_)|(refine aj.intro (id:=18) [[67,68],[66],[66],[],[]] [[],[0],[0],[],[]] (by decide+kernel) mixed ?_)|(refine aj.ay (id:=18) (dk) (by decide+kernel) mixed ?_)|skip);simp only [go_sem,sevalprocAttr,b0,xC,bw,bL,↓reduceIte,reduceCtorEq,fM,dk]|apply ae<;>(intro h_;(try simp only [h_]);revert h_)|apply And.intro|with_reducible intro h_|trivial|simp only [go_sem,ah];omega))
   all_goals first
    |(refine Wk.sub ?_ ?_
      ·simp only [go_sem,sevalprocAttr]
      ·simp only [go_sem,sevalprocAttr,yaj])
    |(refine Wk.nS (fr1:=[(9,I L),(8, .ptr 2 0),(4, .ptr 1 0),(2, .ptr 0 0),(1,roI o)]) (H1:=[(2, .cells 29 (.lst [.bool false,tmA [(0,1)]])),(1, .cells 29 (.lst [.bool false, .nils])),(0, .cells 24 (.lst [roI s,roI m,I L]))]) 2 3 rfl rfl rfl rfl ?_ ?_
      ·simp only [go_sem,sevalprocAttr]
      ·simp only [go_sem,sevalprocAttr,yaj])
  have eH:=eH (by omega)
  repeat' (first|omega|(try apply ag);simp only [go_sem,sevalprocAttr,b0]|apply ae<;>(intro h_;(try simp only [h_]);revert h_)|apply And.intro|with_reducible intro h_|trivial|simp only [go_sem,ah];omega)
  refine ⟨au.fn rfl eH ?_⟩
  repeat' (first|omega|(try apply ag);simp only [go_sem,sevalprocAttr,b0]|apply ae<;>(intro h_;(try simp only [h_]);revert h_)|apply And.intro|with_reducible intro h_|trivial|simp only [go_sem,ah];omega)
  refine ⟨au.jU [5] rfl (by simp only [go_sem,sevalprocAttr,zzA,ycl,yb2]) (by simp only [go_sem,sevalprocAttr,zzA,ycl,yb2]) (by simp only [go_sem,sevalprocAttr,zzA,ycl,yb2]) (by simp only [go_sem,sevalprocAttr,zzA,ycl,yb2]) rfl rfl rfl (au.fn rfl h1 ?_)⟩
  repeat' (first|omega|(try apply ag);simp only [go_sem,sevalprocAttr,b0]|apply ae<;>(intro h_;(try simp only [h_]);revert h_)|apply And.intro|with_reducible intro h_|trivial|simp only [go_sem,ah];omega)
  refine aR.intro (fun n' fr H=> ∃(j:Nat) (q:List (Int×Int)),j<=L/\aV q (dpw j)/\n'=L-j/\fr=[(64,I j),(63,I (L:Nat)),(12, .ptr 6 0),(8, .ptr 3 0),(4, .ptr 1 0)]/\
   H=[(6, .cells 29 (.lst [.bool false,tmA q])),(3, .cells 29 (.lst [.bool false,tmA R])),(1, .cells 29 (.lst [.bool false, .nils]))]) ?_ ?_
  ·refine ⟨_,_,_,Wk.sub ?_ ?_,0,[(0,1)],by omega,yc,rfl,rfl,rfl⟩
   ·(simp only [go_sem,sevalprocAttr,cI])<;>rfl
   ·(simp only [go_sem,sevalprocAttr,yaj])<;>rfl
  rintro n' fr H ⟨j,q,hj,hq,rfl,rfl,rfl⟩;by_cases ug:j<L
  ·have bj:decide ((j:Int)<(L:Nat))=true:=by simp;omega
   obtain ⟨r,hr,hm⟩:=RO (by omega) hq
   repeat' (first|omega|(first|apply ag|(refine aj.aq (id:=8) (fM) (by decide+kernel) mixed ?_)|(refine aj.intro (id:=8) [[43,44,8],[43,44,8],[41,42,8],[41,42,8],[41,42,43,44],[43,44],[]] [[],[],[0,1],[0,1],[0,1,2,3],[2,3],[]] (by decide+kernel) mixed ?_)|(refine aj.aq (id:=18) (dk) (by decide+kernel) mixed ?_)|(refine aj.intro (id:=18) [[67,68],[66],[66],[],[]] [[],[0],[0],[],[]] (by decide+kernel) mixed ?_)|(refine aj.ay (id:=18) (dk) (by decide+kernel) mixed ?_)|skip);simp only [go_sem,sevalprocAttr,bj,↓reduceIte,reduceCtorEq,fM,dk]|apply ae<;>(intro h_;(try simp only [h_]);revert h_)|apply And.intro|with_reducible intro h_|trivial|simp only [go_sem,ah];omega)
   all_goals refine ⟨au.jU [7] rfl (by simp only [go_sem,sevalprocAttr,zzA,ycl,yb2]) (by simp only [go_sem,sevalprocAttr,zzA,ycl,yb2]) (by simp only [go_sem,sevalprocAttr,zzA,ycl,yb2]) (by simp only [go_sem,sevalprocAttr,zzA,ycl,yb2]) rfl rfl rfl (au.fn rfl hd ?_)⟩
   all_goals (repeat' (first|omega|(first|apply ag|(refine aj.aq (id:=8) (fM) (by decide+kernel) mixed ?_)|(refine aj.intro (id:=8) [[43,44,8],[43,44,8],[41,42,8],[41,42,8],[41,42,43,44],[43,44],[]] [[],[],[0,1],[0,1],[0,1,2,3],[2,3],[]] (by decide+kernel) mixed ?_)|(refine aj.aq (id:=18) (dk) (by decide+kernel) mixed ?_)|(refine aj.intro (id:=18) [[67,68],[66],[66],[],[]] [[],[0],[0],[],[]] (by decide+kernel) mixed ?_)|(refine aj.ay (id:=18) (dk) (by decide+kernel) mixed ?_)|skip);simp only [go_sem,sevalprocAttr,bj,↓reduceIte,reduceCtorEq,fM,dk]|apply ae<;>(intro h_;(try simp only [h_]);revert h_)|apply And.intro|with_reducible intro h_|trivial|simp only [go_sem,ah];omega))
   all_goals refine ⟨au.fn rfl hm ?_⟩
   all_goals (repeat' (first|omega|(first|apply ag|(refine aj.aq (id:=8) (fM) (by decide+kernel) mixed ?_)|(refine aj.intro (id:=8) [[43,44,8],[43,44,8],[41,42,8],[41,42,8],[41,42,43,44],[43,44],[]] [[],[],[0,1],[0,1],[0,1,2,3],[2,3],[]] (by decide+kernel) mixed ?_)|(refine aj.aq (id:=18) (dk) (by decide+kernel) mixed ?_)|(refine aj.intro (id:=18) [[67,68],[66],[66],[],[]] [[],[0],[0],[],[]] (by decide+kernel) mixed ?_)|(refine aj.ay (id:=18) (dk) (by decide+kernel) mixed ?_)|skip);simp only [go_sem,sevalprocAttr,bj,↓reduceIte,reduceCtorEq,fM,dk]|apply ae<;>(intro h_;(try simp only [h_]);revert h_)|apply And.intro|with_reducible intro h_|trivial|simp only [go_sem,ah];omega))
   all_goals (
    refine ⟨_,_,_,?_,Wk.sub ?_ ?_,j+1,r,by omega,hr,rfl,rfl,rfl⟩
    ·omega
    ·simp only [go_sem,sevalprocAttr]
    ·(simp only [go_sem,sevalprocAttr,yaj])<;>rfl)
  ·obtain rfl:L=j:=by omega
   have bj:decide (((L:Nat):Int)<(L:Nat))=false:=by simp
   have hl:=hmul (by omega) q hq
   repeat' (first|omega|(first|apply ag|(refine aj.aq (id:=8) (fM) (by decide+kernel) mixed ?_)|(refine aj.intro (id:=8) [[43,44,8],[43,44,8],[41,42,8],[41,42,8],[41,42,43,44],[43,44],[]] [[],[],[0,1],[0,1],[0,1,2,3],[2,3],[]] (by decide+kernel) mixed ?_)|(refine aj.aq (id:=18) (dk) (by decide+kernel) mixed ?_)|(refine aj.intro (id:=18) [[67,68],[66],[66],[],[]] [[],[0],[0],[],[]] (by decide+kernel) mixed ?_)|(refine aj.ay (id:=18) (dk) (by decide+kernel) mixed ?_)|skip);simp only [go_sem,sevalprocAttr,bj,↓reduceIte,reduceCtorEq,fM,dk]|apply ae<;>(intro h_;(try simp only [h_]);revert h_)|apply And.intro|with_reducible intro h_|trivial|simp only [go_sem,ah];omega)
   all_goals refine ⟨au.fn rfl hl ?_⟩
   all_goals (repeat' (first|omega|(first|apply ag|(refine aj.aq (id:=8) (fM) (by decide+kernel) mixed ?_)|(refine aj.intro (id:=8) [[43,44,8],[43,44,8],[41,42,8],[41,42,8],[41,42,43,44],[43,44],[]] [[],[],[0,1],[0,1],[0,1,2,3],[2,3],[]] (by decide+kernel) mixed ?_)|(refine aj.aq (id:=18) (dk) (by decide+kernel) mixed ?_)|(refine aj.intro (id:=18) [[67,68],[66],[66],[],[]] [[],[0],[0],[],[]] (by decide+kernel) mixed ?_)|(refine aj.ay (id:=18) (dk) (by decide+kernel) mixed ?_)|skip);simp only [go_sem,sevalprocAttr,bj,↓reduceIte,reduceCtorEq,fM,dk]|apply ae<;>(intro h_;(try simp only [h_]);revert h_)|apply And.intro|with_reducible intro h_|trivial|simp only [go_sem,ah];omega))
   all_goals refine ⟨au.fn rfl pI ?_⟩
   all_goals (repeat' (first|omega|(first|apply ag|(refine aj.aq (id:=8) (fM) (by decide+kernel) mixed ?_)|(refine aj.intro (id:=8) [[43,44,8],[43,44,8],[41,42,8],[41,42,8],[41,42,43,44],[43,44],[]] [[],[],[0,1],[0,1],[0,1,2,3],[2,3],[]] (by decide+kernel) mixed ?_)|(refine aj.aq (id:=18) (dk) (by decide+kernel) mixed ?_)|(refine aj.intro (id:=18) [[67,68],[66],[66],[],[]] [[],[0],[0],[],[]] (by decide+kernel) mixed ?_)|(refine aj.ay (id:=18) (dk) (by decide+kernel) mixed ?_)|skip);simp only [go_sem,sevalprocAttr,bj,↓reduceIte,reduceCtorEq,fM,dk]|apply ae<;>(intro h_;(try simp only [h_]);revert h_)|apply And.intro|with_reducible intro h_|trivial|simp only [go_sem,ah];omega))
   all_goals exact az.refl _
theorem UL (s m:List Int) (L:Nat) (o:List Int) (hs:s.length<=14) (hL:L<=20) (hv:cX s m L=true) (lX:nk o s.length=true) (av: ¬(s.length=0/\L=0)) (wN:oZ m o o.length<=20)
  (hmul:0<s.length-> ∀q,aV q (dpw L)->Fn Tryz.prog 10 [plA false (bS (cu m s.length 0 1)),plA false q] (plA false (kE m s.length L))):Fn Tryz.prog 31 [dgA s m L,roI o] (.tup [plA false (kE m s.length L),I 0]):=by
 obtain ⟨j7,cI⟩:=Ew lX;have j9:=dI hv;refine UM s m L o (bS (cu m s.length 0 1)) _ (by omega) hL hv lX av wN (fun h0=>?_) (fun _=>rfl) hmul;have Cq:(o.map Int.toNat).map (Nat.cast:Nat->Int)=o:=by
  rw [List.map_map]
  conv=>rhs;rw [←List.map_id o]
  exact List.map_congr_left fun x hx=>by
   have:=j7.rg x hx
   simp only [Function.comp,id];omega
 have hnd:(o.map Int.toNat).Nodup:=by
  rw [List.nodup_iff_pairwise_ne,List.pairwise_map];refine List.Pairwise.imp_of_mem (fun {a b} ha hb av e=>av ?_) (List.nodup_iff_pairwise_ne.1 j7.nd);have h1:=j7.rg a ha;have h2:=j7.rg b hb;omega
 have eH:=Vh s m L j9 hnd (by rw [List.length_map,cI]) (fun c hc=>by
  obtain ⟨x,hx,rfl⟩:=List.mem_map.1 hc
  have:=j7.rg x hx
  omega) (by omega) (by omega)
 rw [Cq] at eH;exact eH
theorem Uz (s m:List Int) (L:Nat) (o:List Int) (hs:s.length<=9) (hL:L<=20) (hv:cX s m L=true) (lX:nk o s.length=true) (av: ¬(s.length=0/\L=0)):Fn Tryz.prog 31 [dgA s m L,roI o] (.tup [plA false (kE m s.length L),I 0]):=by
 obtain ⟨j7,cI⟩:=Ew lX;have hp:=(jb hv).prd;have wN:=AF hp.ok hp.inv j7 cI o.length (by omega);exact UL s m L o (by omega) hL hv lX av (by omega) fun h0 q hq=>J6 (dI hv) hs h0 hL hq
theorem C1 (k:Int):az (.tup [.agg [.bool false, .nils],I k]) (.tup [plA false [],I k]):=az.KD (.cons (az.iA (.cons (az.refl _) (.cons (az.nils (es:=2) (by decide) rfl) .nil))) (.cons (az.refl _) .nil))
theorem J5 (m:List Int) (o:List Int) (ho:o.length<=1000) (hv:cX [] m 0=true) (hp:nk o 0=true):Fn Tryz.prog 31 [dgA [] m 0,roI o] (.tup [plA false [],I 8]):=by
 have hW:=On [] m 0 o (by simp) (by omega);unfold tK at hW;rw [if_pos hv,if_pos (show nk o ([]:List Int).length=true from hp)] at hW;refine Fn.ai [.cell 4 29, .tmp 5] Tryz.func31 rfl rfl (by decide) (by simp [Tryz.ntmps31]) ?_;rw [Tryz.ntmps31]
 repeat' (first|omega|(try apply ag);simp only [go_sem,sevalprocAttr,hv]|(refine ⟨au.fn (r:=?_) rfl ?_ ?_⟩;rotate_left;assumption)|(refine ⟨bI.fn (r:=?_) rfl ?_ ?_⟩;rotate_left;assumption)|apply ae<;>(intro h_;(try simp only [h_]);revert h_)|apply And.intro|with_reducible intro h_|trivial|simp only [go_sem,ah];omega)
 all_goals exact C1 8
theorem Vf:Fn Tryz.prog 21 [plA false []] (.bool true):=by
 refine Fn.intro [.tmp 2] Tryz.func21 rfl rfl (by decide) (by simp [Tryz.ntmps21]) ?_;rw [Tryz.ntmps21]
 repeat' (first|omega|(try apply ag);simp only [go_sem,sevalprocAttr]|apply ae<;>(intro h_;(try simp only [h_]);revert h_)|apply And.intro|with_reducible intro h_|trivial|simp only [go_sem,ah];omega)
end Go.Proofs.YtmdjdekgakidhaaGreatDoor
set_option linter.unusedSimpArgs false
set_option linter.unusedVariables false
namespace Go.Proofs.YtmdjdekgakidhaaGreatDoor
open Go Go.RowKit
set_option maxRecDepth 100000
set_option maxHeartbeats 4000000
abbrev pL (g:Nat) (p q acc:List (Int×Int)) (fits:Bool):Hp:=[(6, .cells 4 (.lst [.bool fits])),(5, .cells 29 (.lst [.bool false, .sl 2 4 0 acc.length])),(4, .cells 62 (.lst (dr acc))),(3, .cells 29 (.lst [.bool false, .nils])),(2, .cells 117 (.lst [.fn g []])),(1, .cells 29 (.lst [.bool false,tmA q])),(0, .cells 29 (.lst [.bool false,tmA p]))]
theorem Af (fr:Fr) (K:AV->Fr->Hp->Prop) (g:Nat) (p q acc:List (Int×Int)) (fits:Bool) (e a b c:Int) (hg:Fn Tryz.prog g [I a,I b] (I c)) (hl:acc.length<=1000000)
  (ld:c=0->K (.tup []) fr (pL g p q acc (fits&&gH c 1125899906842624))) (mZ:c≠0->K (.tup []) (fcut 4 fr) [(4, .cells 62 (.lst (dr (acc++[(e,c)])))),(7, .cells 62 (.lst [I e,I c])),(6, .cells 4 (.lst [.bool (fits&&gH c 1125899906842624)])),(5, .cells 29 (.lst [.bool false, .sl 2 4 0 (acc.length+1)])),(3, .cells 29 (.lst [.bool false, .nils])),(2, .cells 117 (.lst [.fn g []])),(1, .cells 29 (.lst [.bool false,tmA q])),(0, .cells 29 (.lst [.bool false,tmA p]))]):gq Tryz.prog 127 [I e,I a,I b, .ptr 2 0, .ptr 6 0, .ptr 5 0] fr (pL g p q acc fits) K:=by
 unfold pL at*;have hw:=wD c 1125899906842624 (by omega) (by omega);refine gq.intro [] Tryz.func127 rfl rfl (by decide) (by simp [Tryz.ntmps127]) ?_;rw [Tryz.ntmps127]
 repeat' (first|omega|(try apply ag);simp only [go_sem,sevalprocAttr]|apply ae<;>(intro h_;(try simp only [h_]);revert h_)|apply And.intro|with_reducible intro h_|trivial|simp only [go_sem,ah];omega)
 refine ⟨au.fn rfl hg ?_⟩;cases fits
 ·repeat' (first|omega|(try apply ag);simp only [go_sem,sevalprocAttr]|apply ae<;>(intro h_;(try simp only [h_]);revert h_)|apply And.intro|with_reducible intro h_|trivial|simp only [go_sem,ah];omega)
  ·rw [wC];exact mZ (by assumption)
  ·exact ld (by assumption)
 ·repeat' (first|omega|(try apply ag);simp only [go_sem,sevalprocAttr]|apply ae<;>(intro h_;(try simp only [h_]);revert h_)|apply And.intro|with_reducible intro h_|trivial|simp only [go_sem,ah];omega)
  refine ⟨au.fn rfl hw ?_⟩
  repeat' (first|omega|(try apply ag);simp only [go_sem,sevalprocAttr]|apply ae<;>(intro h_;(try simp only [h_]);revert h_)|apply And.intro|with_reducible intro h_|trivial|simp only [go_sem,ah];omega)
  ·rw [wC];exact mZ (by assumption)
  ·exact ld (by assumption)
theorem CZ {f:Int->Int->Int} {p q:List (Int×Int)} {i j:Nat} (hi:i<p.length) (h:j=q.length\/(p.getD i (0,0)).1<(q.getD j (0,0)).1) (hj:j<=q.length):mrg f (p.drop i) (q.drop j)=((p.getD i (0,0)).1,f (p.getD i (0,0)).2 0)::mrg f (p.drop (i+1)) (q.drop j):=by
 rw [List.drop_eq_getElem_cons hi];have e:p.getD i (0,0)=p[i]:=by simp [hi]
 rw [e] at h⊢;rcases Nat.lt_or_ge j q.length with g|g
 ·rw [List.drop_eq_getElem_cons g];have e2:q.getD j (0,0)=q[j]:=by simp [g]
  rw [e2] at h
  conv=>lhs;unfold mrg
  rw [if_pos (by omega)]
 ·rw [List.drop_of_length_le g]
  conv=>lhs;unfold mrg
theorem CY {f:Int->Int->Int} {p q:List (Int×Int)} {i j:Nat} (hj:j<q.length) (h:i=p.length\/(q.getD j (0,0)).1<(p.getD i (0,0)).1) (hi:i<=p.length):mrg f (p.drop i) (q.drop j)=((q.getD j (0,0)).1,f 0 (q.getD j (0,0)).2)::mrg f (p.drop i) (q.drop (j+1)):=by
 rw [List.drop_eq_getElem_cons hj];have e:q.getD j (0,0)=q[j]:=by simp [hj]
 rw [e] at h⊢;rcases Nat.lt_or_ge i p.length with g|g
 ·rw [List.drop_eq_getElem_cons g];have e2:p.getD i (0,0)=p[i]:=by simp [g]
  rw [e2] at h
  conv=>lhs;unfold mrg
  rw [if_neg (by omega),if_pos (by omega)]
 ·rw [List.drop_of_length_le g]
  conv=>lhs;unfold mrg
theorem RN {f:Int->Int->Int} {p q:List (Int×Int)} {i j:Nat} (hi:i<p.length) (hj:j<q.length) (h:(q.getD j (0,0)).1=(p.getD i (0,0)).1):mrg f (p.drop i) (q.drop j)=((p.getD i (0,0)).1,f (p.getD i (0,0)).2 (q.getD j (0,0)).2)::mrg f (p.drop (i+1)) (q.drop (j+1)):=by
 rw [List.drop_eq_getElem_cons hi,List.drop_eq_getElem_cons hj];have e:p.getD i (0,0)=p[i]:=by simp [hi]
 have e2:q.getD j (0,0)=q[j]:=by simp [hj]
 rw [e,e2] at h⊢
 conv=>lhs;unfold mrg
 rw [if_neg (by omega),if_neg (by omega)]
theorem Ae {c e:Int} (l:List (Int×Int)) (h:c=0):nz (l++[(e,c)])=nz l:=by unfold nz;rw [List.filter_append];simp [h]
theorem Ad {c e:Int} (l:List (Int×Int)) (h:c≠0):nz (l++[(e,c)])=nz l++[(e,c)]:=by unfold nz;rw [List.filter_append];simp [h]
theorem sR (l:List (Int×Int)) (e c:Int):nO (l++[(e,c)])=(nO l&&gH c 1125899906842624):=by unfold nO;simp
end Go.Proofs.YtmdjdekgakidhaaGreatDoor
