/- Layer 18: the law JonesReverses. -/
import Derived.Test.YtphjphpmfflfpaaGreatDoorZp
import Derived.Test.YtphjphpmfflfpaaGreatDoorJr4
import Derived.Test.YtphjphpmfflfpaaGreatDoorJr5
import Derived.Test.YtphjphpmfflfpaaGreatDoorEq1
namespace Go.Proofs.YtphjphpmfflfpaaGreatDoor
open Go Go.RowKit
set_option maxRecDepth 100000
set_option maxHeartbeats 8000000
set_option linter.unusedVariables false
set_option linter.unusedSimpArgs false
def AX:List (List Nat):=[[],[],[],[],[],[],[],[],[],[],[],[80,81,82,83],[79,81,82],[79,80],[79,80],[79],[],[],[]]
def Bi:List (List Nat):=[[],[],[],[],[],[],[],[],[],[],[],[],[11],[11,12],[11,12],[11],[],[],[]]
def Bh:Tr:= .node [(0, .node [(1, .node [(2, .node [(3, .node [(4, .node [(5, .node [(6, .node [(7, .node [(8, .node [(9, .node [(10, .node [(11, .node [(12, .node [(13, .node [(14, .node [(15, .node [(16, .node [(17, .node [(18, .done)])])])])])]),(13, .node [(12, .node [(14, .node [(15, .node [(16, .node [(17, .node [(18, .done)])])])])]),(14, .node [(12, .node [(15, .node [(16, .node [(17, .node [(18, .done)])])])])])])]),(12, .node [(11, .node [(13, .node [(14, .node [(15, .node [(16, .node [(17, .node [(18, .done)])])])])])]),(13, .node [(11, .node [(14, .node [(15, .node [(16, .node [(17, .node [(18, .done)])])])])]),(14, .node [(11, .node [(15, .node [(16, .node [(17, .node [(18, .done)])])])]),(15, .node [(11, .node [(16, .node [(17, .node [(18, .done)])])])])])])]),(13, .node [(11, .node [(12, .node [(14, .node [(15, .node [(16, .node [(17, .node [(18, .done)])])])])]),(14, .node [(12, .node [(15, .node [(16, .node [(17, .node [(18, .done)])])])])])]),(12, .node [(11, .node [(14, .node [(15, .node [(16, .node [(17, .node [(18, .done)])])])])]),(14, .node [(11, .node [(15, .node [(16, .node [(17, .node [(18, .done)])])])]),(15, .node [(11, .node [(16, .node [(17, .node [(18, .done)])])])])])]),(14, .node [(11, .node [(12, .node [(15, .node [(16, .node [(17, .node [(18, .done)])])])])]),(12, .node [(11, .node [(15, .node [(16, .node [(17, .node [(18, .done)])])])]),(15, .node [(11, .node [(16, .node [(17, .node [(18, .done)])])])])])])])])])])])])])])])])])])]
theorem J4 (s:List Int): ∀n,bq s n=sm (fun c=>s.getD c 0) n
 |0=>rfl
 |n+1=>by simp only [bq,sm];rw [J4 s n]
section
variable {s m:List Int} {l:Nat} {u o:Nat->Nat} (hv:bF s m l=true) (ha:CH s m (a8 s m).length u o)
include hv ha
omit hv ha in
theorem Uw (hg: ∀c:Nat,c<s.length->gA (lS (a8 s m) (a8 s m).length) c=((u c:Int),(o c:Int))) (i j:Nat): ∀n,n<=s.length->pL s (lS (a8 s m) (a8 s m).length) i j n=pK s u o i j n
 |0,_=>rfl
 |n+1,hn=>by
  have ih:=Uw hg i j n (by omega);simp only [pL];rw [ih,hg n (by omega)];unfold pK;simp only [sm];congr 1;have e:zF (u n:Int) (o n:Int) i j=true↔(u n=i/\o n=j\/u n=j/\o n=i):=by
   unfold zF;simp only [Bool.or_eq_true,Bool.and_eq_true,beq_iff_eq];omega
  by_cases h:u n=i/\o n=j\/u n=j/\o n=i
  ·rw [if_pos (e.2 h),if_pos h]
  ·rw [if_neg fun k=>h (e.1 k),if_neg h]
theorem Ec (i:Nat) {c:Nat} (hc:c<s.length):(pb (aI s m i) s.length true).getD c false=decide (u c=i)/\(pb (aI s m i) s.length false).getD c false=decide (o c=i):=by
 have v:=cK hv;by_cases hi:i<(a8 s m).length
 ·obtain ⟨b1,b2⟩:=FY hv ha hc i hi;obtain ⟨a0,a1,a2,a3⟩:=mK s c;have mem: ∀x:Int,x∈aI s m i↔ ∃k,k<(aI s m i).length/\(aI s m i).getD k 0=x:=fun x=>by
   generalize aI s m i=l;rw [List.mem_iff_getElem];constructor
   ·rintro ⟨i,h,e⟩;exact ⟨i,h,by simp only [List.getD_eq_getElem?_getD,List.getElem?_eq_getElem h,Option.getD_some,e]⟩
   ·rintro ⟨i,h,e⟩;exact ⟨i,h,by simpa only [List.getD_eq_getElem?_getD,List.getElem?_eq_getElem h,Option.getD_some] using e⟩
  have ov:k9 s c=4*c+1/\s.getD c 0=1\/k9 s c=4*c+3/\s.getD c 0= -1:=by
   unfold k9;rcases v.sg c hc with h|h
   ·exact .inl ⟨if_pos h,h⟩
   ·exact .inr ⟨if_neg (by omega),h⟩
  refine ⟨Bool.eq_iff_iff.2 ?_,Bool.eq_iff_iff.2 ?_⟩
  ·rw [J5 _ _ _ hc,decide_eq_true_iff,←b1,mem];constructor
   ·rintro ⟨k,k1,k2,k3⟩;have hx:=(mem _).2 ⟨k,k1,rfl⟩;obtain ⟨r1,r2⟩:=Bv v hi hx;unfold au at r1;have k2:=of_decide_eq_true k2;refine ⟨k,k1,?_⟩;rcases (show (aI s m i).getD k 0=((4*c:Nat):Int)\/(aI s m i).getD k 0=((4*c+2:Nat):Int) by omega) with h|h
    ·rw [h,a0] at r2;cases r2
    ·exact h
   ·rintro ⟨k,k1,k2⟩;exact ⟨k,k1,by rw [k2];exact decide_eq_true (by omega),by rw [k2];omega⟩
  ·rw [J5 _ _ _ hc,decide_eq_true_iff,←b2,mem];constructor
   ·rintro ⟨k,k1,k2,k3⟩;have hx:=(mem _).2 ⟨k,k1,rfl⟩;obtain ⟨r1,r2⟩:=Bv v hi hx;unfold au at r1;have k2:=of_decide_eq_false k2;refine ⟨k,k1,?_⟩;rcases (show (aI s m i).getD k 0=((4*c+1:Nat):Int)\/(aI s m i).getD k 0=((4*c+3:Nat):Int) by omega) with h|h
    ·rw [h,a1] at r2;rcases ov with ⟨e1,e2⟩|⟨e1,e2⟩
     ·rw [h,e1]
     ·rw [e2] at r2;cases r2
    ·rw [h,a3] at r2;rcases ov with ⟨e1,e2⟩|⟨e1,e2⟩
     ·rw [e2] at r2;cases r2
     ·rw [h,e1]
   ·rintro ⟨k,k1,k2⟩;exact ⟨k,k1,by rw [k2];exact decide_eq_false (by omega),by rw [k2];omega⟩
 ·have e0:aI s m i=[]:=by simp [aI,Nat.le_of_not_lt hi]
  have:=ha.ul c hc
  have:=ha.ol c hc
  rw [e0,decide_eq_false (by omega: ¬u c=i),decide_eq_false (by omega: ¬o c=i)];constructor<;>simp [pb,kp,List.getD_eq_getElem?_getD,hc]
theorem LR (i:Nat) {N:Nat} (hN:(a8 s m).length<=N) {un ov:Nat->Bool} (wA: ∀c,c<s.length->un c=decide (u c=i)/\ov c=decide (o c=i)):
  bF (qB s un ov) (wh m un) l=true/\bq (qB s un ov) s.length=bq s s.length-4*nP s u o i N:=by
 have v:=cK hv;have hb: ∀x,x<4*s.length->mI un ov x=mI (fun c=>decide (u c=i)) (fun c=>decide (o c=i)) x:=fun x hx=>by
  obtain ⟨h1,h2⟩:=wA (x/4) (by omega);unfold mI;rw [h1,h2]
 refine ⟨Ok hv fun x hx=>?_,?_⟩
 ·have:=v.mt x hx
  rw [hb _ (by omega),hb x hx];exact FR hv ha i x hx
 ·have h1:=DX (s:=s) (un:=un) (ov:=ov);have h2:=Nt hv ha i hN;have h3:sm (fun c=>if un c=ov c then 0 else s.getD c 0) s.length=sm (fun c=>if decide (u c=i)=decide (o c=i) then 0 else s.getD c 0) s.length:=dO fun c hc=>by
   obtain ⟨h1,h2⟩:=wA c hc;rw [h1,h2]
  rw [J4,J4,h1,h3,←h2];omega
omit ha in
theorem Uv (i:Nat): ∀k:Nat,-(40*(k:Int))<=nP s u o i k/\nP s u o i k<=40*k
 |0=>by simp [nP,sm]
 |k+1=>by
  have ih:=Uv i k;have v:=cK hv;have qh:=v.s64;have h1: ∀n,n<=s.length-> -(n:Int)<=pK s u o i k n/\pK s u o i k n<=n:=fun n=>by
   induction n with
   |zero=>intro _;simp [pK,sm]
   |succ n ih=>
    intro hn
    have:=ih (by omega)
    have:=v.sg n (by omega)
    unfold pK at*;simp only [sm]
    split<;>omega
  have:=h1 s.length (Nat.le_refl _)
  unfold nP at*;simp only [sm]
  split<;>omega
end
theorem LQ {s m m':List Int} {l:Nat} {w S:Int} (hp:aE m s.length) (cQ:aE m' s.length) (hs:s.length<=9) (hl:l<=20) (hb: ∀e,aU m' s.length l 1 e=aU m s.length l 1 e) (hw: -9<=w/\w<=9) (WY: -9<=w-4*S/\w-4*S<=9):
  Fn Tryz.prog 38 [plA false (cW m s.length l w),I (12*S)] (plA false (cW m' s.length l (w-4*S))):=by
 have j1:=se (w:=w) hp hs hl hw;have j2:=se (w:=w-4*S) cQ hs hl WY;obtain ⟨a1,a2⟩:=Hc (12*S) (by omega) j1 fun e he=>by have:=mL hp hs hl hw he;omega
 have e:im (12*S) (cW m s.length l w)=cW m' s.length l (w-4*S):=b8.ext a1.asc j2.asc fun e=>by
  rw [a1.cf,j2.cf];unfold dZ;rw [hb,show e+3*(w-4*S)=e-12*S+3*w by omega];by_cases h:w % 2=0
  ·rw [if_pos h,if_pos (by omega)]
  ·rw [if_neg h,if_neg (by omega)]
 rw [←e];exact a2
theorem yp2 (s m:List Int) (L:Int) (z:Int) (hz:0<=z/\z<=255):Fn Tryz.prog 7 [dgA s m L, .int .u8 z] (.bool true):=by
 have hA:=Dw;have hF:=Bz s m L;cases hf:uD s m L with
 |false=>
  rw [hf] at hF;refine Fn.intro [.tmp 4] Tryz.func7 rfl rfl (by decide) (by simp [Tryz.ntmps7]) ?_;rw [Tryz.ntmps7]
  repeat' (first|omega|(first|apply ag|(refine an.intro (id:=18) AX Bi (by decide+kernel) mixed ?_)|(refine an.aB (id:=18) (Bh) (by decide+kernel) mixed ?_)|skip);simp only [go_sem,sevalprocAttr,hA,↓reduceIte,reduceCtorEq,AX,Bi,Bh]|(refine ⟨aA.fn (r:=?_) rfl ?_ ?_⟩;rotate_left;assumption)|(refine ⟨bC.fn (r:=?_) rfl ?_ ?_⟩;rotate_left;assumption)|apply ah<;>(intro h_;(try simp only [h_]);revert h_)|apply ai|apply aj|apply ae|apply And.intro|with_reducible intro h_|trivial|simp only [go_sem,ak];omega)
 |true=>
 rw [hf] at hF;obtain ⟨hs,l,rfl,hl,hv,az⟩:=xu hf;have v1:=cK hv;have hp:=bP hv;have hw:=rh v1.sg s.length (Nat.le_refl _);have hC:=HU s m l;rw [hv,if_pos rfl] at hC;have cL:=zu s m;have iw:=v1.len;obtain ⟨N,hN⟩: ∃N:Nat,(a8 s m).length+l=N:=⟨_,rfl⟩;rw [show ((a8 s m).length:Int)+l=(N:Int) by omega] at hC;have hN1:1<=N:=by
  by_cases h:0<s.length
  ·have:=Sp.jC v1 h;omega
  ·omega
 obtain ⟨i,hi⟩: ∃i:Nat,z.tmod N=i:=⟨(z % N).toNat,by rw [Int.tmod_eq_emod_of_nonneg hz.1];have:=Int.emod_nonneg z (show (N:Int)≠0 by omega);omega⟩;have hiN:i<N:=by
  rw [Int.tmod_eq_emod_of_nonneg hz.1] at hi
  have:=Int.emod_lt_of_pos z (show (0:Int)<N by omega);omega
 have w1:IntKind.i64.wrap z=z:=IntWalk.i64_in _ (by omega);have wm:(if (N:Int)<1 then 1 else (N:Int))=N:=if_neg (by omega);obtain ⟨u,o,ha,hg⟩:=Oj hv;have hR:=YL s m l hv i (by omega);obtain ⟨un,wA⟩: ∃un:Nat->Bool,un=fun c=>(pb (aI s m i) s.length true).getD c false:=⟨_,rfl⟩;obtain ⟨ov,PH⟩: ∃ov:Nat->Bool,ov=fun c=>(pb (aI s m i) s.length false).getD c false:=⟨_,rfl⟩;rw [←wA,←PH] at hR
 obtain ⟨sL,Ig⟩:=LR hv ha i (N:=N) (by omega) (un:=un) (ov:=ov) fun c hc=>by rw [wA,PH];exact Ec hv ha i hc
 have jK:(qB s un ov).length=s.length:=VS;have rM:=bP sL;rw [jK] at rM;have sI:=rh (cK sL).sg s.length (by rw [jK];exact Nat.le_refl _);rw [Ig] at sI;have hP:=pJ s m l hs (by omega) hv az;have hX:=pJ (qB s un ov) (wh m un) l (by omega) (by omega) sL (by rw [jK];exact az);rw [jK,Ig] at hX
 have hSh:=LQ (w:=bq s s.length) (S:=nP s u o i N) hp rM hs (show l<=20 by omega) (fun e=>DY hv l 1 e) (by omega) (by omega);have hE:=BP (cW (wh m un) s.length l (bq s s.length-4*nP s u o i N)) (by
  have:=(se (w:=bq s s.length-4*nP s u o i N) rM hs (show l<=20 by omega) (by omega)).len fun e he=>by have:=mL rM hs (show l<=20 by omega) (by omega) he;omega
  omega)
 have Qs: ∀j:Nat,j<N->i≠j->Fn Tryz.prog 44 [dgA s m l,I i,I j] (.tup [I (pK s u o i j s.length/2),I 0]):=fun j hj eK=>by
  have e:=Uw hg i j s.length (Nat.le_refl _);have h:=ZR s m l hv i j (by omega) (by omega) eK (by rw [e];exact RA hv ha eK);rw [e] at h;exact h
 have hlk:=Uv (u:=u) (o:=o) hv i;have hlS: ∀k,nP s u o i (k+1)=nP s u o i k+if k=i then 0 else pK s u o i k s.length/2:=fun k=>rfl;have yq:nP s u o i 0=0:=rfl;have hSb: -100<=nP s u o i N/\nP s u o i N<=100:=by omega
 generalize cW (wh m un) s.length l (bq s s.length-4*nP s u o i N)=q at*;generalize cW m s.length l (bq s s.length)=p at*;generalize qB s un ov=sr at*;generalize wh m un=mr at*;generalize nP s u o i=lk at*;clear sL rM Ig wA PH ha hg hp;refine Fn.intro [.tmp 4] Tryz.func7 rfl rfl (by decide) (by simp [Tryz.ntmps7]) ?_;rw [Tryz.ntmps7]
 repeat' (first|omega|(first|apply ag|(refine an.intro (id:=18) AX Bi (by decide+kernel) mixed ?_)|(refine an.aB (id:=18) (Bh) (by decide+kernel) mixed ?_)|skip);simp only [go_sem,sevalprocAttr,hA,w1,wm,hi,↓reduceIte,reduceCtorEq,AX,Bi,Bh]|(refine ⟨aA.fn (r:=?_) rfl ?_ ?_⟩;rotate_left;assumption)|(refine ⟨bC.fn (r:=?_) rfl ?_ ?_⟩;rotate_left;assumption)|apply ah<;>(intro h_;(try simp only [h_]);revert h_)|apply ai|apply aj|apply ae|apply And.intro|with_reducible intro h_|trivial|simp only [go_sem,ak];omega)
 refine bV.intro (fun n fr H=> ∃k:Nat,k<=N/\n=N-k/\fr=[(39,I k),(38,I N),(9,I (lk k)),(8,I 0),(7, .ptr 1 0),(6,I i),(5,I N),(2, .ptr 0 0)]/\
  H=[(1, .cells 24 (.lst [roI sr,roI mr,I l])),(0, .cells 24 (.lst [roI s,roI m,I l]))]) ?_ ?_
 ·refine ⟨_,_,_,Wk.sub ?_ ?_,0,by omega,rfl,rfl,rfl⟩
  ·simp only [go_sem,sevalprocAttr,yq]
  ·simp only [go_sem,sevalprocAttr]
 rintro n fr H ⟨k,hk,rfl,rfl,rfl⟩;by_cases fW:k<N
 ·have bk:decide ((k:Int)<N)=true:=by simpa using fW
  have jG:=hlS k;by_cases EY:k=i
  ·subst EY;rw [if_pos rfl,Int.add_zero] at jG;have bi:((k:Int)!=(k:Int))=false:=by simp
   repeat' (first|omega|(try apply ag);simp only [go_sem,sevalprocAttr,bk,bi]|apply ah<;>(intro h_;(try simp only [h_]);revert h_)|apply ai|apply aj|apply ae|apply And.intro|with_reducible intro h_|trivial|simp only [go_sem,ak];omega)
   refine ⟨_,_,_,?_,Wk.sub ?_ ?_,k+1,by omega,rfl,rfl,rfl⟩
   ·omega
   ·simp only [go_sem,sevalprocAttr,jG]
   ·simp only [go_sem,sevalprocAttr]
  ·rw [if_neg EY] at jG;have bi:((k:Int)!=(i:Int))=true:=by simp;omega
   have XS:=Qs k fW fun e=>EY e.symm;obtain ⟨t,ht⟩: ∃t,pK s u o i k s.length/2=t:=⟨_,rfl⟩;rw [ht] at XS jG;have hb: -1000000<=lk k+t/\lk k+t<=1000000:=by have:=hlk (k+1);omega
   repeat' (first|omega|(try apply ag);simp only [go_sem,sevalprocAttr,bk,bi]|apply ah<;>(intro h_;(try simp only [h_]);revert h_)|apply ai|apply aj|apply ae|apply And.intro|with_reducible intro h_|trivial|simp only [go_sem,ak];omega)
   refine ⟨aA.fn rfl XS ?_⟩
   repeat' (first|omega|(try apply ag);simp only [go_sem,sevalprocAttr,bk,bi]|apply ah<;>(intro h_;(try simp only [h_]);revert h_)|apply ai|apply aj|apply ae|apply And.intro|with_reducible intro h_|trivial|simp only [go_sem,ak];omega)
   refine ⟨_,_,_,?_,Wk.sub ?_ ?_,k+1,by omega,rfl,rfl,rfl⟩
   ·omega
   ·simp only [go_sem,sevalprocAttr,jG]
   ·simp only [go_sem,sevalprocAttr]
 obtain rfl:k=N:=by omega
 have bk:decide (((k:Nat):Int)<k)=false:=by simp
 repeat' (first|omega|(first|apply ag|(refine an.intro (id:=18) AX Bi (by decide+kernel) mixed ?_)|(refine an.aB (id:=18) (Bh) (by decide+kernel) mixed ?_)|skip);simp only [go_sem,sevalprocAttr,bk,↓reduceIte,reduceCtorEq,AX,Bi,Bh]|(refine ⟨aA.fn (r:=?_) rfl ?_ ?_⟩;rotate_left;assumption)|(refine ⟨bC.fn (r:=?_) rfl ?_ ?_⟩;rotate_left;assumption)|apply ah<;>(intro h_;(try simp only [h_]);revert h_)|apply ai|apply aj|apply ae|apply And.intro|with_reducible intro h_|trivial|simp only [go_sem,ak];omega)
end Go.Proofs.YtphjphpmfflfpaaGreatDoor
