/- Layer 18: the chapter's examples, the limits of the statements. -/
import Derived.Test.YtphjphpmfflfpaaGreatDoorZu
import Derived.Test.YtphjphpmfflfpaaGreatDoorZk
namespace Go.Proofs.YtphjphpmfflfpaaGreatDoor
open Go Go.RowKit
set_option maxRecDepth 100000
set_option maxHeartbeats 8000000
set_option linter.unusedVariables false
set_option linter.unusedSimpArgs false
abbrev ll:List Int:=[1,1,1]
abbrev jF:List Int:=[9,4,7,10,1,8,11,2,5,0,3,6]
theorem yK:dm ll jF 0=true:=by decide+kernel
theorem I2 (e:Int):bA jF 3 0 1 e=cfL [(-7,1),(-3,-1),(5,-1)] e:=by
 have h:ld jF ll.length 0=[(-7,1),(-3,-1),(5,-1)]:=I3 (s:=ll) (m:=jF) (L:=0) yK (by decide) (by decide) (p:=[(-7,1),(-3,-1),(5,-1)]) ⟨by decide,by decide⟩ 14 (by decide) (by decide) (by decide+kernel);have hP:bH (ld jF 3 0) (bA jF 3 0 1):=sX fun e he=>tH (fA yK) (by decide) (by decide) (by decide) he;rw [←hP.cf];rw [show ld jF 3 0=[(-7,1),(-3,-1),(5,-1)] from h]
theorem F8 (e:Int):fu jF 3 0 3 e=cfL [(-16,-1),(-12,1),(-4,1)] e:=by
 unfold fu;rw [if_neg (by decide),I2];simp only [cfL]
 repeat' split
 all_goals omega
theorem Bb:nG jF 3 0 3=[(-16,-1),(-12,1),(-4,1)]:=by
 have:bH [(-16,-1),(-12,1),(-4,1)] (fu jF 3 0 3):=⟨⟨by decide,by decide⟩,fun e=>(F8 e).symm⟩
 exact (this.eq fun e he=>by have:=pz (fA yK) (by decide) (by decide) (by decide) he;omega).symm
theorem Ba:dJ (gI jF 3 0 3 1)=[(1,1),(3,1),(4,-1)]:=by
 have:bH [(1,1),(3,1),(4,-1)] (gI jF 3 0 3 1):=⟨⟨by decide,by decide⟩,fun e=>by
  unfold gI jY;rw [if_pos (by decide),F8];simp only [cfL]
  repeat' split
  all_goals omega⟩
 refine (this.eq fun e he=>?_).symm;unfold gI jY at he;rw [if_pos (by decide)] at he
 have:=pz (fA yK) (by decide) (by decide) (by decide) he;omega
theorem Wv:dm [] [] 2=true:=by decide+kernel
theorem Bx:dJ (gI [] 0 2 0 2)=[(-1,-1),(0,-1)]:=by
 have h0: ∀x,gI [] 0 2 0 2 x=cfL [(-1,-1),(0,-1)] x:=fun x=>by
  unfold gI jY fu;rw [if_neg (by decide),if_pos (by decide),Hj 1];simp only [dpw,c9,cfL]
  repeat' split
  all_goals omega
 have:bH [(-1,-1),(0,-1)] (gI [] 0 2 0 2):=⟨⟨by decide,by decide⟩,fun e=>(h0 e).symm⟩
 refine (this.eq fun e he=>?_).symm;rw [h0] at he;simp only [cfL] at he;by_cases h1:(-1:Int)=e
 ·omega
 ·by_cases h2:(0:Int)=e
  ·omega
  ·rw [if_neg h1,if_neg h2] at he;exact absurd rfl he
theorem VU:Fn Tryz.prog 23 [dgA ll jF 0] (.tup [plA false [(-16,-1),(-12,1),(-4,1)],I 0]):=by
 have h:=Aw ll jF 0 (by decide) (by decide) yK (by decide);rw [show b8 ll ll.length=3 from rfl,show nG jF ll.length 0 3=[(-16,-1),(-12,1),(-4,1)] from Bb] at h;exact h
theorem A9:Fn Tryz.prog 28 [plA false [(-16,-1),(-12,1),(-4,1)], .str ⟨#[65]⟩] (.str ⟨#[45,65,94,45,49,54,43,65,94,45,49,50,43,65,94,45,52]⟩):=by
 have h:=Mz [(-16,-1),(-12,1),(-4,1)] ⟨#[65]⟩ (fun k hk=>by
  match k,hk with
  |0,_=>decide
  |1,_=>decide
  |2,_=>decide) (by decide) (by decide)
 rw [show (⟨#[65]⟩:ByteArray).data.toList=[65] from rfl,show lj [65] [(-16,-1),(-12,1),(-4,1)]=[45,65,94,45,49,54,43,65,94,45,49,50,43,65,94,45,52] by decide+kernel] at h;exact h
theorem J4: ∀e,fu jF ll.length ((0:Nat)) (b8 ll ll.length) e≠0->(e-2*(((j8 ll jF).length:Int)+((0:Nat):Int)-1))% 4=0:=fun e he=>by
 have ky:fu jF 3 0 3 e≠0:=he;rw [F8] at ky;rw [show ((j8 ll jF).length:Int)+(0:Nat)=1 by decide+kernel];simp only [cfL] at ky;by_cases h1:(-16:Int)=e
 ·omega
 ·by_cases h2:(-12:Int)=e
  ·omega
  ·by_cases h3:(-4:Int)=e
   ·omega
   ·rw [if_neg h1,if_neg h2,if_neg h3] at ky;exact absurd rfl ky
theorem J3: ∀e,fu [] ([]:List Int).length ((2:Nat)) (b8 [] ([]:List Int).length) e≠0->(e-2*(((j8 [] []).length:Int)+((2:Nat):Int)-1))% 4=0:=fun e he=>by
 have ky:fu [] 0 2 0 e≠0:=he;unfold fu at ky;rw [if_pos (by decide),Hj 1] at ky;rw [show ((j8 [] []).length:Int)+(2:Nat)=2 by decide+kernel];simp only [dpw,c9] at ky
 split at ky<;>split at ky<;>omega
theorem VT:Fn Tryz.prog 25 [dgA ll jF 0] (.tup [.str ⟨#[116,43,116,94,51,45,116,94,52]⟩,I 0]):=by
 have h:=NS ll jF 0 (by decide) (by decide) yK (by decide) J4;rw [show ((j8 ll jF).length:Int)+(0:Nat)=1 by decide+kernel,show b8 ll ll.length=3 from rfl,show dJ (gI jF ll.length 0 3 1)=[(1,1),(3,1),(4,-1)] from Ba,show BD 1 [(1,1),(3,1),(4,-1)]=[116,43,116,94,51,45,116,94,52] by decide+kernel] at h;exact h
theorem VS:Fn Tryz.prog 25 [dgA [] [] 2] (.tup [.str ⟨#[40,45,116,94,45,49,45,49,41,116,94,40,49,47,50,41]⟩,I 0]):=by
 have h:=NS [] [] 2 (by decide) (by decide) Wv (by decide) J3;rw [show ((j8 [] []).length:Int)+(2:Nat)=2 by decide+kernel,show b8 [] ([]:List Int).length=0 from rfl,show dJ (gI [] ([]:List Int).length 2 0 2)=[(-1,-1),(0,-1)] from Bx,show BD 2 [(-1,-1),(0,-1)]=[40,45,116,94,45,49,45,49,41,116,94,40,49,47,50,41] by decide+kernel] at h;exact h
theorem Tl:Fn Tryz.prog 21 [] (.bool true):=by
 have hP:=VU;have hX:=A9;have hT:=VT;have hL:=VS
 have tu:Fn Tryz.prog 25 [.agg [.nils, .nils,I 2]] (.tup [.str ⟨#[40,45,116,94,45,49,45,49,41,116,94,40,49,47,50,41]⟩,I 0]):=
  hL.arg (.cons (aM.j7 (.cons (aM.nils (by decide) rfl) (.cons (aM.nils (by decide) rfl) (.cons (aM.refl _) .nil)))) .nil)
 refine Fn.au [.tmp 0] Tryz.func21 rfl rfl (by decide) (by simp [Tryz.ntmps21]) ?_;rw [Tryz.ntmps21]
 repeat' (first|omega|(try apply aj);simp only [go_sem,sevalprocAttr]|apply ag<;>(intro h_;(try simp only [h_]);revert h_)|apply ah|apply ai|apply ae|apply And.intro|with_reducible intro h_|trivial|simp only [go_sem,ak];omega)
 refine ⟨az.kB [0,1] rfl (by simp only [go_sem,sevalprocAttr,Nat.le_refl]) (by simp only [go_sem,sevalprocAttr,Nat.le_refl]) (by simp only [go_sem,sevalprocAttr,Nat.le_refl]) (by simp only [go_sem,sevalprocAttr,Nat.le_refl]) rfl rfl rfl (az.fn rfl hP ?_)⟩
 repeat' (first|omega|(try apply aj);simp only [go_sem,sevalprocAttr,hX]|(refine ⟨az.fn (r:=?_) rfl ?_ ?_⟩;rotate_left;assumption)|(refine ⟨cg.fn (r:=?_) rfl ?_ ?_⟩;rotate_left;assumption)|apply ag<;>(intro h_;(try simp only [h_]);revert h_)|apply ah|apply ai|apply ae|apply And.intro|with_reducible intro h_|trivial|simp only [go_sem,ak];omega)
 all_goals exact aM.refl _
def sE (s m:List Int) (L:Int):Bool:=decide (s.length<=9)&&decide (m.length<=45)&&(decide (L<=9)||decide (64<L))
theorem I1 (s m:List Int) (L:Int):Fn Tryz.prog 22 [dgA s m L] (.bool (sE s m L)):=by
 unfold sE;by_cases h1:s.length<=9
 ·have b1:decide ((s.length:Int)<=9)=true:=by rw [decide_eq_true_iff];omega
  rw [decide_eq_true h1];by_cases h2:m.length<=45
  ·have b2:decide ((m.length:Int)<=45)=true:=by rw [decide_eq_true_iff];omega
   rw [decide_eq_true h2];cases b3:decide (L<=9) with
   |true=>
    refine Fn.intro [.tmp 2] Tryz.func22 rfl rfl (by decide) (by simp [Tryz.ntmps22]) ?_;rw [Tryz.ntmps22]
    repeat' (first|omega|(try apply aj);simp only [go_sem,sevalprocAttr,b1,b2,b3]|apply ag<;>(intro h_;(try simp only [h_]);revert h_)|apply ah|apply ai|apply ae|apply And.intro|with_reducible intro h_|trivial|simp only [go_sem,ak];omega)
   |false=>
    refine Fn.intro [.tmp 2] Tryz.func22 rfl rfl (by decide) (by simp [Tryz.ntmps22]) ?_;rw [Tryz.ntmps22]
    repeat' (first|omega|(try apply aj);simp only [go_sem,sevalprocAttr,b1,b2,b3]|apply ag<;>(intro h_;(try simp only [h_]);revert h_)|apply ah|apply ai|apply ae|apply And.intro|with_reducible intro h_|trivial|simp only [go_sem,ak];omega)
  ·have b2:decide ((m.length:Int)<=45)=false:=by rw [decide_eq_false_iff_not];omega
   rw [decide_eq_false h2];refine Fn.intro [.tmp 2] Tryz.func22 rfl rfl (by decide) (by simp [Tryz.ntmps22]) ?_;rw [Tryz.ntmps22]
   repeat' (first|omega|(try apply aj);simp only [go_sem,sevalprocAttr,b1,b2]|apply ag<;>(intro h_;(try simp only [h_]);revert h_)|apply ah|apply ai|apply ae|apply And.intro|with_reducible intro h_|trivial|simp only [go_sem,ak];omega)
 ·have b1:decide ((s.length:Int)<=9)=false:=by rw [decide_eq_false_iff_not];omega
  rw [decide_eq_false h1];refine Fn.intro [.tmp 2] Tryz.func22 rfl rfl (by decide) (by simp [Tryz.ntmps22]) ?_;rw [Tryz.ntmps22]
  repeat' (first|omega|(try apply aj);simp only [go_sem,sevalprocAttr,b1]|apply ag<;>(intro h_;(try simp only [h_]);revert h_)|apply ah|apply ai|apply ae|apply And.intro|with_reducible intro h_|trivial|simp only [go_sem,ak];omega)
def zK (s m:List Int) (L:Int):Bool:=sE s m L&&dm s m L&&decide (0<(s.length:Int)+L)
theorem J2 (s m:List Int) (L:Int):Fn Tryz.prog 34 [dgA s m L] (.bool (zK s m L)):=by
 have hF:=I1 s m L;have hV:=tP s m L;unfold zK;cases h1:sE s m L with
 |false=>
  rw [h1] at hF;refine Fn.intro [.tmp 2] Tryz.func34 rfl rfl (by decide) (by simp [Tryz.ntmps34]) ?_;rw [Tryz.ntmps34]
  repeat' (first|omega|(try apply aj);simp only [go_sem,sevalprocAttr,hF]|(refine ⟨az.fn (r:=?_) rfl ?_ ?_⟩;rotate_left;assumption)|(refine ⟨cg.fn (r:=?_) rfl ?_ ?_⟩;rotate_left;assumption)|apply ag<;>(intro h_;(try simp only [h_]);revert h_)|apply ah|apply ai|apply ae|apply And.intro|with_reducible intro h_|trivial|simp only [go_sem,ak];omega)
 |true=>
  rw [h1] at hF;cases h2:dm s m L with
  |false=>
   rw [h2] at hV;refine Fn.intro [.tmp 2] Tryz.func34 rfl rfl (by decide) (by simp [Tryz.ntmps34]) ?_;rw [Tryz.ntmps34]
   repeat' (first|omega|(try apply aj);simp only [go_sem,sevalprocAttr,hF]|(refine ⟨az.fn (r:=?_) rfl ?_ ?_⟩;rotate_left;assumption)|(refine ⟨cg.fn (r:=?_) rfl ?_ ?_⟩;rotate_left;assumption)|apply ag<;>(intro h_;(try simp only [h_]);revert h_)|apply ah|apply ai|apply ae|apply And.intro|with_reducible intro h_|trivial|simp only [go_sem,ak];omega)
  |true=>
   rw [h2] at hV;have v1:=jC h2;have uO:=v1.s64;have l0:=v1.l0;have y7:=v1.y7;refine Fn.intro [.tmp 2] Tryz.func34 rfl rfl (by decide) (by simp [Tryz.ntmps34]) ?_;rw [Tryz.ntmps34]
   repeat' (first|omega|(try apply aj);simp only [go_sem,sevalprocAttr,hF]|(refine ⟨az.fn (r:=?_) rfl ?_ ?_⟩;rotate_left;assumption)|(refine ⟨cg.fn (r:=?_) rfl ?_ ?_⟩;rotate_left;assumption)|apply ag<;>(intro h_;(try simp only [h_]);revert h_)|apply ah|apply ai|apply ae|apply And.intro|with_reducible intro h_|trivial|simp only [go_sem,ak];omega)
theorem VQ {s m:List Int} {L:Int} (h:zK s m L=true):s.length<=9/\ ∃l:Nat,L=l/\l<=9/\dm s m l=true/\ ¬(s.length=0/\l=0):=by
 unfold zK sE at h;simp only [Bool.and_eq_true,Bool.or_eq_true,decide_eq_true_eq] at h;obtain ⟨⟨⟨⟨h1,h2⟩,h3⟩,h4⟩,h5⟩:=h;have l0:=(jC h4).l0;have y7:=(jC h4).y7;obtain ⟨l,rfl⟩: ∃l:Nat,L=l:=⟨L.toNat,by omega⟩;exact ⟨h1,l,rfl,by omega,h4,by omega⟩
end Go.Proofs.YtphjphpmfflfpaaGreatDoor
namespace Go.Proofs.YtphjphpmfflfpaaGreatDoor
set_option linter.unusedSimpArgs false
set_option linter.unusedVariables false
def evL:List (Int×Int)->Int
 |[]=>0
 |t::p=>t.2+evL p
def qO (f:Int->Int) (M:Nat):Int:=sm (fun i=>f ((i:Int)-M)) (2*M+1)
theorem Mw (M:Nat): ∀(p:List (Int×Int)),(∀t∈p,-(M:Int)<=t.1/\t.1<=M)->qO (cfL p) M=evL p
 |[],_=>by unfold qO;simp only [cfL,evL];rw [qx];omega
 |t::p,h=>by
  have ih:=Mw M p fun u hu=>h u (List.mem_cons_of_mem _ hu);have ht:=h t (List.mem_cons_self ..);unfold qO at ih⊢;simp only [cfL,evL];rw [qp,ih,DM (a:=(t.1+M).toNat) (by omega) fun x hx aw=>if_neg (by omega),if_pos (by omega)]
theorem GC (M:Nat): ∀(j:Nat) (a:Int),-(M:Int)+2*j<=a->a+2*j<=M->qO (fun e=>dpw j (e-a)) M=(-2)^j
 |0,a,h1,h2=>by
  unfold qO;simp only [dpw];rw [DM (a:=(a+M).toNat) (by omega) fun x hx aw=>if_neg (by omega),if_pos (by omega)];rfl
 |j+1,a,h1,h2=>by
  have e1:=GC M j (a-2) (by omega) (by omega);have e2:=GC M j (a+2) (by omega) (by omega)
  have:qO (fun e=>dpw (j+1) (e-a)) M=qO (fun e=> -1*dpw j (e-(a-2))+ -1*dpw j (e-(a+2))) M:=by
   unfold qO;refine iQ fun x hx=>?_;simp only [dpw,c9];rw [show (x:Int)-M-a+2=(x:Int)-M-(a-2) by omega,show (x:Int)-M-a-2=(x:Int)-M-(a+2) by omega];omega
  rw [this];unfold qO at e1 e2⊢;rw [qp,DC,DC,e1,e2,Int.pow_succ];omega
theorem J1 {K:Nat} {c:Nat->Nat} {w:Nat->Int} (j M:Nat) (h: ∀k,k<K->j<=c k-> -(M:Int)+2*((c k:Int)-j)<=w k/\w k+2*((c k:Int)-j)<=M):qO (oU K c w j) M=sm (fun k=>if j<=c k then (-2)^(c k-j) else 0) K:=by
 unfold qO oU;rw [MR];refine iQ fun k hk=>?_;by_cases hj:j<=c k
 ·have:=h k hk hj
  simp only [if_pos hj];exact GC M (c k-j) (w k) (by omega) (by omega)
 ·simp only [if_neg hj];rw [qx];omega
def kp (n i k:Nat) (c:Nat):Nat:=if c<i then gG (da k c) else if c<n then 2 else 0
section
variable {m:List Int} {n:Nat} (hp:bd m n)
include hp
theorem Qz (hn:0<n) (L:Nat): ∀i,i<=n->sm (fun k=>(-2:Int)^(jZ m n (kp n i k)+L-1)) (2^i)=(-1)^i*(-2:Int)^(jZ m n (kp n 0 0)+L-1)
 |0,_=>by simp [sm]
 |i+1,hi=>by
  have ih:=Qz hn L i (by omega);rw [Nat.pow_succ,Nat.mul_two,Eu,←qp];have key:sm (fun k=>(-2:Int)^(jZ m n (kp n (i+1) k)+L-1)+(-2:Int)^(jZ m n (kp n (i+1) (2^i+k))+L-1)) (2^i)=sm (fun k=> -1*(-2:Int)^(jZ m n (kp n i k)+L-1)) (2^i):=by
   refine iQ fun k hk=>?_;obtain ⟨K,t0,tf,h3⟩:=PH hp (kp n i k) (c:=i) (by omega);have e0:kp n (i+1) k=fun x=>if x=i then 0 else kp n i k x:=by
    funext x;unfold kp;by_cases e:x=i
    ·subst e;rw [if_pos (by omega),if_pos rfl,QS hk];rfl
    ·rw [if_neg e];by_cases h:x<i
     ·rw [if_pos (by omega),if_pos h]
     ·rw [if_neg (by omega),if_neg h]
   have e1:kp n (i+1) (2^i+k)=fun x=>if x=i then 1 else kp n i k x:=by
    funext x;unfold kp;by_cases e:x=i
    ·subst e;rw [if_pos (by omega),if_pos rfl,Nq hk];rfl
    ·rw [if_neg e];by_cases h:x<i
     ·rw [if_pos (by omega),if_pos h,Nr h]
     ·rw [if_neg (by omega),if_neg h]
   have e2:kp n i k=fun x=>if x=i then 2 else kp n i k x:=by
    funext x;by_cases e:x=i
    ·subst e;rw [if_pos rfl];unfold kp;rw [if_neg (by omega),if_pos (by omega)]
    ·rw [if_neg e]
   have h0:=h3 0 (by omega);have h1:=h3 1 (by omega);have h2:=h3 2 (by omega);rw [←e0] at h0;rw [←e1] at h1;rw [←e2] at h2;have p0:=GQ n (DN hp (kp n (i+1) k)) hn;have p1:=GQ n (DN hp (kp n (i+1) (2^i+k))) hn;have hK:1<=K:=by
    change 1<=jZ m n _ at p0;change 1<=jZ m n _ at p1;rw [h0] at p0;rw [h1] at p1
    split at p0<;>split at p1<;>omega
   obtain ⟨q,hq⟩: ∃q,K+L-1=q:=⟨_,rfl⟩;have KV:K+1+L-1=q+1:=by omega
   rw [h0,h1,h2];rcases (show t0=0\/t0=1\/t0=2 by omega) with rfl|rfl|rfl<;>
   simp only [if_true,if_false,Nat.reduceEqDiff,reduceIte,reduceCtorEq]<;>
   simp [hq,KV,Int.pow_succ]<;>omega
  rw [key,DC,ih,Int.pow_succ];rw [Int.mul_comm ((-1)^i) (-1),Int.mul_assoc]
theorem Vn (k:Nat):jZ m n (kp n n k)=bF m n (da k):=by
 have:kp n n k=fun c=>gG (if c<n then da k c else false):=by
  funext c;unfold kp;by_cases h:c<n
  ·rw [if_pos h,if_pos h]
  ·rw [if_neg h,if_neg h,if_neg h];rfl
 rw [this,←Ge hp];unfold bF;rw [AK fun c hc=>if_pos hc]
theorem I0 (hn:0<n) (L:Nat):sm (fun k=>(-2:Int)^(cN m n L k-1)) (2^n)=(-1)^n*(-2:Int)^(jZ m n (kp n 0 0)+L-1):=by
 have:=Qz hp hn L n (Nat.le_refl _)
 rw [←this];exact iQ fun k _=>by rw [Vn hp];rfl
end
section
variable {s m:List Int} {L:Int} (hv:yn s m L)
include hv
end
end Go.Proofs.YtphjphpmfflfpaaGreatDoor
