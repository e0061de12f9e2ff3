/- Layer 18: the law JonesAtOne. -/
import Derived.Test.YtphjphpmfflfpaaGreatDoorZp
import Derived.Test.YtphjphpmfflfpaaGreatDoorB1
import Derived.Test.YtphjphpmfflfpaaGreatDoorAt1
namespace Go.Proofs.YtphjphpmfflfpaaGreatDoor
open Go Go.RowKit
set_option maxRecDepth 100000
set_option maxHeartbeats 8000000
set_option linter.unusedVariables false
set_option linter.unusedSimpArgs false
def A7:List (List Nat):=[[90,91],[89],[89],[],[],[],[],[97],[96],[],[],[],[],[103,105,106,107],[102,105,106,107],[105,106,107],[102,103,104,106,107],[102,103,104,105],[102,103,104,105],[],[],[]]
def A6:List (List Nat):=[[],[0],[0],[],[],[],[],[],[7],[],[],[],[],[],[13],[],[13,14,15],[13,14,15,16],[13,14,15,16],[],[],[]]
theorem Ji (k:Int): ∀p:List (Int×Int),evL (im k p)=evL p
 |[]=>rfl
 |t::p=>by
  have ih:=Ji k p;rw [show im k (t::p)=(t.1+k,t.2)::im k p from rfl];simp only [evL,ih]
def wo (p:List (Int×Int)):List (Int×Int):=p.map fun t=>(t.1,-t.2)
theorem UI: ∀p:List (Int×Int),evL (wo p)= -evL p
 |[]=>rfl
 |t::p=>by
  have ih:=UI p;rw [show wo (t::p)=(t.1,-t.2)::wo p from rfl];simp only [evL,ih];omega
theorem U2 (e:Int): ∀p:List (Int×Int),cfL (wo p) e= -cfL p e
 |[]=>rfl
 |t::p=>by
  have ih:=U2 e p;rw [show wo (t::p)=(t.1,-t.2)::wo p from rfl];simp only [cfL,ih]
  split<;>omega
theorem Mw {p:List (Int×Int)} {f:Int->Int} (h:bZ p f):bZ (wo p) (fun e=> -f e):=by
 refine ⟨⟨?_,fun t ht=>?_⟩,fun e=>by rw [U2,h.cf]⟩
 ·unfold wo;rw [List.pairwise_map];exact h.asc.asc.imp fun fC=>fC
 ·obtain ⟨u,hu,rfl⟩:=List.mem_map.1 ht
  have:=h.asc.nz u hu
  show-u.2≠0;omega
theorem MX {s m:List Int} {L:Nat} (hv:bF s m L=true) (az: ¬(s.length=0/\L=0)) (hs:s.length<=9) (hL:L<=20):evL (cW m s.length L (bq s s.length))=(-2:Int)^((a8 s m).length+L-1):=by
 have hp:=bP hv;have v1:=cK hv;have sI:=rh v1.sg s.length (Nat.le_refl _);have hwn:=V1 v1.sg s.length (Nat.le_refl _);have h1:=MZ hv az hs hL;have Fu:bZ (gP m s.length L) (aU m s.length L 1):=pH fun e he=>oW hp hs hL (by omega) he;generalize bq s s.length=w at*;have iK: ∀e,dZ m s.length L w e≠0-> -1000<=e/\e<=1000:=fun e he=>by have:=mL hp hs hL (by omega) he;omega
 have h2:=(Hc (-3*w) (by omega) Fu fun e he=>oW hp hs hL (by omega) he).1;have pw: ∀n:Nat,(-1:Int)^n=if n % 2=0 then 1 else-1:=fun n=>by
  induction n with
  |zero=>rfl
  |succ n ih=>rw [Int.pow_succ,ih];split<;>split<;>omega
 rw [pw] at h1;by_cases iV:w % 2=0
 ·have e1:im (-3*w) (gP m s.length L)=cW m s.length L w:=(h2.congr fun e=>by unfold dZ;rw [if_pos iV,Int.one_mul,show e- -3*w=e+3*w by omega]).eq iK;rw [←e1,Ji,h1,if_pos (by omega),Int.one_mul]
 ·have e1:wo (im (-3*w) (gP m s.length L))=cW m s.length L w:=((Mw h2).congr fun e=>by unfold dZ;rw [if_neg iV,show e- -3*w=e+3*w by omega];omega).eq iK;rw [←e1,UI,Ji,h1,if_neg (by omega),Int.neg_mul,Int.one_mul,Int.neg_neg]
theorem JK: ∀k:Nat,k<=46-> -70368744177664<=(-2:Int)^k/\(-2:Int)^k<=70368744177664:=by decide
theorem yuh (s m:List Int) (L:Int):Fn Tryz.prog 10 [dgA s m L] (.bool true):=by
 have hA:=Dw;have hF:=Bz s m L;cases hf:uD s m L with
 |false=>
  rw [hf] at hF;refine Fn.intro [.tmp 2] Tryz.func10 rfl rfl (by decide) (by simp [Tryz.ntmps10]) ?_;rw [Tryz.ntmps10]
  repeat' (first|omega|(try apply ag);simp only [go_sem,sevalprocAttr,hA]|(refine ⟨aA.fn (r:=?_) rfl ?_ ?_⟩;rotate_left;assumption)|(refine ⟨bC.fn (r:=?_) rfl ?_ ?_⟩;rotate_left;assumption)|apply ah<;>(intro h_;(try simp only [h_]);revert h_)|apply ai|apply aj|apply ae|apply And.intro|with_reducible intro h_|trivial|simp only [go_sem,ak];omega)
 |true=>
  rw [hf] at hF;obtain ⟨hs,l,rfl,hl,hv,az⟩:=xu hf;have hp:=bP hv;have v1:=cK hv;have sI:=rh v1.sg s.length (Nat.le_refl _);have hP:=pJ s m l hs (by omega) hv az;have hC:=RQ s m l hs (by omega) hv az;have hK:=HU s m l;rw [if_pos hv] at hK;have h1:=MX hv az hs (by omega);have cL:=zu s m;have iw:=v1.len;have ez:=fun e (he:dZ m s.length l (bq s s.length) e≠0)=>JN hv az he
  have bH:1<=(a8 s m).length+l:=by
   by_cases h:0<s.length
   ·have:=Sp.jC v1 h;omega
   ·omega
  have gZ:=JK ((a8 s m).length+l-1) (by omega);generalize bq s s.length=w at*;have hj:=se (w:=w) hp hs (show l<=20 by omega) (by omega);have iK: ∀e,dZ m s.length l w e≠0-> -1000<=e/\e<=1000:=fun e he=>by have:=mL hp hs (by omega) (by omega) he;omega
  have cO:=hj.len iK;have hbj:=fun e=>CZ (w:=w) hp hs (show l<=20 by omega) e;have hq:bZ (dN (fP m s.length l w)) (fP m s.length l w):=pH fun e he=>by have:=iK _ he;omega
  have Cm:=hq.len fun e he=>by have:=iK _ he;omega
  have X5:=Mz (cW m s.length l w) (by omega) (fun t ht=>by have:=hbj t.1;rw [(hj.mem ht).1];omega) (by rw [h1];omega) (by rw [h1];omega);rw [h1] at X5;have QC:=fun k=>JV (cW m s.length l w) k hj.asc (by omega);have X3:=fun k=>JV (dN (fP m s.length l w)) k hq.asc (by omega);simp only [hj.cf] at QC;simp only [hq.cf] at X3;have hLp:=JP (cW m s.length l w)
  have hHp:=KC (cW m s.length l w) (by omega);have hLq:=JP (dN (fP m s.length l w));have hHq:=KC (dN (fP m s.length l w)) (by omega);have lh: ∀{p:List (Int×Int)} {f:Int->Int},bZ p f->(∀e,f e≠0-> -1000<=e/\e<=1000)-> -1000<=gK p/\gK p<=ph p/\ph p<=1000:=fun {p f} h hs=>by
   unfold gK ph;by_cases h0:0<p.length
   ·rw [if_pos h0,if_pos h0];have a:=hs _ (h.mem (jW (i:=0) h0)).2;have b:=hs _ (h.mem (jW (i:=p.length-1) (by omega))).2;have c:=(uV h.asc (jW (i:=p.length-1) (by omega))).1;exact ⟨a.1,c,b.2⟩
   ·rw [if_neg h0,if_neg h0];omega
  have lhp:=lh hj iK;have lhq:=lh hq fun e he=>by have:=iK _ he;omega
  have sR: ∀k:Int,(k+(((a8 s m).length:Int)+l))% 2=0->fP m s.length l w k=0:=fun k hk=>Decidable.byContradiction fun h0=>by have:=ez _ h0;omega
  have pq: ∀k,k % 2≠0->dZ m s.length l w k=0:=fun k hk=>Decidable.byContradiction fun h0=>by have:=ez _ h0;omega
  have Xi: ∀k,fP m s.length l w k=dZ m s.length l w (-2*k):=fun k=>by unfold fP;rw [show-(2*k)= -2*k by omega]
  obtain ⟨C,hCC⟩: ∃C:Nat,(a8 s m).length+l=C+1:=⟨(a8 s m).length+l-1,by omega⟩;rw [hCC] at X5 gZ;rw [show ((a8 s m).length:Int)+(l:Nat)=((C+1:Nat):Int) by omega] at hK;have Qd: ∀k:Int,(k+((C:Int)+1))% 2=0->fP m s.length l w k=0:=fun k hk=>sR k (by omega);have hC46:C<=45:=by omega
  clear ez bH h1 sR;generalize gK (cW m s.length l w)=lp at*;generalize ph (cW m s.length l w)=cQ at*;generalize gK (dN (fP m s.length l w))=lq at*;generalize ph (dN (fP m s.length l w))=pd at*;generalize cW m s.length l w=p at*;generalize dN (fP m s.length l w)=q at*;generalize dZ m s.length l w=f at*;generalize fP m s.length l w=g at*
  refine Fn.intro [.tmp 2] Tryz.func10 rfl rfl (by decide) (by simp [Tryz.ntmps10]) ?_;rw [Tryz.ntmps10]
  repeat' (first|omega|(first|apply ag|(refine an.intro (id:=21) A7 A6 (by decide+kernel) mixed ?_)|skip);simp only [go_sem,sevalprocAttr,hA,↓reduceIte,reduceCtorEq,A7,A6]|(refine ⟨aA.fn (r:=?_) rfl ?_ ?_⟩;rotate_left;assumption)|(refine ⟨bC.fn (r:=?_) rfl ?_ ?_⟩;rotate_left;assumption)|apply ah<;>(intro h_;(try simp only [h_]);revert h_)|apply ai|apply aj|apply ae|apply And.intro|with_reducible intro h_|trivial|simp only [go_sem,ak];omega)
  refine bV.intro (fun n fr H=> ∃i:Nat,i<=C/\n=C-i/\fr=[(40,I i),(39,I (C:Nat)),(10,I ((-2)^i)),(9,I 0),(8,I 1),(7,I ((-2)^C)),(6,I 0),(5, .ptr 2 0),(4,I 0),(3, .ptr 1 0),(1, .ptr 0 0)]/\H=[(2, .cells 29 (.lst [.bool false,tmA q])),(1, .cells 29 (.lst [.bool false,tmA p])),(0, .cells 24 (.lst [roI s,roI m,I l]))]) ?_ ?_
  ·refine ⟨_,_,_,Wk.sub ?_ ?_,0,by omega,rfl,rfl,rfl⟩
   ·(simp only [go_sem,sevalprocAttr,Nat.add_sub_cancel])<;>first|rfl|omega
   ·(simp only [go_sem,sevalprocAttr,yap])<;>rfl
  rintro n fr H ⟨i,hi,rfl,rfl,rfl⟩;by_cases Xw:i<C
  ·have bi:decide ((i:Int)<C)=true:=by rw [decide_eq_true_iff];omega
   have p0:=JK i (by omega);have p1:=JK (i+1) (by omega);have ps:(-2:Int)^(i+1)=(-2)^i* -2:=Int.pow_succ _ _;generalize (-2:Int)^i=v at*;rw [ps] at p1
   repeat' (first|omega|(try apply ag);simp only [go_sem,sevalprocAttr,bi]|apply ah<;>(intro h_;(try simp only [h_]);revert h_)|apply ai|apply aj|apply ae|apply And.intro|with_reducible intro h_|trivial|simp only [go_sem,ak];omega)
   refine ⟨_,_,_,?_,Wk.sub ?_ ?_,i+1,by omega,rfl,rfl,rfl⟩
   ·omega
   ·(simp only [go_sem,sevalprocAttr,ps])<;>rfl
   ·(simp only [go_sem,sevalprocAttr,yap])<;>rfl
  obtain rfl:i=C:=by omega
  have bi:decide (((i:Nat):Int)<i)=false:=by simp
  generalize (-2:Int)^i=v at*;have bv:(v !=v)=false:=by simp
  repeat' (first|omega|(try apply ag);simp only [go_sem,sevalprocAttr,bi,bv]|(refine ⟨aA.fn (r:=?_) rfl ?_ ?_⟩;rotate_left;assumption)|(refine ⟨bC.fn (r:=?_) rfl ?_ ?_⟩;rotate_left;assumption)|apply ah<;>(intro h_;(try simp only [h_]);revert h_)|apply ai|apply aj|apply ae|apply And.intro|with_reducible intro h_|trivial|simp only [go_sem,ak];omega)
  refine bV.intro (fun n fr H=> ∃j:Nat,j<=(cQ-lp+1).toNat/\n=(cQ-lp+1).toNat-j/\fr=[(11,I (lp+j)),(5, .ptr 2 0),(3, .ptr 1 0),(1, .ptr 0 0)]/\H=[(2, .cells 29 (.lst [.bool false,tmA q])),(1, .cells 29 (.lst [.bool false,tmA p])),(0, .cells 24 (.lst [roI s,roI m,I l]))]) ?_ ?_
  ·refine ⟨_,_,_,Wk.sub ?_ ?_,0,by omega,rfl,rfl,rfl⟩
   ·(simp only [go_sem,sevalprocAttr])<;>first|rfl|omega
   ·(simp only [go_sem,sevalprocAttr,yap])<;>rfl
  rintro n fr H ⟨j,hj1,rfl,rfl,rfl⟩;by_cases hjN:lp+j<=cQ
  ·have bk:decide (lp+(j:Int)<=cQ)=true:=by rw [decide_eq_true_iff];omega
   have hCk:=QC (lp+j);by_cases ez:(lp+(j:Int))% 2=0
   ·have b2:((lp+(j:Int)).tmod 2 !=0)=false:=by rw [bne_eq_false_iff_eq];exact Int.tmod_eq_zero_of_dvd (by omega)
    repeat' (first|omega|(try apply ag);simp only [go_sem,sevalprocAttr,bk,b2]|(refine ⟨aA.fn (r:=?_) rfl ?_ ?_⟩;rotate_left;assumption)|(refine ⟨bC.fn (r:=?_) rfl ?_ ?_⟩;rotate_left;assumption)|apply ah<;>(intro h_;(try simp only [h_]);revert h_)|apply ai|apply aj|apply ae|apply And.intro|with_reducible intro h_|trivial|simp only [go_sem,ak];omega)
    refine ⟨_,_,_,?_,Wk.sub ?_ ?_,j+1,by omega,rfl,rfl,rfl⟩
    ·omega
    ·(simp only [go_sem,sevalprocAttr])<;>first|rfl|omega
    ·(simp only [go_sem,sevalprocAttr,yap])<;>rfl
   ·have b2:((lp+(j:Int)).tmod 2 !=0)=true:=by rw [bne_iff_ne];intro h;exact ez (Int.emod_eq_zero_of_dvd (Int.dvd_of_tmod_eq_zero h))
    have b3:(f (lp+(j:Int))!=0)=false:=by rw [pq _ ez];rfl
    repeat' (first|omega|(try apply ag);simp only [go_sem,sevalprocAttr,bk,b2,b3]|(refine ⟨aA.fn (r:=?_) rfl ?_ ?_⟩;rotate_left;assumption)|(refine ⟨bC.fn (r:=?_) rfl ?_ ?_⟩;rotate_left;assumption)|apply ah<;>(intro h_;(try simp only [h_]);revert h_)|apply ai|apply aj|apply ae|apply And.intro|with_reducible intro h_|trivial|simp only [go_sem,ak];omega)
    refine ⟨_,_,_,?_,Wk.sub ?_ ?_,j+1,by omega,rfl,rfl,rfl⟩
    ·omega
    ·(simp only [go_sem,sevalprocAttr])<;>first|rfl|omega
    ·(simp only [go_sem,sevalprocAttr,yap])<;>rfl
  have bk:decide (lp+(j:Int)<=cQ)=false:=by rw [decide_eq_false_iff_not];omega
  repeat' (first|omega|(try apply ag);simp only [go_sem,sevalprocAttr,bk]|(refine ⟨aA.fn (r:=?_) rfl ?_ ?_⟩;rotate_left;assumption)|(refine ⟨bC.fn (r:=?_) rfl ?_ ?_⟩;rotate_left;assumption)|apply ah<;>(intro h_;(try simp only [h_]);revert h_)|apply ai|apply aj|apply ae|apply And.intro|with_reducible intro h_|trivial|simp only [go_sem,ak];omega)
  refine bV.intro (fun n fr H=> ∃j:Nat,j<=(pd-lq+1).toNat/\n=(pd-lq+1).toNat-j/\fr=[(12,I (lq+j)),(5, .ptr 2 0),(3, .ptr 1 0),(1, .ptr 0 0)]/\H=[(2, .cells 29 (.lst [.bool false,tmA q])),(1, .cells 29 (.lst [.bool false,tmA p])),(0, .cells 24 (.lst [roI s,roI m,I l]))]) ?_ ?_
  ·refine ⟨_,_,_,Wk.sub ?_ ?_,0,by omega,rfl,rfl,rfl⟩
   ·(simp only [go_sem,sevalprocAttr])<;>first|rfl|omega
   ·(simp only [go_sem,sevalprocAttr,yap])<;>rfl
  rintro n fr H ⟨a,ha1,rfl,rfl,rfl⟩;by_cases Qn:lq+a<=pd
  ·have I2:decide (lq+(a:Int)<=pd)=true:=by rw [decide_eq_true_iff];omega
   have hCk:=QC (-2*(lq+a));have hCl:=X3 (lq+a);rw [Xi] at hCl;have b4:(f (-2*(lq+(a:Int)))!=f (-2*(lq+(a:Int))))=false:=by simp
   by_cases ez:(lq+(a:Int)+(i+1))% 2=0
   ·have b2:((lq+(a:Int)+(i+1)).tmod 2==0)=true:=by rw [beq_iff_eq];exact Int.tmod_eq_zero_of_dvd (by omega)
    have b3:(f (-2*(lq+(a:Int)))!=0)=false:=by rw [←Xi,Qd _ ez];rfl
    repeat' (first|omega|(first|apply ag|(refine an.intro (id:=21) A7 A6 (by decide+kernel) mixed ?_)|skip);simp only [go_sem,sevalprocAttr,I2,b2,b3,b4,↓reduceIte,reduceCtorEq,A7,A6]|(refine ⟨aA.fn (r:=?_) rfl ?_ ?_⟩;rotate_left;assumption)|(refine ⟨bC.fn (r:=?_) rfl ?_ ?_⟩;rotate_left;assumption)|apply ah<;>(intro h_;(try simp only [h_]);revert h_)|apply ai|apply aj|apply ae|apply And.intro|with_reducible intro h_|trivial|simp only [go_sem,ak];omega)
    refine ⟨_,_,_,?_,Wk.sub ?_ ?_,a+1,by omega,rfl,rfl,rfl⟩
    ·omega
    ·(simp only [go_sem,sevalprocAttr])<;>first|rfl|omega
    ·(simp only [go_sem,sevalprocAttr,yap])<;>rfl
   ·have b2:((lq+(a:Int)+(i+1)).tmod 2==0)=false:=by rw [beq_eq_false_iff_ne];intro h;exact ez (Int.emod_eq_zero_of_dvd (Int.dvd_of_tmod_eq_zero h))
    repeat' (first|omega|(first|apply ag|(refine an.intro (id:=21) A7 A6 (by decide+kernel) mixed ?_)|skip);simp only [go_sem,sevalprocAttr,I2,b2,b4,↓reduceIte,reduceCtorEq,A7,A6]|(refine ⟨aA.fn (r:=?_) rfl ?_ ?_⟩;rotate_left;assumption)|(refine ⟨bC.fn (r:=?_) rfl ?_ ?_⟩;rotate_left;assumption)|apply ah<;>(intro h_;(try simp only [h_]);revert h_)|apply ai|apply aj|apply ae|apply And.intro|with_reducible intro h_|trivial|simp only [go_sem,ak];omega)
    refine ⟨_,_,_,?_,Wk.sub ?_ ?_,a+1,by omega,rfl,rfl,rfl⟩
    ·omega
    ·(simp only [go_sem,sevalprocAttr])<;>first|rfl|omega
    ·(simp only [go_sem,sevalprocAttr,yap])<;>rfl
  have I2:decide (lq+(a:Int)<=pd)=false:=by rw [decide_eq_false_iff_not];omega
  repeat' (first|omega|(try apply ag);simp only [go_sem,sevalprocAttr,I2]|(refine ⟨aA.fn (r:=?_) rfl ?_ ?_⟩;rotate_left;assumption)|(refine ⟨bC.fn (r:=?_) rfl ?_ ?_⟩;rotate_left;assumption)|apply ah<;>(intro h_;(try simp only [h_]);revert h_)|apply ai|apply aj|apply ae|apply And.intro|with_reducible intro h_|trivial|simp only [go_sem,ak];omega)
end Go.Proofs.YtphjphpmfflfpaaGreatDoor
