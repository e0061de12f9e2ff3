/- Layer 13: the text of a polynomial in two variables: the walk. -/
import Derived.Test.YtjpbeacamoijhaaGreatDoorZvc
import Derived.Lib.Hide
set_option linter.unusedSimpArgs false
set_option linter.unusedVariables false
namespace Go.Proofs.YtjpbeacamoijhaaGreatDoor
open Go Go.RowKit Go.Shelf
set_option maxHeartbeats 8000000
set_option maxRecDepth 100000
theorem IE {nm:List UInt8} {e:Int} (hn:nm.length<=1000) (h0: -4611686018427387904<=e) (h1:e<=4611686018427387904):(nZ nm e).length<=1022:=by
 have h2:=z8 (n:=e) (by omega) (by omega);have l3:(if e=0 then ([]:List UInt8) else nm).length<=1000:=by
  split
  ·simp
  ·exact hn
 have l4:(if e=0\/e=1 then ([]:List UInt8) else 94::Lib.itoa e).length<=22:=by
  split
  ·simp
  ·simp;omega
 unfold nZ;rw [List.length_append];omega
theorem y15 {n1 n2:List UInt8} {k:Nat} {x z c:Int} (kd:n1.length<=1000) (jB:n2.length<=1000) (hr:(-4611686018427387904<=x/\x<=4611686018427387904)/\(-4611686018427387904<=z/\z<=4611686018427387904)/\ -4611686018427387904<=c/\c<=4611686018427387904):(qY n1 n2 k x z c).length<=3000:=by
 have h2:=z8 (n:=c) (by omega) (by omega);have h3:=z8 (n:=0-c) (by omega) (by omega);have h4:=IE kd hr.1.1 hr.1.2;have h5:=IE jB hr.2.1.1 hr.2.1.2;have l1:(if c<0 then [45] else if 0<k then [43] else ([]:List UInt8)).length<=1:=by
  split
  ·simp
  ·split<;>simp
 have l2:(if (if c<0 then 0-c else c)=1/\ ¬(x=0/\z=0) then ([]:List UInt8) else Lib.itoa (if c<0 then 0-c else c)).length<=21:=by
  by_cases vO:c<0
  ·rw [if_pos vO]
   split
   ·simp
   ·exact h3
  ·rw [if_neg vO]
   split
   ·simp
   ·exact h2
 unfold qY;rw [List.length_append,List.length_append,List.length_append];omega
theorem TB.pow {w W:World} {b K:Nat} {x z c:Int} {acc:List UInt8} (h:TB w b K x z c acc W) (hg:Good w) (nm:ByteArray) (e:Int) (hn:nm.size<=1000) (hl:acc.length<=10000000000) (h0: -4611686018427387904<=e) (h1:e<=4611686018427387904):
  Calls Tryz.prog 49 #[.string nm, .int .i64 e, .pointer (some ⟨b,0,none⟩)] W fun r W'=>r= .returned (.tuple #[])/\TB w b K x z c (acc++nZ nm.data.toList e) W':=by
 have yw:nm.data.toList.length<=1000:=hn;have ie:=z8 (n:=e) (by omega) (by omega);by_cases OA:e=0
 ·subst OA;have e1:acc++nZ nm.data.toList 0=acc:=by simp [nZ]
  rw [e1]
  go_enter Tryz.func49,Tryz.ntmps49
  go_wp2
  (try simp only [Exit.inBlock,Exit.then])
  refine bodyPost_ret (results_none rfl _ _ _) rfl ?_;exact ⟨rfl,h⟩
 ·have be0:(e==0)=false:=by simpa using OA
  by_cases Oz:e=1
  ·subst Oz;have e1:nZ nm.data.toList 1=nm.data.toList:=by simp [nZ]
   rw [e1]
   go_enter Tryz.func49,Tryz.ntmps49
   go_wp2_with (go_at_call 50;refine (h.str nm (by omega) (by omega)).mono ?_)
   intro r1 W1 hq
   first|(intro h1;subst hq)|(obtain ⟨hq,h1⟩:=hq;subst hq)
   go_wp2
   first|go_ret|go_end0|go_ret2
   exact ⟨rfl,h1⟩
  ·have be1:(e==1)=false:=by simpa using Oz
   have e1:acc++nZ nm.data.toList e=((acc++nm.data.toList)++[94])++(⟨(Lib.itoa e).toArray⟩:ByteArray).data.toList:=by simp [nZ,OA,Oz]
   rw [e1]
   go_enter Tryz.func49,Tryz.ntmps49
   go_wp2_with (go_at_call 50;refine (h.str nm (by omega) (by omega)).mono ?_)
   intro r1 W1 hq
   first|(intro h1;subst hq)|(obtain ⟨hq,h1⟩:=hq;subst hq)
   go_wp2_with (go_at_call 51;refine (h1.byte 94 94 rfl (by simp only [List.length_append];omega)).mono ?_)
   intro r2 W2 hq
   first|(intro h2;subst hq)|(obtain ⟨hq,h2⟩:=hq;subst hq)
   go_wp2_with (go_at_call 52;refine (h2.itoa hg e (by omega) (by omega)).mono ?_)
   intro r3 W3 hq
   first|(intro h3;subst hq)|(obtain ⟨hq,h3⟩:=hq;subst hq)
   go_wp2_with (go_at_call 50;refine (h3.str ⟨(Lib.itoa e).toArray⟩ (by simp only [List.length_append,List.length_cons,List.length_nil];omega) (Bg (by omega) (by omega))).mono ?_)
   intro r4 W4 hq
   first|(intro h4;subst hq)|(obtain ⟨hq,h4⟩:=hq;subst hq)
   go_wp2
   first|go_ret|go_end0|go_ret2
   exact ⟨rfl,by simpa using h4⟩
theorem vz {p:List (Int×Int)} {n1 n2:List UInt8} {w W:World} {k K:Nat} {x z c:Int} {acc:List UInt8} {v:Value} (cT:k<p.length) (hx:aN (p.getD k (0,0)).1=x) (hz:az (p.getD k (0,0)).1=z) (hc:(p.getD k (0,0)).2=c)
  (hT:TB w (w.heap.size+1) K x z c acc W) (hL:(tL n1 n2 p k).length<=k*3000) (kd:n1.length<=1000) (jB:n2.length<=1000)
  (hr:(-4611686018427387904<=x/\x<=4611686018427387904)/\(-4611686018427387904<=z/\z<=4611686018427387904)/\ -4611686018427387904<=c/\c<=4611686018427387904) (rL:acc=tL n1 n2 p k++qY n1 n2 k x z c) (hv:v= .int .i64 ((k:Int)+1)):
  ∃k:Nat,k<=p.length/\v= .int .i64 k/\Lib.IsBuilderF 82 5 w.heap.size (w.heap.size+1) (Lib.byteCells (tL n1 n2 p k)) W/\Below w.heap.size w W/\(tL n1 n2 p k).length<=k*3000/\w.heap.size+1<W.heap.size:=by
 have e1:tL n1 n2 p (k+1)=acc:=by rw [rL];show tL n1 n2 p k++qY n1 n2 k (aN (p.getD k (0,0)).1) (az (p.getD k (0,0)).1) (p.getD k (0,0)).2=_;rw [hx,hz,hc]
 have ay:w.heap.size+1<W.heap.size:=by
  rcases hT.bld with h|h
  ·exact h.lt
  ·exact h.lt
 refine ⟨k+1,by omega,?_,by rw [e1];exact hT.bld,hT.bel,?_,ay⟩
 ·rw [hv];simp
 ·rw [e1,rL,List.length_append]
  have:=y15 (k:=k) kd jB hr
  omega
theorem X9 (p:List (Int×Int)) (n1 n2:ByteArray) (a:Addr) (cap:Nat) (w:World) (ud:0<p.length) (hg:Good w) (ha:a.block<w.heap.size)
  (hc: ∀k,k<p.length->w.cell? (a.add (k*3))=some (.int .i64 (aN (p.getD k (0,0)).1))/\w.cell? (a.add (k*3+1))=some (.int .i64 (az (p.getD k (0,0)).1))/\w.cell? (a.add (k*3+2))=some (.int .i64 (p.getD k (0,0)).2))
  (hr: ∀k,k<p.length->(-4611686018427387904<=aN (p.getD k (0,0)).1/\aN (p.getD k (0,0)).1<=4611686018427387904)/\(-4611686018427387904<=az (p.getD k (0,0)).1/\az (p.getD k (0,0)).1<=4611686018427387904)/\ -4611686018427387904<=(p.getD k (0,0)).2/\(p.getD k (0,0)).2<=4611686018427387904)
  (kd:n1.size<=1000) (jB:n2.size<=1000) (mD:p.length<=1000000):
  Calls Tryz.prog 14 #[.agg #[.bool false, .slice (some a) p.length cap], .string n1, .string n2] w fun e w'=>e= .returned (.string ⟨(tL n1.data.toList n2.data.toList p p.length).toArray⟩)/\Below w.heap.size w w':=by
 have AH:((p.length:Int)==0)=false:=by simp;intro h;rw [h] at ud;simp at ud
 have mH:n1.data.toList.length<=1000:=kd;have mE:n2.data.toList.length<=1000:=jB;have HC:=Lib.hid hc;have HR:=Lib.hid hr;clear hc hr
 go_enter Tryz.func14,Tryz.ntmps14
 go_wp2
 go_loopw [24] (fun i wr=> ∃k:Nat,k<=p.length/\i= .int .i64 k/\Lib.IsBuilderF 82 5 w.heap.size (w.heap.size+1) (Lib.byteCells (tL n1.data.toList n2.data.toList p k)) wr/\Below w.heap.size w wr/\(tL n1.data.toList n2.data.toList p k).length<=k*3000/\w.heap.size+1<wr.heap.size) (fun i _=>p.length-(intOf i).toNat)
 case atStart=>
  have h:=XL w (.cells #[.bool false, .slice (some a) p.length cap] 29);exact ⟨0,Nat.zero_le _,rfl,h.1,h.2.1,Nat.zero_le _,h.2.2⟩
 case round=>
  obtain ⟨k,hk,rfl,hI,hb,hL,hz⟩:=hrel;by_cases cT:k<p.length
  ·have GG:=HC.out k cT;have ct:=HR.out k cT;obtain ⟨x,hx⟩: ∃x,aN (p.getD k (0,0)).1=x:=⟨_,rfl⟩;obtain ⟨z,yp⟩: ∃z,az (p.getD k (0,0)).1=z:=⟨_,rfl⟩;obtain ⟨c,qO⟩: ∃c,(p.getD k (0,0)).2=c:=⟨_,rfl⟩;rw [hx,yp,qO] at ct GG;have HX:=Lib.hid hx;have HZ:=Lib.hid yp;have HV:=Lib.hid qO;clear hx yp qO
   have g0:wr.cell? (a.add (k*3))=some (.int .i64 x):=by rw [hb.cell (by rw [xn];exact ha)];exact GG.1
   have g1:wr.cell? ⟨(a.add (k*3)).block,(a.add (k*3)).off+1,none⟩=some (.int .i64 z):=by
    show wr.cell? ((a.add (k*3)).add 1)=_;rw [hb.cell (by rw [xn,xn];exact ha),Hk];exact GG.2.1
   have g2:wr.cell? ⟨(a.add (k*3)).block,(a.add (k*3)).off+2,none⟩=some (.int .i64 c):=by
    show wr.cell? ((a.add (k*3)).add 2)=_;rw [hb.cell (by rw [xn,xn];exact ha),Hk];exact GG.2.2
   clear GG;have tb:TB w (w.heap.size+1) wr.heap.size x z c (tL n1.data.toList n2.data.toList p k) (wr.alloc (.cells #[.int .i64 x, .int .i64 z, .int .i64 c] 74)):=⟨hI.alloc _,Rz wr _,by omega,hb.alloc (by omega) _⟩;have vV:=tb.c0;have vU:=tb.c1;have vT:=tb.c2;have ic:=z8 (n:=c) (by omega) (by omega);have id:=z8 (n:= -c) (by omega) (by omega);have i1:=z8 (n:=1) (by omega) (by omega)
   have lx:=IE mH ct.1.1 ct.1.2;have lz:=IE mE ct.2.1.1 ct.2.1.2;by_cases sW:c<0
   ·have yz:True:=trivial;by_cases pv:c= -1
    ·subst pv;by_cases oh:x=0
     ·by_cases qN:z=0
      ·subst oh qN
       go_wp2_with (go_at_call 51;refine (tb.byte 45 45 rfl (by first|omega|(simp only [List.length_append,List.length_cons,List.length_nil];omega))).mono ?_)
       intro r1 W1 hq
       first|(intro bw;subst hq)|(obtain ⟨hq,bw⟩:=hq;subst hq)
       have oS:=bw.c0;have oR:=bw.c1;have oQ:=bw.c2;clear vV vU vT
       go_wp2_with (go_at_call 52;refine (bw.itoa hg 1 (by omega) (by omega)).mono ?_)
       intro r2 W2 hq
       first|(intro b7;subst hq)|(obtain ⟨hq,b7⟩:=hq;subst hq)
       have pH:=b7.c0;have pG:=b7.c1;have pE:=b7.c2;clear oS oR oQ
       go_wp2_with (go_at_call 50;refine (b7.str ⟨(Lib.itoa 1).toArray⟩ (by first|omega|(simp only [List.length_append,List.length_cons,List.length_nil];omega)) (Bg (by omega) (by omega))).mono ?_)
       intro r3 W3 hq
       first|(intro db;subst hq)|(obtain ⟨hq,db⟩:=hq;subst hq)
       have ti:=db.c0;have tg:=db.c1;have tf:=db.c2;clear pH pG pE
       go_wp2_with (go_at_call 49;refine (db.pow hg n1 0 kd (by first|omega|(simp only [List.length_append,List.length_cons,List.length_nil];omega)) ct.1.1 ct.1.2).mono ?_)
       intro r4 W4 hq
       first|(intro jD;subst hq)|(obtain ⟨hq,jD⟩:=hq;subst hq)
       have zJ:=jD.c0;have zI:=jD.c1;have zH:=jD.c2;clear ti tg tf
       go_wp2_with (go_at_call 49;refine (jD.pow hg n2 0 jB (by first|omega|(simp only [List.length_append,List.length_cons,List.length_nil];omega)) ct.2.1.1 ct.2.1.2).mono ?_)
       intro r5 W5 hq
       first|(intro mJ;subst hq)|(obtain ⟨hq,mJ⟩:=hq;subst hq)
       have Pj:=mJ.c0;have Pg:=mJ.c1;have Pf:=mJ.c2;clear zJ zI zH
       go_wp2
       go_roundw
       case rel=>exact vz cT HX.out HZ.out HV.out mJ hL mH mE ct (by simp [qY]) rfl
       case measure=>simp [intOf];omega
      ·have bz:(z==0)=false:=by simpa using qN
       subst oh;have wq:z≠0:=qN
       go_wp2_with (go_at_call 51;refine (tb.byte 45 45 rfl (by first|omega|(simp only [List.length_append,List.length_cons,List.length_nil];omega))).mono ?_)
       intro r1 W1 hq
       first|(intro bw;subst hq)|(obtain ⟨hq,bw⟩:=hq;subst hq)
       have oS:=bw.c0;have oR:=bw.c1;have oQ:=bw.c2;clear vV vU vT
       go_wp2_with (go_at_call 49;refine (bw.pow hg n1 0 kd (by first|omega|(simp only [List.length_append,List.length_cons,List.length_nil];omega)) ct.1.1 ct.1.2).mono ?_)
       intro r2 W2 hq
       first|(intro b7;subst hq)|(obtain ⟨hq,b7⟩:=hq;subst hq)
       have pH:=b7.c0;have pG:=b7.c1;have pE:=b7.c2;clear oS oR oQ
       go_wp2_with (go_at_call 49;refine (b7.pow hg n2 z jB (by first|omega|(simp only [List.length_append,List.length_cons,List.length_nil];omega)) ct.2.1.1 ct.2.1.2).mono ?_)
       intro r3 W3 hq
       first|(intro db;subst hq)|(obtain ⟨hq,db⟩:=hq;subst hq)
       have ti:=db.c0;have tg:=db.c1;have tf:=db.c2;clear pH pG pE
       go_wp2
       go_roundw
       case rel=>exact vz cT HX.out HZ.out HV.out db hL mH mE ct (by simp [qY,wq]) rfl
       case measure=>simp [intOf];omega
     ·have bx:(x==0)=false:=by simpa using oh
      have wq:x≠0:=oh
      go_wp2_with (go_at_call 51;refine (tb.byte 45 45 rfl (by first|omega|(simp only [List.length_append,List.length_cons,List.length_nil];omega))).mono ?_)
      intro r1 W1 hq
      first|(intro bw;subst hq)|(obtain ⟨hq,bw⟩:=hq;subst hq)
      have oS:=bw.c0;have oR:=bw.c1;have oQ:=bw.c2;clear vV vU vT
      go_wp2_with (go_at_call 49;refine (bw.pow hg n1 x kd (by first|omega|(simp only [List.length_append,List.length_cons,List.length_nil];omega)) ct.1.1 ct.1.2).mono ?_)
      intro r2 W2 hq
      first|(intro b7;subst hq)|(obtain ⟨hq,b7⟩:=hq;subst hq)
      have pH:=b7.c0;have pG:=b7.c1;have pE:=b7.c2;clear oS oR oQ
      go_wp2_with (go_at_call 49;refine (b7.pow hg n2 z jB (by first|omega|(simp only [List.length_append,List.length_cons,List.length_nil];omega)) ct.2.1.1 ct.2.1.2).mono ?_)
      intro r3 W3 hq
      first|(intro db;subst hq)|(obtain ⟨hq,db⟩:=hq;subst hq)
      have ti:=db.c0;have tg:=db.c1;have tf:=db.c2;clear pH pG pE
      go_wp2
      go_roundw
      case rel=>exact vz cT HX.out HZ.out HV.out db hL mH mE ct (by simp [qY,wq]) rfl
      case measure=>simp [intOf];omega
    ·have pv: ¬ -c=1:=by omega
     go_wp2_with (go_at_call 51;refine (tb.byte 45 45 rfl (by first|omega|(simp only [List.length_append,List.length_cons,List.length_nil];omega))).mono ?_)
     intro r1 W1 hq
     first|(intro bw;subst hq)|(obtain ⟨hq,bw⟩:=hq;subst hq)
     have oS:=bw.c0;have oR:=bw.c1;have oQ:=bw.c2;clear vV vU vT
     go_wp2_with (go_at_call 52;refine (bw.itoa hg (-c) (by omega) (by omega)).mono ?_)
     intro r2 W2 hq
     first|(intro b7;subst hq)|(obtain ⟨hq,b7⟩:=hq;subst hq)
     have pH:=b7.c0;have pG:=b7.c1;have pE:=b7.c2;clear oS oR oQ
     go_wp2_with (go_at_call 50;refine (b7.str ⟨(Lib.itoa (-c)).toArray⟩ (by first|omega|(simp only [List.length_append,List.length_cons,List.length_nil];omega)) (Bg (by omega) (by omega))).mono ?_)
     intro r3 W3 hq
     first|(intro db;subst hq)|(obtain ⟨hq,db⟩:=hq;subst hq)
     have ti:=db.c0;have tg:=db.c1;have tf:=db.c2;clear pH pG pE
     go_wp2_with (go_at_call 49;refine (db.pow hg n1 x kd (by first|omega|(simp only [List.length_append,List.length_cons,List.length_nil];omega)) ct.1.1 ct.1.2).mono ?_)
     intro r4 W4 hq
     first|(intro jD;subst hq)|(obtain ⟨hq,jD⟩:=hq;subst hq)
     have zJ:=jD.c0;have zI:=jD.c1;have zH:=jD.c2;clear ti tg tf
     go_wp2_with (go_at_call 49;refine (jD.pow hg n2 z jB (by first|omega|(simp only [List.length_append,List.length_cons,List.length_nil];omega)) ct.2.1.1 ct.2.1.2).mono ?_)
     intro r5 W5 hq
     first|(intro mJ;subst hq)|(obtain ⟨hq,mJ⟩:=hq;subst hq)
     have Pj:=mJ.c0;have Pg:=mJ.c1;have Pf:=mJ.c2;clear zJ zI zH
     go_wp2
     go_roundw
     case rel=>exact vz cT HX.out HZ.out HV.out mJ hL mH mE ct (by simp [qY,show c<0 by omega,show¬(-c=1) by omega]) rfl
     case measure=>simp [intOf];omega
   ·by_cases yz:0<k
    ·have bk0:decide ((0:Int)<(k:Int))=true:=by simp;omega
     by_cases pv:c=1
     ·subst pv;by_cases oh:x=0
      ·by_cases qN:z=0
       ·subst oh qN
        go_wp2_with (go_at_call 51;refine (tb.byte 43 43 rfl (by first|omega|(simp only [List.length_append,List.length_cons,List.length_nil];omega))).mono ?_)
        intro r1 W1 hq
        first|(intro bw;subst hq)|(obtain ⟨hq,bw⟩:=hq;subst hq)
        have oS:=bw.c0;have oR:=bw.c1;have oQ:=bw.c2;clear vV vU vT
        go_wp2_with (go_at_call 52;refine (bw.itoa hg 1 (by omega) (by omega)).mono ?_)
        intro r2 W2 hq
        first|(intro b7;subst hq)|(obtain ⟨hq,b7⟩:=hq;subst hq)
        have pH:=b7.c0;have pG:=b7.c1;have pE:=b7.c2;clear oS oR oQ
        go_wp2_with (go_at_call 50;refine (b7.str ⟨(Lib.itoa 1).toArray⟩ (by first|omega|(simp only [List.length_append,List.length_cons,List.length_nil];omega)) (Bg (by omega) (by omega))).mono ?_)
        intro r3 W3 hq
        first|(intro db;subst hq)|(obtain ⟨hq,db⟩:=hq;subst hq)
        have ti:=db.c0;have tg:=db.c1;have tf:=db.c2;clear pH pG pE
        go_wp2_with (go_at_call 49;refine (db.pow hg n1 0 kd (by first|omega|(simp only [List.length_append,List.length_cons,List.length_nil];omega)) ct.1.1 ct.1.2).mono ?_)
        intro r4 W4 hq
        first|(intro jD;subst hq)|(obtain ⟨hq,jD⟩:=hq;subst hq)
        have zJ:=jD.c0;have zI:=jD.c1;have zH:=jD.c2;clear ti tg tf
        go_wp2_with (go_at_call 49;refine (jD.pow hg n2 0 jB (by first|omega|(simp only [List.length_append,List.length_cons,List.length_nil];omega)) ct.2.1.1 ct.2.1.2).mono ?_)
        intro r5 W5 hq
        first|(intro mJ;subst hq)|(obtain ⟨hq,mJ⟩:=hq;subst hq)
        have Pj:=mJ.c0;have Pg:=mJ.c1;have Pf:=mJ.c2;clear zJ zI zH
        go_wp2
        go_roundw
        case rel=>exact vz cT HX.out HZ.out HV.out mJ hL mH mE ct (by simp [qY,show 0<k by omega]) rfl
        case measure=>simp [intOf];omega
       ·have bz:(z==0)=false:=by simpa using qN
        subst oh;have wq:z≠0:=qN
        go_wp2_with (go_at_call 51;refine (tb.byte 43 43 rfl (by first|omega|(simp only [List.length_append,List.length_cons,List.length_nil];omega))).mono ?_)
        intro r1 W1 hq
        first|(intro bw;subst hq)|(obtain ⟨hq,bw⟩:=hq;subst hq)
        have oS:=bw.c0;have oR:=bw.c1;have oQ:=bw.c2;clear vV vU vT
        go_wp2_with (go_at_call 49;refine (bw.pow hg n1 0 kd (by first|omega|(simp only [List.length_append,List.length_cons,List.length_nil];omega)) ct.1.1 ct.1.2).mono ?_)
        intro r2 W2 hq
        first|(intro b7;subst hq)|(obtain ⟨hq,b7⟩:=hq;subst hq)
        have pH:=b7.c0;have pG:=b7.c1;have pE:=b7.c2;clear oS oR oQ
        go_wp2_with (go_at_call 49;refine (b7.pow hg n2 z jB (by first|omega|(simp only [List.length_append,List.length_cons,List.length_nil];omega)) ct.2.1.1 ct.2.1.2).mono ?_)
        intro r3 W3 hq
        first|(intro db;subst hq)|(obtain ⟨hq,db⟩:=hq;subst hq)
        have ti:=db.c0;have tg:=db.c1;have tf:=db.c2;clear pH pG pE
        go_wp2
        go_roundw
        case rel=>exact vz cT HX.out HZ.out HV.out db hL mH mE ct (by simp [qY,show 0<k by omega,wq]) rfl
        case measure=>simp [intOf];omega
      ·have bx:(x==0)=false:=by simpa using oh
       have wq:x≠0:=oh
       go_wp2_with (go_at_call 51;refine (tb.byte 43 43 rfl (by first|omega|(simp only [List.length_append,List.length_cons,List.length_nil];omega))).mono ?_)
       intro r1 W1 hq
       first|(intro bw;subst hq)|(obtain ⟨hq,bw⟩:=hq;subst hq)
       have oS:=bw.c0;have oR:=bw.c1;have oQ:=bw.c2;clear vV vU vT
       go_wp2_with (go_at_call 49;refine (bw.pow hg n1 x kd (by first|omega|(simp only [List.length_append,List.length_cons,List.length_nil];omega)) ct.1.1 ct.1.2).mono ?_)
       intro r2 W2 hq
       first|(intro b7;subst hq)|(obtain ⟨hq,b7⟩:=hq;subst hq)
       have pH:=b7.c0;have pG:=b7.c1;have pE:=b7.c2;clear oS oR oQ
       go_wp2_with (go_at_call 49;refine (b7.pow hg n2 z jB (by first|omega|(simp only [List.length_append,List.length_cons,List.length_nil];omega)) ct.2.1.1 ct.2.1.2).mono ?_)
       intro r3 W3 hq
       first|(intro db;subst hq)|(obtain ⟨hq,db⟩:=hq;subst hq)
       have ti:=db.c0;have tg:=db.c1;have tf:=db.c2;clear pH pG pE
       go_wp2
       go_roundw
       case rel=>exact vz cT HX.out HZ.out HV.out db hL mH mE ct (by simp [qY,show 0<k by omega,wq]) rfl
       case measure=>simp [intOf];omega
     ·have Pk:(c==1)=false:=by simpa using pv
      go_wp2_with (go_at_call 51;refine (tb.byte 43 43 rfl (by first|omega|(simp only [List.length_append,List.length_cons,List.length_nil];omega))).mono ?_)
      intro r1 W1 hq
      first|(intro bw;subst hq)|(obtain ⟨hq,bw⟩:=hq;subst hq)
      have oS:=bw.c0;have oR:=bw.c1;have oQ:=bw.c2;clear vV vU vT
      go_wp2_with (go_at_call 52;refine (bw.itoa hg c (by omega) (by omega)).mono ?_)
      intro r2 W2 hq
      first|(intro b7;subst hq)|(obtain ⟨hq,b7⟩:=hq;subst hq)
      have pH:=b7.c0;have pG:=b7.c1;have pE:=b7.c2;clear oS oR oQ
      go_wp2_with (go_at_call 50;refine (b7.str ⟨(Lib.itoa c).toArray⟩ (by first|omega|(simp only [List.length_append,List.length_cons,List.length_nil];omega)) (Bg (by omega) (by omega))).mono ?_)
      intro r3 W3 hq
      first|(intro db;subst hq)|(obtain ⟨hq,db⟩:=hq;subst hq)
      have ti:=db.c0;have tg:=db.c1;have tf:=db.c2;clear pH pG pE
      go_wp2_with (go_at_call 49;refine (db.pow hg n1 x kd (by first|omega|(simp only [List.length_append,List.length_cons,List.length_nil];omega)) ct.1.1 ct.1.2).mono ?_)
      intro r4 W4 hq
      first|(intro jD;subst hq)|(obtain ⟨hq,jD⟩:=hq;subst hq)
      have zJ:=jD.c0;have zI:=jD.c1;have zH:=jD.c2;clear ti tg tf
      go_wp2_with (go_at_call 49;refine (jD.pow hg n2 z jB (by first|omega|(simp only [List.length_append,List.length_cons,List.length_nil];omega)) ct.2.1.1 ct.2.1.2).mono ?_)
      intro r5 W5 hq
      first|(intro mJ;subst hq)|(obtain ⟨hq,mJ⟩:=hq;subst hq)
      have Pj:=mJ.c0;have Pg:=mJ.c1;have Pf:=mJ.c2;clear zJ zI zH
      go_wp2
      go_roundw
      case rel=>exact vz cT HX.out HZ.out HV.out mJ hL mH mE ct (by simp [qY,show¬(c<0) by omega,show¬(c=1) by omega,show 0<k by omega]) rfl
      case measure=>simp [intOf];omega
    ·have bk0:decide ((0:Int)<(k:Int))=false:=by simp;omega
     by_cases pv:c=1
     ·subst pv;by_cases oh:x=0
      ·by_cases qN:z=0
       ·subst oh qN
        go_wp2_with (go_at_call 52;refine (tb.itoa hg 1 (by omega) (by omega)).mono ?_)
        intro r1 W1 hq
        first|(intro bw;subst hq)|(obtain ⟨hq,bw⟩:=hq;subst hq)
        have oS:=bw.c0;have oR:=bw.c1;have oQ:=bw.c2;clear vV vU vT
        go_wp2_with (go_at_call 50;refine (bw.str ⟨(Lib.itoa 1).toArray⟩ (by first|omega|(simp only [List.length_append,List.length_cons,List.length_nil];omega)) (Bg (by omega) (by omega))).mono ?_)
        intro r2 W2 hq
        first|(intro b7;subst hq)|(obtain ⟨hq,b7⟩:=hq;subst hq)
        have pH:=b7.c0;have pG:=b7.c1;have pE:=b7.c2;clear oS oR oQ
        go_wp2_with (go_at_call 49;refine (b7.pow hg n1 0 kd (by first|omega|(simp only [List.length_append,List.length_cons,List.length_nil];omega)) ct.1.1 ct.1.2).mono ?_)
        intro r3 W3 hq
        first|(intro db;subst hq)|(obtain ⟨hq,db⟩:=hq;subst hq)
        have ti:=db.c0;have tg:=db.c1;have tf:=db.c2;clear pH pG pE
        go_wp2_with (go_at_call 49;refine (db.pow hg n2 0 jB (by first|omega|(simp only [List.length_append,List.length_cons,List.length_nil];omega)) ct.2.1.1 ct.2.1.2).mono ?_)
        intro r4 W4 hq
        first|(intro jD;subst hq)|(obtain ⟨hq,jD⟩:=hq;subst hq)
        have zJ:=jD.c0;have zI:=jD.c1;have zH:=jD.c2;clear ti tg tf
        go_wp2
        go_roundw
        case rel=>exact vz cT HX.out HZ.out HV.out jD hL mH mE ct (by simp [qY,show¬(0<k) by omega]) rfl
        case measure=>simp [intOf];omega
       ·have bz:(z==0)=false:=by simpa using qN
        subst oh;have wq:z≠0:=qN
        go_wp2_with (go_at_call 49;refine (tb.pow hg n1 0 kd (by first|omega|(simp only [List.length_append,List.length_cons,List.length_nil];omega)) ct.1.1 ct.1.2).mono ?_)
        intro r1 W1 hq
        first|(intro bw;subst hq)|(obtain ⟨hq,bw⟩:=hq;subst hq)
        have oS:=bw.c0;have oR:=bw.c1;have oQ:=bw.c2;clear vV vU vT
        go_wp2_with (go_at_call 49;refine (bw.pow hg n2 z jB (by first|omega|(simp only [List.length_append,List.length_cons,List.length_nil];omega)) ct.2.1.1 ct.2.1.2).mono ?_)
        intro r2 W2 hq
        first|(intro b7;subst hq)|(obtain ⟨hq,b7⟩:=hq;subst hq)
        have pH:=b7.c0;have pG:=b7.c1;have pE:=b7.c2;clear oS oR oQ
        go_wp2
        go_roundw
        case rel=>exact vz cT HX.out HZ.out HV.out b7 hL mH mE ct (by simp [qY,show¬(0<k) by omega,wq]) rfl
        case measure=>simp [intOf];omega
      ·have bx:(x==0)=false:=by simpa using oh
       have wq:x≠0:=oh
       go_wp2_with (go_at_call 49;refine (tb.pow hg n1 x kd (by first|omega|(simp only [List.length_append,List.length_cons,List.length_nil];omega)) ct.1.1 ct.1.2).mono ?_)
       intro r1 W1 hq
       first|(intro bw;subst hq)|(obtain ⟨hq,bw⟩:=hq;subst hq)
       have oS:=bw.c0;have oR:=bw.c1;have oQ:=bw.c2;clear vV vU vT
       go_wp2_with (go_at_call 49;refine (bw.pow hg n2 z jB (by first|omega|(simp only [List.length_append,List.length_cons,List.length_nil];omega)) ct.2.1.1 ct.2.1.2).mono ?_)
       intro r2 W2 hq
       first|(intro b7;subst hq)|(obtain ⟨hq,b7⟩:=hq;subst hq)
       have pH:=b7.c0;have pG:=b7.c1;have pE:=b7.c2;clear oS oR oQ
       go_wp2
       go_roundw
       case rel=>exact vz cT HX.out HZ.out HV.out b7 hL mH mE ct (by simp [qY,show¬(0<k) by omega,wq]) rfl
       case measure=>simp [intOf];omega
     ·have Pk:(c==1)=false:=by simpa using pv
      go_wp2_with (go_at_call 52;refine (tb.itoa hg c (by omega) (by omega)).mono ?_)
      intro r1 W1 hq
      first|(intro bw;subst hq)|(obtain ⟨hq,bw⟩:=hq;subst hq)
      have oS:=bw.c0;have oR:=bw.c1;have oQ:=bw.c2;clear vV vU vT
      go_wp2_with (go_at_call 50;refine (bw.str ⟨(Lib.itoa c).toArray⟩ (by first|omega|(simp only [List.length_append,List.length_cons,List.length_nil];omega)) (Bg (by omega) (by omega))).mono ?_)
      intro r2 W2 hq
      first|(intro b7;subst hq)|(obtain ⟨hq,b7⟩:=hq;subst hq)
      have pH:=b7.c0;have pG:=b7.c1;have pE:=b7.c2;clear oS oR oQ
      go_wp2_with (go_at_call 49;refine (b7.pow hg n1 x kd (by first|omega|(simp only [List.length_append,List.length_cons,List.length_nil];omega)) ct.1.1 ct.1.2).mono ?_)
      intro r3 W3 hq
      first|(intro db;subst hq)|(obtain ⟨hq,db⟩:=hq;subst hq)
      have ti:=db.c0;have tg:=db.c1;have tf:=db.c2;clear pH pG pE
      go_wp2_with (go_at_call 49;refine (db.pow hg n2 z jB (by first|omega|(simp only [List.length_append,List.length_cons,List.length_nil];omega)) ct.2.1.1 ct.2.1.2).mono ?_)
      intro r4 W4 hq
      first|(intro jD;subst hq)|(obtain ⟨hq,jD⟩:=hq;subst hq)
      have zJ:=jD.c0;have zI:=jD.c1;have zH:=jD.c2;clear ti tg tf
      go_wp2
      go_roundw
      case rel=>exact vz cT HX.out HZ.out HV.out jD hL mH mE ct (by simp [qY,show¬(c<0) by omega,show¬(c=1) by omega,show¬(0<k) by omega]) rfl
      case measure=>simp [intOf];omega
  ·obtain rfl:k=p.length:=by omega
   go_wp2_with (go_at_call 53;refine (TS.string hI hb).mono ?_)
   rintro r W1 ⟨rfl,h1⟩
   go_wp2
   go_ret
   exact ⟨rfl,h1⟩
end Go.Proofs.YtjpbeacamoijhaaGreatDoor
