/- Layer 12: the text of a polynomial: the walk. -/
import Derived.Test.YthohfoombimbeaaGreatDoorZh
import Derived.Lib.Hide
set_option linter.unusedSimpArgs false
set_option linter.unusedVariables false
namespace Go.Proofs.YthohfoombimbeaaGreatDoor
open Go Go.RowKit Go.Shelf
set_option maxHeartbeats 8000000
set_option maxRecDepth 99999
theorem y0s{nm:List UInt8}{k:Nat}{e c:Int}(hn:nm.length<=1000)(hr: -4611686018427387904<=e/\e<=4611686018427387904/\ -4611686018427387904<=c/\c<=4611686018427387904):(lO nm k e c).length<=2000:=by
 have h1:=zl (n:=e) (by omega) (by omega);have h2:=zl (n:=c) (by omega) (by omega);have h3:=zl (n:=0-c) (by omega) (by omega);have l1:(if c<0 then [45] else if 0<k then [43] else ([]:List UInt8)).length<=1:=by
  split
  ·simp
  ·split<;>simp
 have l2:(if (if c<0 then 0-c else c)=1/\e≠0 then ([]:List UInt8) else Lib.itoa (if c<0 then 0-c else c)).length<=21:=by
  by_cases rA:c<0
  ·rw[zM rA]
   split
   ·simp
   ·exact h3
  ·rw[zL rA]
   split
   ·simp
   ·exact h2
 have l3:(if e=0 then ([]:List UInt8) else nm).length<=1000:=by
  split
  ·simp
  ·exact hn
 have l4:(if e=0\/e=1 then ([]:List UInt8) else 94::Lib.itoa e).length<=22:=by
  split
  ·simp
  ·simp;omega
 unfold lO;rw[zG,zG,zG];omega
theorem pQ{p:List (Int×Int)}{nm:List UInt8}{w W:World}{k K:Nat}{e c:Int}{acc:List UInt8}{v:Value}(cX:k<p.length)(he:(p.getD k (0,0)).1=e)(hc:(p.getD k (0,0)).2=c)
  (hT:TS w (w.heap.size+1) K e c acc W) (hL:(kb nm p k).length<=k*2000) (hn:nm.length<=1000)
  (hr: -4611686018427387904<=e/\e<=4611686018427387904/\ -4611686018427387904<=c/\c<=4611686018427387904) (GQ:acc=kb nm p k++lO nm k e c) (hv:v= .int .i64 ((k:Int)+1)):
  ∃k:Nat,k<=p.length/\v= .int .i64 k/\Lib.IsBuilderF 66 5 w.heap.size (w.heap.size+1) (Lib.byteCells (kb nm p k)) W/\Below w.heap.size w W/\(kb nm p k).length<=k*2000/\w.heap.size+1<W.heap.size:=by
 have e1:kb nm p (k+1)=acc:=by rw[GQ];show kb nm p k++lO nm k (p.getD k (0,0)).1 (p.getD k (0,0)).2=_;rw[he,hc]
 have aC:w.heap.size+1<W.heap.size:=by
  rcases hT.bld with h|h
  ·exact h.lt
  ·exact h.lt
 refine⟨k+1,by omega,?_,by rw[e1];exact hT.bld,hT.bel,?_,aC⟩
 ·rw[hv];simp
 ·rw[e1,GQ,zG]
  have:=y0s (nm:=nm) (k:=k) hn hr
  omega
theorem y0t(p:List (Int×Int))(name:ByteArray)(a:Addr)(cap:Nat)(w:World)(kY:0<p.length)(hg:Good w)(ha:a.block<w.heap.size)
  (hc:∀k,k<p.length->w.cell? (a.add (k*2))=some (.int .i64 (p.getD k (0,0)).1)/\w.cell? (a.add (k*2+1))=some (.int .i64 (p.getD k (0,0)).2))
  (hr:∀k,k<p.length-> -4611686018427387904<=(p.getD k (0,0)).1/\(p.getD k (0,0)).1<=4611686018427387904/\ -4611686018427387904<=(p.getD k (0,0)).2/\(p.getD k (0,0)).2<=4611686018427387904)
  (hn:name.size<=1000) (gq:p.length<=1000000):
  Calls Tryz.prog 12 #[.agg #[.bool false,.slice (some a) p.length cap],.string name] w fun e w'=>e= .returned (.string ⟨(kb name.data.toList p p.length).toArray⟩)/\Below w.heap.size w w':=by
 have wc:((p.length:Int)==0)=false:=by simp;intro h;rw[h]at kY;simp at kY
 have lg:name.data.toList.length<=1000:=hn;have HC:=Lib.hid hc;have HR:=Lib.hid hr;clear hc hr
 go_enter Tryz.func12,Tryz.ntmps12
 go_wp2
 go_loopw [20] (fun i wr=>∃k:Nat,k<=p.length/\i= .int .i64 k/\Lib.IsBuilderF 66 5 w.heap.size (w.heap.size+1) (Lib.byteCells (kb name.data.toList p k)) wr/\Below w.heap.size w wr/\(kb name.data.toList p k).length<=k*2000/\w.heap.size+1<wr.heap.size) (fun i _=>p.length-(intOf i).toNat)
 case atStart=>
  have h:=Ye w (.cells #[.bool false,.slice (some a) p.length cap] 34);exact⟨0,Nat.zero_le _,rfl,h.1,h.2.1,Nat.zero_le _,h.2.2⟩
 case round=>
  obtain⟨k,hk,rfl,hI,hb,hL,hz⟩:=hrel;by_cases cX:k<p.length
  ·have Kg:=HC.out k cX;have oZ:=HR.out k cX;obtain⟨e,he⟩:∃e,(p.getD k (0,0)).1=e:=⟨_,rfl⟩;obtain⟨c,qU⟩:∃c,(p.getD k (0,0)).2=c:=⟨_,rfl⟩;rw[he,qU]at oZ Kg;have HE:=Lib.hid he;have HV:=Lib.hid qU;clear he qU;have g0:wr.cell? (a.add (k*2))=some (.int .i64 e):=by rw[hb.cell (by rw[Co];exact ha)];exact Kg.1
   have g1:wr.cell? ⟨(a.add (k*2)).block,(a.add (k*2)).off+1,none⟩=some (.int .i64 c):=by
    show wr.cell? ((a.add (k*2)).add 1)=_;rw[hb.cell (by rw[Co,Co];exact ha),Qr];exact Kg.2
   clear Kg;have oB:TS w (w.heap.size+1) wr.heap.size e c (kb name.data.toList p k) (wr.alloc (.cells #[.int .i64 e,.int .i64 c] 57)):=⟨hI.alloc _,Ss wr _,by omega,hb.alloc (by omega) _⟩;have c0:=oB.c0;have c1:=oB.c1;have ie:=zl (n:=e) (by omega) (by omega);have ic:=zl (n:=c) (by omega) (by omega);have id:=zl (n:= -c) (by omega) (by omega);have i1:=zl (n:=1) (by omega) (by omega)
   by_cases sq:c<0
   ·have Ay:True:=trivial;by_cases AF:e=0
    ·subst AF;by_cases db:c= -1
     ·subst db
      go_wp2_with (go_at_call 33;refine(oB.byte 45 45 rfl (by first|omega|(simp only[zG,zH,zzC];omega))).mono ?_)
      intro r1 W1 hq
      first|(intro bC;subst hq)|(obtain⟨hq,bC⟩:=hq;subst hq)
      have iA:=bC.c0;have iw:=bC.c1
      go_wp2_with (go_at_call 35;refine(bC.itoa hg 1 (by omega) (by omega)).mono ?_)
      intro r2 W2 hq
      first|(intro bQ;subst hq)|(obtain⟨hq,bQ⟩:=hq;subst hq)
      have jV:=bQ.c0;have jT:=bQ.c1;clear iA iw
      go_wp2_with (go_at_call 34;refine(bQ.str ⟨(Lib.itoa 1).toArray⟩ (by first|omega|(simp only[zG,zH,zzC];omega)) (pP (by omega) (by omega))).mono ?_)
      intro r3 W3 hq
      first|(intro c8;subst hq)|(obtain⟨hq,c8⟩:=hq;subst hq)
      have oE:=c8.c0;have oD:=c8.c1;clear jV jT
      go_wp2
      go_roundw
      case rel=>exact pQ cX HE.out HV.out c8 hL lg oZ (by simp[lO]) rfl
      case measure=>simp[intOf];omega
     ·have db:¬ -c=1:=by omega
      go_wp2_with (go_at_call 33;refine(oB.byte 45 45 rfl (by first|omega|(simp only[zG,zH,zzC];omega))).mono ?_)
      intro r1 W1 hq
      first|(intro bC;subst hq)|(obtain⟨hq,bC⟩:=hq;subst hq)
      have iA:=bC.c0;have iw:=bC.c1
      go_wp2_with (go_at_call 35;refine(bC.itoa hg (-c) (by omega) (by omega)).mono ?_)
      intro r2 W2 hq
      first|(intro bQ;subst hq)|(obtain⟨hq,bQ⟩:=hq;subst hq)
      have jV:=bQ.c0;have jT:=bQ.c1;clear iA iw
      go_wp2_with (go_at_call 34;refine(bQ.str ⟨(Lib.itoa (-c)).toArray⟩ (by first|omega|(simp only[zG,zH,zzC];omega)) (pP (by omega) (by omega))).mono ?_)
      intro r3 W3 hq
      first|(intro c8;subst hq)|(obtain⟨hq,c8⟩:=hq;subst hq)
      have oE:=c8.c0;have oD:=c8.c1;clear jV jT
      go_wp2
      go_roundw
      case rel=>exact pQ cX HE.out HV.out c8 hL lg oZ (by simp[lO,show c<0 by omega,show¬(-c=1) by omega]) rfl
      case measure=>simp[intOf];omega
    ·by_cases wv:e=1
     ·subst wv;by_cases db:c= -1
      ·subst db
       go_wp2_with (go_at_call 33;refine(oB.byte 45 45 rfl (by first|omega|(simp only[zG,zH,zzC];omega))).mono ?_)
       intro r1 W1 hq
       first|(intro bC;subst hq)|(obtain⟨hq,bC⟩:=hq;subst hq)
       have iA:=bC.c0;have iw:=bC.c1
       go_wp2_with (go_at_call 34;refine(bC.str name (by first|omega|(simp only[zG,zH,zzC];omega)) (by omega)).mono ?_)
       intro r2 W2 hq
       first|(intro bQ;subst hq)|(obtain⟨hq,bQ⟩:=hq;subst hq)
       have jV:=bQ.c0;have jT:=bQ.c1;clear iA iw
       go_wp2
       go_roundw
       case rel=>exact pQ cX HE.out HV.out bQ hL lg oZ (by simp[lO]) rfl
       case measure=>simp[intOf];omega
      ·have db:¬ -c=1:=by omega
       go_wp2_with (go_at_call 33;refine(oB.byte 45 45 rfl (by first|omega|(simp only[zG,zH,zzC];omega))).mono ?_)
       intro r1 W1 hq
       first|(intro bC;subst hq)|(obtain⟨hq,bC⟩:=hq;subst hq)
       have iA:=bC.c0;have iw:=bC.c1
       go_wp2_with (go_at_call 35;refine(bC.itoa hg (-c) (by omega) (by omega)).mono ?_)
       intro r2 W2 hq
       first|(intro bQ;subst hq)|(obtain⟨hq,bQ⟩:=hq;subst hq)
       have jV:=bQ.c0;have jT:=bQ.c1;clear iA iw
       go_wp2_with (go_at_call 34;refine(bQ.str ⟨(Lib.itoa (-c)).toArray⟩ (by first|omega|(simp only[zG,zH,zzC];omega)) (pP (by omega) (by omega))).mono ?_)
       intro r3 W3 hq
       first|(intro c8;subst hq)|(obtain⟨hq,c8⟩:=hq;subst hq)
       have oE:=c8.c0;have oD:=c8.c1;clear jV jT
       go_wp2_with (go_at_call 34;refine(c8.str name (by first|omega|(simp only[zG,zH,zzC];omega)) (by omega)).mono ?_)
       intro r4 W4 hq
       first|(intro gu;subst hq)|(obtain⟨hq,gu⟩:=hq;subst hq)
       have uZ:=gu.c0;have uY:=gu.c1;clear oE oD
       go_wp2
       go_roundw
       case rel=>exact pQ cX HE.out HV.out gu hL lg oZ (by simp[lO,show c<0 by omega,show¬(-c=1) by omega]) rfl
       case measure=>simp[intOf];omega
     ·have Xu:(e==0)=false:=by simpa using AF
      have AR:(e==1)=false:=by simpa using wv
      by_cases db:c= -1
      ·subst db
       go_wp2_with (go_at_call 33;refine(oB.byte 45 45 rfl (by first|omega|(simp only[zG,zH,zzC];omega))).mono ?_)
       intro r1 W1 hq
       first|(intro bC;subst hq)|(obtain⟨hq,bC⟩:=hq;subst hq)
       have iA:=bC.c0;have iw:=bC.c1
       go_wp2_with (go_at_call 34;refine(bC.str name (by first|omega|(simp only[zG,zH,zzC];omega)) (by omega)).mono ?_)
       intro r2 W2 hq
       first|(intro bQ;subst hq)|(obtain⟨hq,bQ⟩:=hq;subst hq)
       have jV:=bQ.c0;have jT:=bQ.c1;clear iA iw
       go_wp2_with (go_at_call 33;refine(bQ.byte 94 94 rfl (by first|omega|(simp only[zG,zH,zzC];omega))).mono ?_)
       intro r3 W3 hq
       first|(intro c8;subst hq)|(obtain⟨hq,c8⟩:=hq;subst hq)
       have oE:=c8.c0;have oD:=c8.c1;clear jV jT
       go_wp2_with (go_at_call 35;refine(c8.itoa hg e (by omega) (by omega)).mono ?_)
       intro r4 W4 hq
       first|(intro gu;subst hq)|(obtain⟨hq,gu⟩:=hq;subst hq)
       have uZ:=gu.c0;have uY:=gu.c1;clear oE oD
       go_wp2_with (go_at_call 34;refine(gu.str ⟨(Lib.itoa e).toArray⟩ (by first|omega|(simp only[zG,zH,zzC];omega)) (pP (by omega) (by omega))).mono ?_)
       intro r5 W5 hq
       first|(intro lL;subst hq)|(obtain⟨hq,lL⟩:=hq;subst hq)
       have Ck:=lL.c0;have Cj:=lL.c1;clear uZ uY
       go_wp2
       go_roundw
       case rel=>exact pQ cX HE.out HV.out lL hL lg oZ (by simp[lO,show¬(e=0) by omega,show¬(e=1) by omega]) rfl
       case measure=>simp[intOf];omega
      ·have db:¬ -c=1:=by omega
       go_wp2_with (go_at_call 33;refine(oB.byte 45 45 rfl (by first|omega|(simp only[zG,zH,zzC];omega))).mono ?_)
       intro r1 W1 hq
       first|(intro bC;subst hq)|(obtain⟨hq,bC⟩:=hq;subst hq)
       have iA:=bC.c0;have iw:=bC.c1
       go_wp2_with (go_at_call 35;refine(bC.itoa hg (-c) (by omega) (by omega)).mono ?_)
       intro r2 W2 hq
       first|(intro bQ;subst hq)|(obtain⟨hq,bQ⟩:=hq;subst hq)
       have jV:=bQ.c0;have jT:=bQ.c1;clear iA iw
       go_wp2_with (go_at_call 34;refine(bQ.str ⟨(Lib.itoa (-c)).toArray⟩ (by first|omega|(simp only[zG,zH,zzC];omega)) (pP (by omega) (by omega))).mono ?_)
       intro r3 W3 hq
       first|(intro c8;subst hq)|(obtain⟨hq,c8⟩:=hq;subst hq)
       have oE:=c8.c0;have oD:=c8.c1;clear jV jT
       go_wp2_with (go_at_call 34;refine(c8.str name (by first|omega|(simp only[zG,zH,zzC];omega)) (by omega)).mono ?_)
       intro r4 W4 hq
       first|(intro gu;subst hq)|(obtain⟨hq,gu⟩:=hq;subst hq)
       have uZ:=gu.c0;have uY:=gu.c1;clear oE oD
       go_wp2_with (go_at_call 33;refine(gu.byte 94 94 rfl (by first|omega|(simp only[zG,zH,zzC];omega))).mono ?_)
       intro r5 W5 hq
       first|(intro lL;subst hq)|(obtain⟨hq,lL⟩:=hq;subst hq)
       have Ck:=lL.c0;have Cj:=lL.c1;clear uZ uY
       go_wp2_with (go_at_call 35;refine(lL.itoa hg e (by omega) (by omega)).mono ?_)
       intro r6 W6 hq
       first|(intro te;subst hq)|(obtain⟨hq,te⟩:=hq;subst hq)
       have KL:=te.c0;have KJ:=te.c1;clear Ck Cj
       go_wp2_with (go_at_call 34;refine(te.str ⟨(Lib.itoa e).toArray⟩ (by first|omega|(simp only[zG,zH,zzC];omega)) (pP (by omega) (by omega))).mono ?_)
       intro r7 W7 hq
       first|(intro yN;subst hq)|(obtain⟨hq,yN⟩:=hq;subst hq)
       have c07:=yN.c0;have c17:=yN.c1;clear KL KJ
       go_wp2
       go_roundw
       case rel=>exact pQ cX HE.out HV.out yN hL lg oZ (by simp[lO,show c<0 by omega,show¬(-c=1) by omega,show¬(e=0) by omega,show¬(e=1) by omega]) rfl
       case measure=>simp[intOf];omega
   ·by_cases Ay:0<k
    ·have bk0:decide ((0:Int)<(k:Int))=true:=by simp;omega
     by_cases AF:e=0
     ·subst AF;by_cases db:c=1
      ·subst db
       go_wp2_with (go_at_call 33;refine(oB.byte 43 43 rfl (by first|omega|(simp only[zG,zH,zzC];omega))).mono ?_)
       intro r1 W1 hq
       first|(intro bC;subst hq)|(obtain⟨hq,bC⟩:=hq;subst hq)
       have iA:=bC.c0;have iw:=bC.c1
       go_wp2_with (go_at_call 35;refine(bC.itoa hg 1 (by omega) (by omega)).mono ?_)
       intro r2 W2 hq
       first|(intro bQ;subst hq)|(obtain⟨hq,bQ⟩:=hq;subst hq)
       have jV:=bQ.c0;have jT:=bQ.c1;clear iA iw
       go_wp2_with (go_at_call 34;refine(bQ.str ⟨(Lib.itoa 1).toArray⟩ (by first|omega|(simp only[zG,zH,zzC];omega)) (pP (by omega) (by omega))).mono ?_)
       intro r3 W3 hq
       first|(intro c8;subst hq)|(obtain⟨hq,c8⟩:=hq;subst hq)
       have oE:=c8.c0;have oD:=c8.c1;clear jV jT
       go_wp2
       go_roundw
       case rel=>exact pQ cX HE.out HV.out c8 hL lg oZ (by simp[lO,show 0<k by omega]) rfl
       case measure=>simp[intOf];omega
      ·have wU:(c==1)=false:=by simpa using db
       go_wp2_with (go_at_call 33;refine(oB.byte 43 43 rfl (by first|omega|(simp only[zG,zH,zzC];omega))).mono ?_)
       intro r1 W1 hq
       first|(intro bC;subst hq)|(obtain⟨hq,bC⟩:=hq;subst hq)
       have iA:=bC.c0;have iw:=bC.c1
       go_wp2_with (go_at_call 35;refine(bC.itoa hg c (by omega) (by omega)).mono ?_)
       intro r2 W2 hq
       first|(intro bQ;subst hq)|(obtain⟨hq,bQ⟩:=hq;subst hq)
       have jV:=bQ.c0;have jT:=bQ.c1;clear iA iw
       go_wp2_with (go_at_call 34;refine(bQ.str ⟨(Lib.itoa c).toArray⟩ (by first|omega|(simp only[zG,zH,zzC];omega)) (pP (by omega) (by omega))).mono ?_)
       intro r3 W3 hq
       first|(intro c8;subst hq)|(obtain⟨hq,c8⟩:=hq;subst hq)
       have oE:=c8.c0;have oD:=c8.c1;clear jV jT
       go_wp2
       go_roundw
       case rel=>exact pQ cX HE.out HV.out c8 hL lg oZ (by simp[lO,show¬(c<0) by omega,show¬(c=1) by omega,show 0<k by omega]) rfl
       case measure=>simp[intOf];omega
     ·by_cases wv:e=1
      ·subst wv;by_cases db:c=1
       ·subst db
        go_wp2_with (go_at_call 33;refine(oB.byte 43 43 rfl (by first|omega|(simp only[zG,zH,zzC];omega))).mono ?_)
        intro r1 W1 hq
        first|(intro bC;subst hq)|(obtain⟨hq,bC⟩:=hq;subst hq)
        have iA:=bC.c0;have iw:=bC.c1
        go_wp2_with (go_at_call 34;refine(bC.str name (by first|omega|(simp only[zG,zH,zzC];omega)) (by omega)).mono ?_)
        intro r2 W2 hq
        first|(intro bQ;subst hq)|(obtain⟨hq,bQ⟩:=hq;subst hq)
        have jV:=bQ.c0;have jT:=bQ.c1;clear iA iw
        go_wp2
        go_roundw
        case rel=>exact pQ cX HE.out HV.out bQ hL lg oZ (by simp[lO,show 0<k by omega]) rfl
        case measure=>simp[intOf];omega
       ·have wU:(c==1)=false:=by simpa using db
        go_wp2_with (go_at_call 33;refine(oB.byte 43 43 rfl (by first|omega|(simp only[zG,zH,zzC];omega))).mono ?_)
        intro r1 W1 hq
        first|(intro bC;subst hq)|(obtain⟨hq,bC⟩:=hq;subst hq)
        have iA:=bC.c0;have iw:=bC.c1
        go_wp2_with (go_at_call 35;refine(bC.itoa hg c (by omega) (by omega)).mono ?_)
        intro r2 W2 hq
        first|(intro bQ;subst hq)|(obtain⟨hq,bQ⟩:=hq;subst hq)
        have jV:=bQ.c0;have jT:=bQ.c1;clear iA iw
        go_wp2_with (go_at_call 34;refine(bQ.str ⟨(Lib.itoa c).toArray⟩ (by first|omega|(simp only[zG,zH,zzC];omega)) (pP (by omega) (by omega))).mono ?_)
        intro r3 W3 hq
        first|(intro c8;subst hq)|(obtain⟨hq,c8⟩:=hq;subst hq)
        have oE:=c8.c0;have oD:=c8.c1;clear jV jT
        go_wp2_with (go_at_call 34;refine(c8.str name (by first|omega|(simp only[zG,zH,zzC];omega)) (by omega)).mono ?_)
        intro r4 W4 hq
        first|(intro gu;subst hq)|(obtain⟨hq,gu⟩:=hq;subst hq)
        have uZ:=gu.c0;have uY:=gu.c1;clear oE oD
        go_wp2
        go_roundw
        case rel=>exact pQ cX HE.out HV.out gu hL lg oZ (by simp[lO,show¬(c<0) by omega,show¬(c=1) by omega,show 0<k by omega]) rfl
        case measure=>simp[intOf];omega
      ·have Xu:(e==0)=false:=by simpa using AF
       have AR:(e==1)=false:=by simpa using wv
       by_cases db:c=1
       ·subst db
        go_wp2_with (go_at_call 33;refine(oB.byte 43 43 rfl (by first|omega|(simp only[zG,zH,zzC];omega))).mono ?_)
        intro r1 W1 hq
        first|(intro bC;subst hq)|(obtain⟨hq,bC⟩:=hq;subst hq)
        have iA:=bC.c0;have iw:=bC.c1
        go_wp2_with (go_at_call 34;refine(bC.str name (by first|omega|(simp only[zG,zH,zzC];omega)) (by omega)).mono ?_)
        intro r2 W2 hq
        first|(intro bQ;subst hq)|(obtain⟨hq,bQ⟩:=hq;subst hq)
        have jV:=bQ.c0;have jT:=bQ.c1;clear iA iw
        go_wp2_with (go_at_call 33;refine(bQ.byte 94 94 rfl (by first|omega|(simp only[zG,zH,zzC];omega))).mono ?_)
        intro r3 W3 hq
        first|(intro c8;subst hq)|(obtain⟨hq,c8⟩:=hq;subst hq)
        have oE:=c8.c0;have oD:=c8.c1;clear jV jT
        go_wp2_with (go_at_call 35;refine(c8.itoa hg e (by omega) (by omega)).mono ?_)
        intro r4 W4 hq
        first|(intro gu;subst hq)|(obtain⟨hq,gu⟩:=hq;subst hq)
        have uZ:=gu.c0;have uY:=gu.c1;clear oE oD
        go_wp2_with (go_at_call 34;refine(gu.str ⟨(Lib.itoa e).toArray⟩ (by first|omega|(simp only[zG,zH,zzC];omega)) (pP (by omega) (by omega))).mono ?_)
        intro r5 W5 hq
        first|(intro lL;subst hq)|(obtain⟨hq,lL⟩:=hq;subst hq)
        have Ck:=lL.c0;have Cj:=lL.c1;clear uZ uY
        go_wp2
        go_roundw
        case rel=>exact pQ cX HE.out HV.out lL hL lg oZ (by simp[lO,show 0<k by omega,show¬(e=0) by omega,show¬(e=1) by omega]) rfl
        case measure=>simp[intOf];omega
       ·have wU:(c==1)=false:=by simpa using db
        go_wp2_with (go_at_call 33;refine(oB.byte 43 43 rfl (by first|omega|(simp only[zG,zH,zzC];omega))).mono ?_)
        intro r1 W1 hq
        first|(intro bC;subst hq)|(obtain⟨hq,bC⟩:=hq;subst hq)
        have iA:=bC.c0;have iw:=bC.c1
        go_wp2_with (go_at_call 35;refine(bC.itoa hg c (by omega) (by omega)).mono ?_)
        intro r2 W2 hq
        first|(intro bQ;subst hq)|(obtain⟨hq,bQ⟩:=hq;subst hq)
        have jV:=bQ.c0;have jT:=bQ.c1;clear iA iw
        go_wp2_with (go_at_call 34;refine(bQ.str ⟨(Lib.itoa c).toArray⟩ (by first|omega|(simp only[zG,zH,zzC];omega)) (pP (by omega) (by omega))).mono ?_)
        intro r3 W3 hq
        first|(intro c8;subst hq)|(obtain⟨hq,c8⟩:=hq;subst hq)
        have oE:=c8.c0;have oD:=c8.c1;clear jV jT
        go_wp2_with (go_at_call 34;refine(c8.str name (by first|omega|(simp only[zG,zH,zzC];omega)) (by omega)).mono ?_)
        intro r4 W4 hq
        first|(intro gu;subst hq)|(obtain⟨hq,gu⟩:=hq;subst hq)
        have uZ:=gu.c0;have uY:=gu.c1;clear oE oD
        go_wp2_with (go_at_call 33;refine(gu.byte 94 94 rfl (by first|omega|(simp only[zG,zH,zzC];omega))).mono ?_)
        intro r5 W5 hq
        first|(intro lL;subst hq)|(obtain⟨hq,lL⟩:=hq;subst hq)
        have Ck:=lL.c0;have Cj:=lL.c1;clear uZ uY
        go_wp2_with (go_at_call 35;refine(lL.itoa hg e (by omega) (by omega)).mono ?_)
        intro r6 W6 hq
        first|(intro te;subst hq)|(obtain⟨hq,te⟩:=hq;subst hq)
        have KL:=te.c0;have KJ:=te.c1;clear Ck Cj
        go_wp2_with (go_at_call 34;refine(te.str ⟨(Lib.itoa e).toArray⟩ (by first|omega|(simp only[zG,zH,zzC];omega)) (pP (by omega) (by omega))).mono ?_)
        intro r7 W7 hq
        first|(intro yN;subst hq)|(obtain⟨hq,yN⟩:=hq;subst hq)
        have c07:=yN.c0;have c17:=yN.c1;clear KL KJ
        go_wp2
        go_roundw
        case rel=>exact pQ cX HE.out HV.out yN hL lg oZ (by simp[lO,show¬(c<0) by omega,show¬(c=1) by omega,show 0<k by omega,show¬(e=0) by omega,show¬(e=1) by omega]) rfl
        case measure=>simp[intOf];omega
    ·have bk0:decide ((0:Int)<(k:Int))=false:=by simp;omega
     by_cases AF:e=0
     ·subst AF;by_cases db:c=1
      ·subst db
       go_wp2_with (go_at_call 35;refine(oB.itoa hg 1 (by omega) (by omega)).mono ?_)
       intro r1 W1 hq
       first|(intro bC;subst hq)|(obtain⟨hq,bC⟩:=hq;subst hq)
       have iA:=bC.c0;have iw:=bC.c1
       go_wp2_with (go_at_call 34;refine(bC.str ⟨(Lib.itoa 1).toArray⟩ (by first|omega|(simp only[zG,zH,zzC];omega)) (pP (by omega) (by omega))).mono ?_)
       intro r2 W2 hq
       first|(intro bQ;subst hq)|(obtain⟨hq,bQ⟩:=hq;subst hq)
       have jV:=bQ.c0;have jT:=bQ.c1;clear iA iw
       go_wp2
       go_roundw
       case rel=>exact pQ cX HE.out HV.out bQ hL lg oZ (by simp[lO,show¬(0<k) by omega]) rfl
       case measure=>simp[intOf];omega
      ·have wU:(c==1)=false:=by simpa using db
       go_wp2_with (go_at_call 35;refine(oB.itoa hg c (by omega) (by omega)).mono ?_)
       intro r1 W1 hq
       first|(intro bC;subst hq)|(obtain⟨hq,bC⟩:=hq;subst hq)
       have iA:=bC.c0;have iw:=bC.c1
       go_wp2_with (go_at_call 34;refine(bC.str ⟨(Lib.itoa c).toArray⟩ (by first|omega|(simp only[zG,zH,zzC];omega)) (pP (by omega) (by omega))).mono ?_)
       intro r2 W2 hq
       first|(intro bQ;subst hq)|(obtain⟨hq,bQ⟩:=hq;subst hq)
       have jV:=bQ.c0;have jT:=bQ.c1;clear iA iw
       go_wp2
       go_roundw
       case rel=>exact pQ cX HE.out HV.out bQ hL lg oZ (by simp[lO,show¬(c<0) by omega,show¬(c=1) by omega,show¬(0<k) by omega]) rfl
       case measure=>simp[intOf];omega
     ·by_cases wv:e=1
      ·subst wv;by_cases db:c=1
       ·subst db
        go_wp2_with (go_at_call 34;refine(oB.str name (by first|omega|(simp only[zG,zH,zzC];omega)) (by omega)).mono ?_)
        intro r1 W1 hq
        first|(intro bC;subst hq)|(obtain⟨hq,bC⟩:=hq;subst hq)
        have iA:=bC.c0;have iw:=bC.c1
        go_wp2
        go_roundw
        case rel=>exact pQ cX HE.out HV.out bC hL lg oZ (by simp[lO,show¬(0<k) by omega]) rfl
        case measure=>simp[intOf];omega
       ·have wU:(c==1)=false:=by simpa using db
        go_wp2_with (go_at_call 35;refine(oB.itoa hg c (by omega) (by omega)).mono ?_)
        intro r1 W1 hq
        first|(intro bC;subst hq)|(obtain⟨hq,bC⟩:=hq;subst hq)
        have iA:=bC.c0;have iw:=bC.c1
        go_wp2_with (go_at_call 34;refine(bC.str ⟨(Lib.itoa c).toArray⟩ (by first|omega|(simp only[zG,zH,zzC];omega)) (pP (by omega) (by omega))).mono ?_)
        intro r2 W2 hq
        first|(intro bQ;subst hq)|(obtain⟨hq,bQ⟩:=hq;subst hq)
        have jV:=bQ.c0;have jT:=bQ.c1;clear iA iw
        go_wp2_with (go_at_call 34;refine(bQ.str name (by first|omega|(simp only[zG,zH,zzC];omega)) (by omega)).mono ?_)
        intro r3 W3 hq
        first|(intro c8;subst hq)|(obtain⟨hq,c8⟩:=hq;subst hq)
        have oE:=c8.c0;have oD:=c8.c1;clear jV jT
        go_wp2
        go_roundw
        case rel=>exact pQ cX HE.out HV.out c8 hL lg oZ (by simp[lO,show¬(c<0) by omega,show¬(c=1) by omega,show¬(0<k) by omega]) rfl
        case measure=>simp[intOf];omega
      ·have Xu:(e==0)=false:=by simpa using AF
       have AR:(e==1)=false:=by simpa using wv
       by_cases db:c=1
       ·subst db
        go_wp2_with (go_at_call 34;refine(oB.str name (by first|omega|(simp only[zG,zH,zzC];omega)) (by omega)).mono ?_)
        intro r1 W1 hq
        first|(intro bC;subst hq)|(obtain⟨hq,bC⟩:=hq;subst hq)
        have iA:=bC.c0;have iw:=bC.c1
        go_wp2_with (go_at_call 33;refine(bC.byte 94 94 rfl (by first|omega|(simp only[zG,zH,zzC];omega))).mono ?_)
        intro r2 W2 hq
        first|(intro bQ;subst hq)|(obtain⟨hq,bQ⟩:=hq;subst hq)
        have jV:=bQ.c0;have jT:=bQ.c1;clear iA iw
        go_wp2_with (go_at_call 35;refine(bQ.itoa hg e (by omega) (by omega)).mono ?_)
        intro r3 W3 hq
        first|(intro c8;subst hq)|(obtain⟨hq,c8⟩:=hq;subst hq)
        have oE:=c8.c0;have oD:=c8.c1;clear jV jT
        go_wp2_with (go_at_call 34;refine(c8.str ⟨(Lib.itoa e).toArray⟩ (by first|omega|(simp only[zG,zH,zzC];omega)) (pP (by omega) (by omega))).mono ?_)
        intro r4 W4 hq
        first|(intro gu;subst hq)|(obtain⟨hq,gu⟩:=hq;subst hq)
        have uZ:=gu.c0;have uY:=gu.c1;clear oE oD
        go_wp2
        go_roundw
        case rel=>exact pQ cX HE.out HV.out gu hL lg oZ (by simp[lO,show¬(0<k) by omega,show¬(e=0) by omega,show¬(e=1) by omega]) rfl
        case measure=>simp[intOf];omega
       ·have wU:(c==1)=false:=by simpa using db
        go_wp2_with (go_at_call 35;refine(oB.itoa hg c (by omega) (by omega)).mono ?_)
        intro r1 W1 hq
        first|(intro bC;subst hq)|(obtain⟨hq,bC⟩:=hq;subst hq)
        have iA:=bC.c0;have iw:=bC.c1
        go_wp2_with (go_at_call 34;refine(bC.str ⟨(Lib.itoa c).toArray⟩ (by first|omega|(simp only[zG,zH,zzC];omega)) (pP (by omega) (by omega))).mono ?_)
        intro r2 W2 hq
        first|(intro bQ;subst hq)|(obtain⟨hq,bQ⟩:=hq;subst hq)
        have jV:=bQ.c0;have jT:=bQ.c1;clear iA iw
        go_wp2_with (go_at_call 34;refine(bQ.str name (by first|omega|(simp only[zG,zH,zzC];omega)) (by omega)).mono ?_)
        intro r3 W3 hq
        first|(intro c8;subst hq)|(obtain⟨hq,c8⟩:=hq;subst hq)
        have oE:=c8.c0;have oD:=c8.c1;clear jV jT
        go_wp2_with (go_at_call 33;refine(c8.byte 94 94 rfl (by first|omega|(simp only[zG,zH,zzC];omega))).mono ?_)
        intro r4 W4 hq
        first|(intro gu;subst hq)|(obtain⟨hq,gu⟩:=hq;subst hq)
        have uZ:=gu.c0;have uY:=gu.c1;clear oE oD
        go_wp2_with (go_at_call 35;refine(gu.itoa hg e (by omega) (by omega)).mono ?_)
        intro r5 W5 hq
        first|(intro lL;subst hq)|(obtain⟨hq,lL⟩:=hq;subst hq)
        have Ck:=lL.c0;have Cj:=lL.c1;clear uZ uY
        go_wp2_with (go_at_call 34;refine(lL.str ⟨(Lib.itoa e).toArray⟩ (by first|omega|(simp only[zG,zH,zzC];omega)) (pP (by omega) (by omega))).mono ?_)
        intro r6 W6 hq
        first|(intro te;subst hq)|(obtain⟨hq,te⟩:=hq;subst hq)
        have KL:=te.c0;have KJ:=te.c1;clear Ck Cj
        go_wp2
        go_roundw
        case rel=>exact pQ cX HE.out HV.out te hL lg oZ (by simp[lO,show¬(c<0) by omega,show¬(c=1) by omega,show¬(0<k) by omega,show¬(e=0) by omega,show¬(e=1) by omega]) rfl
        case measure=>simp[intOf];omega
  ·obtain rfl:k=p.length:=by omega
   go_wp2_with (go_at_call 36;refine(TS.string hI hb).mono ?_)
   rintro r W1 ⟨rfl,h1⟩
   go_wp2
   go_ret
   exact⟨rfl,h1⟩
end Go.Proofs.YthohfoombimbeaaGreatDoor
