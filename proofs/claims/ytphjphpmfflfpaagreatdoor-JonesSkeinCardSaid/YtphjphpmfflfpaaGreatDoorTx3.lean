/- Layer 12: the text of a polynomial: the walk. -/
import Derived.Test.YtphjphpmfflfpaaGreatDoorZt
import Derived.Lib.Hide
set_option linter.unusedSimpArgs false
set_option linter.unusedVariables false
namespace Go.Proofs.YtphjphpmfflfpaaGreatDoor
open Go Go.RowKit Go.Shelf
set_option maxHeartbeats 8000000
set_option maxRecDepth 100000
theorem Mg (a:Addr) (i j:Nat):(a.add i).add j=a.add (i+j):=by
 unfold Addr.add;by_cases hi:i=0<;>by_cases hj:j=0<;>simp [hi,hj,Nat.add_assoc]
theorem x9 (a:Addr) (i:Nat):(a.add i).block=a.block:=by unfold Addr.add;split<;>rfl
theorem AH (w:World) (o:Obj):(w.alloc o).heap[w.heap.size]?=some o:=by
 show (w.heap.push o)[w.heap.size]?=some o;simp
theorem Ps {nm:List UInt8} {k:Nat} {e c:Int} (hn:nm.length<=1000) (hr: -4611686018427387904<=e/\e<=4611686018427387904/\ -4611686018427387904<=c/\c<=4611686018427387904):(jE nm k e c).length<=2000:=by
 have h1:=vk (n:=e) (by omega) (by omega);have h2:=vk (n:=c) (by omega) (by omega);have h3:=vk (n:=0-c) (by omega) (by omega);have l1:(if c<0 then [45] else if 0<k then [43] else ([]:List UInt8)).length<=1:=by
  split
  ·simp
  ·split<;>simp
 have l2:(if (if c<0 then 0-c else c)=1/\e≠0 then ([]:List UInt8) else Lib.itoa (if c<0 then 0-c else c)).length<=21:=by
  by_cases pb:c<0
  ·rw [if_pos pb]
   split
   ·simp
   ·exact h3
  ·rw [if_neg pb]
   split
   ·simp
   ·exact h2
 have l3:(if e=0 then ([]:List UInt8) else nm).length<=1000:=by
  split
  ·simp
  ·exact hn
 have l4:(if e=0\/e=1 then ([]:List UInt8) else 94::Lib.itoa e).length<=22:=by
  split
  ·simp
  ·simp;omega
 unfold jE;rw [List.length_append,List.length_append,List.length_append];omega
theorem l5 {n:Int} (h0: -9223372036854775808<=n) (h1:n<=9223372036854775807):(⟨(Lib.itoa n).toArray⟩:ByteArray).size<=100000:=by
 have:=vk h0 h1
 show (Lib.itoa n).toArray.size<=100000;simp;omega
theorem l6 {p:List (Int×Int)} {nm:List UInt8} {w W:World} {k K:Nat} {e c:Int} {acc:List UInt8} {v:Value} (bJ:k<p.length) (he:(p.getD k (0,0)).1=e) (hc:(p.getD k (0,0)).2=c)
  (hT:TS w (w.heap.size+1) K e c acc W) (hL:(txtN nm p k).length<=k*2000) (hn:nm.length<=1000)
  (hr: -4611686018427387904<=e/\e<=4611686018427387904/\ -4611686018427387904<=c/\c<=4611686018427387904) (CR:acc=txtN nm p k++jE nm k e c) (hv:v= .int .i64 ((k:Int)+1)):
  ∃k:Nat,k<=p.length/\v= .int .i64 k/\Lib.IsBuilderF 93 5 w.heap.size (w.heap.size+1) (Lib.byteCells (txtN nm p k)) W/\Below w.heap.size w W/\(txtN nm p k).length<=k*2000/\w.heap.size+1<W.heap.size:=by
 have e1:txtN nm p (k+1)=acc:=by rw [CR];show txtN nm p k++jE nm k (p.getD k (0,0)).1 (p.getD k (0,0)).2=_;rw [he,hc]
 have aA:w.heap.size+1<W.heap.size:=by
  rcases hT.bld with h|h
  ·exact h.lt
  ·exact h.lt
 refine ⟨k+1,by omega,?_,by rw [e1];exact hT.bld,hT.bel,?_,aA⟩
 ·rw [hv];simp
 ·rw [e1,CR,List.length_append]
  have:=Ps (nm:=nm) (k:=k) hn hr
  omega
theorem S8 (w:World) (o:Obj):Lib.IsBuilderF 93 5 w.heap.size (w.heap.size+1) (Lib.byteCells []) ((w.alloc o).alloc (.cells #[.pointer none, .slice none 0 0] 93))/\
  Below w.heap.size w ((w.alloc o).alloc (.cells #[.pointer none, .slice none 0 0] 93))/\w.heap.size+1<((w.alloc o).alloc (.cells #[.pointer none, .slice none 0 0] 93)).heap.size:=by
 have e1:(w.alloc o).heap.size=w.heap.size+1:=by show (w.heap.push o).size=_;simp
 have e2:=AH (w.alloc o) (.cells #[.pointer none, .slice none 0 0] 93);rw [e1] at e2;refine ⟨.inl ⟨by omega, .slice none 0 0,e2,⟨rfl, .inl ⟨rfl,rfl⟩⟩,by simp [Value.ownBlock]⟩,((Below.refl _ w).alloc (Nat.le_refl _) _).alloc (by omega) _,?_⟩;exact (Array.getElem?_eq_some_iff.1 e2).1
theorem Xs (p:List (Int×Int)) (name:ByteArray) (a:Addr) (cap:Nat) (w:World) (jq:0<p.length) (hg:Good w) (ha:a.block<w.heap.size)
  (hc: ∀k,k<p.length->w.cell? (a.add (k*2))=some (.int .i64 (p.getD k (0,0)).1)/\w.cell? (a.add (k*2+1))=some (.int .i64 (p.getD k (0,0)).2))
  (hr: ∀k,k<p.length-> -4611686018427387904<=(p.getD k (0,0)).1/\(p.getD k (0,0)).1<=4611686018427387904/\ -4611686018427387904<=(p.getD k (0,0)).2/\(p.getD k (0,0)).2<=4611686018427387904)
  (hn:name.size<=1000) (jK:p.length<=1000000):
  Calls Tryz.prog 28 #[.agg #[.bool false, .slice (some a) p.length cap], .string name] w fun e w'=>e= .returned (.string ⟨(txtN name.data.toList p p.length).toArray⟩)/\Below w.heap.size w w':=by
 have vN:((p.length:Int)==0)=false:=by simp;intro h;rw [h] at jq;simp at jq
 have iO:name.data.toList.length<=1000:=hn;have HC:=Lib.hid hc;have HR:=Lib.hid hr;clear hc hr
 go_enter Tryz.func28,Tryz.ntmps28
 go_wp2
 go_loopw [20] (fun i wr=> ∃k:Nat,k<=p.length/\i= .int .i64 k/\Lib.IsBuilderF 93 5 w.heap.size (w.heap.size+1) (Lib.byteCells (txtN name.data.toList p k)) wr/\Below w.heap.size w wr/\(txtN name.data.toList p k).length<=k*2000/\w.heap.size+1<wr.heap.size) (fun i _=>p.length-(intOf i).toNat)
 case atStart=>
  have h:=S8 w (.cells #[.bool false, .slice (some a) p.length cap] 29);exact ⟨0,Nat.zero_le _,rfl,h.1,h.2.1,Nat.zero_le _,h.2.2⟩
 case round=>
  obtain ⟨k,hk,rfl,hI,hb,hL,hz⟩:=hrel;by_cases bJ:k<p.length
  ·have FC:=HC.out k bJ;have lI:=HR.out k bJ;obtain ⟨e,he⟩: ∃e,(p.getD k (0,0)).1=e:=⟨_,rfl⟩;obtain ⟨c,oe⟩: ∃c,(p.getD k (0,0)).2=c:=⟨_,rfl⟩;rw [he,oe] at lI FC;have HE:=Lib.hid he;have HV:=Lib.hid oe;clear he oe;have g0:wr.cell? (a.add (k*2))=some (.int .i64 e):=by rw [hb.cell (by rw [x9];exact ha)];exact FC.1
   have g1:wr.cell? ⟨(a.add (k*2)).block,(a.add (k*2)).off+1,none⟩=some (.int .i64 c):=by
    show wr.cell? ((a.add (k*2)).add 1)=_;rw [hb.cell (by rw [x9,x9];exact ha),Mg];exact FC.2
   clear FC;have kz:TS w (w.heap.size+1) wr.heap.size e c (txtN name.data.toList p k) (wr.alloc (.cells #[.int .i64 e, .int .i64 c] 75)):=⟨hI.alloc _,AH wr _,by omega,hb.alloc (by omega) _⟩;have c0:=kz.c0;have c1:=kz.c1;have ie:=vk (n:=e) (by omega) (by omega);have ic:=vk (n:=c) (by omega) (by omega);have id:=vk (n:= -c) (by omega) (by omega);have i1:=vk (n:=1) (by omega) (by omega)
   by_cases n9:c<0
   ·have pT:True:=trivial;by_cases tq:e=0
    ·subst tq;by_cases bX:c= -1
     ·subst bX
      go_wp2_with (go_at_call 81;refine (kz.byte 45 45 rfl (by first|omega|(simp only [List.length_append,List.length_cons,List.length_nil];omega))).mono ?_)
      intro r1 W1 hq
      first|(intro aX;subst hq)|(obtain ⟨hq,aX⟩:=hq;subst hq)
      have fy:=aX.c0;have fx:=aX.c1
      go_wp2_with (go_at_call 82;refine (aX.itoa hg 1 (by omega) (by omega)).mono ?_)
      intro r2 W2 hq
      first|(intro bq;subst hq)|(obtain ⟨hq,bq⟩:=hq;subst hq)
      have gT:=bq.c0;have gS:=bq.c1;clear fy fx
      go_wp2_with (go_at_call 74;refine (bq.str ⟨(Lib.itoa 1).toArray⟩ (by first|omega|(simp only [List.length_append,List.length_cons,List.length_nil];omega)) (l5 (by omega) (by omega))).mono ?_)
      intro r3 W3 hq
      first|(intro bU;subst hq)|(obtain ⟨hq,bU⟩:=hq;subst hq)
      have k9:=bU.c0;have k8:=bU.c1;clear gT gS
      go_wp2
      go_roundw
      case rel=>exact l6 bJ HE.out HV.out bU hL iO lI (by simp [jE]) rfl
      case measure=>simp [intOf];omega
     ·have bX: ¬ -c=1:=by omega
      go_wp2_with (go_at_call 81;refine (kz.byte 45 45 rfl (by first|omega|(simp only [List.length_append,List.length_cons,List.length_nil];omega))).mono ?_)
      intro r1 W1 hq
      first|(intro aX;subst hq)|(obtain ⟨hq,aX⟩:=hq;subst hq)
      have fy:=aX.c0;have fx:=aX.c1
      go_wp2_with (go_at_call 82;refine (aX.itoa hg (-c) (by omega) (by omega)).mono ?_)
      intro r2 W2 hq
      first|(intro bq;subst hq)|(obtain ⟨hq,bq⟩:=hq;subst hq)
      have gT:=bq.c0;have gS:=bq.c1;clear fy fx
      go_wp2_with (go_at_call 74;refine (bq.str ⟨(Lib.itoa (-c)).toArray⟩ (by first|omega|(simp only [List.length_append,List.length_cons,List.length_nil];omega)) (l5 (by omega) (by omega))).mono ?_)
      intro r3 W3 hq
      first|(intro bU;subst hq)|(obtain ⟨hq,bU⟩:=hq;subst hq)
      have k9:=bU.c0;have k8:=bU.c1;clear gT gS
      go_wp2
      go_roundw
      case rel=>exact l6 bJ HE.out HV.out bU hL iO lI (by simp [jE,show c<0 by omega,show¬(-c=1) by omega]) rfl
      case measure=>simp [intOf];omega
    ·by_cases sf:e=1
     ·subst sf;by_cases bX:c= -1
      ·subst bX
       go_wp2_with (go_at_call 81;refine (kz.byte 45 45 rfl (by first|omega|(simp only [List.length_append,List.length_cons,List.length_nil];omega))).mono ?_)
       intro r1 W1 hq
       first|(intro aX;subst hq)|(obtain ⟨hq,aX⟩:=hq;subst hq)
       have fy:=aX.c0;have fx:=aX.c1
       go_wp2_with (go_at_call 74;refine (aX.str name (by first|omega|(simp only [List.length_append,List.length_cons,List.length_nil];omega)) (by omega)).mono ?_)
       intro r2 W2 hq
       first|(intro bq;subst hq)|(obtain ⟨hq,bq⟩:=hq;subst hq)
       have gT:=bq.c0;have gS:=bq.c1;clear fy fx
       go_wp2
       go_roundw
       case rel=>exact l6 bJ HE.out HV.out bq hL iO lI (by simp [jE]) rfl
       case measure=>simp [intOf];omega
      ·have bX: ¬ -c=1:=by omega
       go_wp2_with (go_at_call 81;refine (kz.byte 45 45 rfl (by first|omega|(simp only [List.length_append,List.length_cons,List.length_nil];omega))).mono ?_)
       intro r1 W1 hq
       first|(intro aX;subst hq)|(obtain ⟨hq,aX⟩:=hq;subst hq)
       have fy:=aX.c0;have fx:=aX.c1
       go_wp2_with (go_at_call 82;refine (aX.itoa hg (-c) (by omega) (by omega)).mono ?_)
       intro r2 W2 hq
       first|(intro bq;subst hq)|(obtain ⟨hq,bq⟩:=hq;subst hq)
       have gT:=bq.c0;have gS:=bq.c1;clear fy fx
       go_wp2_with (go_at_call 74;refine (bq.str ⟨(Lib.itoa (-c)).toArray⟩ (by first|omega|(simp only [List.length_append,List.length_cons,List.length_nil];omega)) (l5 (by omega) (by omega))).mono ?_)
       intro r3 W3 hq
       first|(intro bU;subst hq)|(obtain ⟨hq,bU⟩:=hq;subst hq)
       have k9:=bU.c0;have k8:=bU.c1;clear gT gS
       go_wp2_with (go_at_call 74;refine (bU.str name (by first|omega|(simp only [List.length_append,List.length_cons,List.length_nil];omega)) (by omega)).mono ?_)
       intro r4 W4 hq
       first|(intro dU;subst hq)|(obtain ⟨hq,dU⟩:=hq;subst hq)
       have qQ:=dU.c0;have qP:=dU.c1;clear k9 k8
       go_wp2
       go_roundw
       case rel=>exact l6 bJ HE.out HV.out dU hL iO lI (by simp [jE,show c<0 by omega,show¬(-c=1) by omega]) rfl
       case measure=>simp [intOf];omega
     ·have SS:(e==0)=false:=by simpa using tq
      have vZ:(e==1)=false:=by simpa using sf
      by_cases bX:c= -1
      ·subst bX
       go_wp2_with (go_at_call 81;refine (kz.byte 45 45 rfl (by first|omega|(simp only [List.length_append,List.length_cons,List.length_nil];omega))).mono ?_)
       intro r1 W1 hq
       first|(intro aX;subst hq)|(obtain ⟨hq,aX⟩:=hq;subst hq)
       have fy:=aX.c0;have fx:=aX.c1
       go_wp2_with (go_at_call 74;refine (aX.str name (by first|omega|(simp only [List.length_append,List.length_cons,List.length_nil];omega)) (by omega)).mono ?_)
       intro r2 W2 hq
       first|(intro bq;subst hq)|(obtain ⟨hq,bq⟩:=hq;subst hq)
       have gT:=bq.c0;have gS:=bq.c1;clear fy fx
       go_wp2_with (go_at_call 81;refine (bq.byte 94 94 rfl (by first|omega|(simp only [List.length_append,List.length_cons,List.length_nil];omega))).mono ?_)
       intro r3 W3 hq
       first|(intro bU;subst hq)|(obtain ⟨hq,bU⟩:=hq;subst hq)
       have k9:=bU.c0;have k8:=bU.c1;clear gT gS
       go_wp2_with (go_at_call 82;refine (bU.itoa hg e (by omega) (by omega)).mono ?_)
       intro r4 W4 hq
       first|(intro dU;subst hq)|(obtain ⟨hq,dU⟩:=hq;subst hq)
       have qQ:=dU.c0;have qP:=dU.c1;clear k9 k8
       go_wp2_with (go_at_call 74;refine (dU.str ⟨(Lib.itoa e).toArray⟩ (by first|omega|(simp only [List.length_append,List.length_cons,List.length_nil];omega)) (l5 (by omega) (by omega))).mono ?_)
       intro r5 W5 hq
       first|(intro jz;subst hq)|(obtain ⟨hq,jz⟩:=hq;subst hq)
       have xW:=jz.c0;have xV:=jz.c1;clear qQ qP
       go_wp2
       go_roundw
       case rel=>exact l6 bJ HE.out HV.out jz hL iO lI (by simp [jE,show¬(e=0) by omega,show¬(e=1) by omega]) rfl
       case measure=>simp [intOf];omega
      ·have bX: ¬ -c=1:=by omega
       go_wp2_with (go_at_call 81;refine (kz.byte 45 45 rfl (by first|omega|(simp only [List.length_append,List.length_cons,List.length_nil];omega))).mono ?_)
       intro r1 W1 hq
       first|(intro aX;subst hq)|(obtain ⟨hq,aX⟩:=hq;subst hq)
       have fy:=aX.c0;have fx:=aX.c1
       go_wp2_with (go_at_call 82;refine (aX.itoa hg (-c) (by omega) (by omega)).mono ?_)
       intro r2 W2 hq
       first|(intro bq;subst hq)|(obtain ⟨hq,bq⟩:=hq;subst hq)
       have gT:=bq.c0;have gS:=bq.c1;clear fy fx
       go_wp2_with (go_at_call 74;refine (bq.str ⟨(Lib.itoa (-c)).toArray⟩ (by first|omega|(simp only [List.length_append,List.length_cons,List.length_nil];omega)) (l5 (by omega) (by omega))).mono ?_)
       intro r3 W3 hq
       first|(intro bU;subst hq)|(obtain ⟨hq,bU⟩:=hq;subst hq)
       have k9:=bU.c0;have k8:=bU.c1;clear gT gS
       go_wp2_with (go_at_call 74;refine (bU.str name (by first|omega|(simp only [List.length_append,List.length_cons,List.length_nil];omega)) (by omega)).mono ?_)
       intro r4 W4 hq
       first|(intro dU;subst hq)|(obtain ⟨hq,dU⟩:=hq;subst hq)
       have qQ:=dU.c0;have qP:=dU.c1;clear k9 k8
       go_wp2_with (go_at_call 81;refine (dU.byte 94 94 rfl (by first|omega|(simp only [List.length_append,List.length_cons,List.length_nil];omega))).mono ?_)
       intro r5 W5 hq
       first|(intro jz;subst hq)|(obtain ⟨hq,jz⟩:=hq;subst hq)
       have xW:=jz.c0;have xV:=jz.c1;clear qQ qP
       go_wp2_with (go_at_call 82;refine (jz.itoa hg e (by omega) (by omega)).mono ?_)
       intro r6 W6 hq
       first|(intro pf;subst hq)|(obtain ⟨hq,pf⟩:=hq;subst hq)
       have FP:=pf.c0;have FO:=pf.c1;clear xW xV
       go_wp2_with (go_at_call 74;refine (pf.str ⟨(Lib.itoa e).toArray⟩ (by first|omega|(simp only [List.length_append,List.length_cons,List.length_nil];omega)) (l5 (by omega) (by omega))).mono ?_)
       intro r7 W7 hq
       first|(intro uL;subst hq)|(obtain ⟨hq,uL⟩:=hq;subst hq)
       have Ze:=uL.c0;have Zd:=uL.c1;clear FP FO
       go_wp2
       go_roundw
       case rel=>exact l6 bJ HE.out HV.out uL hL iO lI (by simp [jE,show c<0 by omega,show¬(-c=1) by omega,show¬(e=0) by omega,show¬(e=1) by omega]) rfl
       case measure=>simp [intOf];omega
   ·by_cases pT:0<k
    ·have Zf:decide ((0:Int)<(k:Int))=true:=by simp;omega
     by_cases tq:e=0
     ·subst tq;by_cases bX:c=1
      ·subst bX
       go_wp2_with (go_at_call 81;refine (kz.byte 43 43 rfl (by first|omega|(simp only [List.length_append,List.length_cons,List.length_nil];omega))).mono ?_)
       intro r1 W1 hq
       first|(intro aX;subst hq)|(obtain ⟨hq,aX⟩:=hq;subst hq)
       have fy:=aX.c0;have fx:=aX.c1
       go_wp2_with (go_at_call 82;refine (aX.itoa hg 1 (by omega) (by omega)).mono ?_)
       intro r2 W2 hq
       first|(intro bq;subst hq)|(obtain ⟨hq,bq⟩:=hq;subst hq)
       have gT:=bq.c0;have gS:=bq.c1;clear fy fx
       go_wp2_with (go_at_call 74;refine (bq.str ⟨(Lib.itoa 1).toArray⟩ (by first|omega|(simp only [List.length_append,List.length_cons,List.length_nil];omega)) (l5 (by omega) (by omega))).mono ?_)
       intro r3 W3 hq
       first|(intro bU;subst hq)|(obtain ⟨hq,bU⟩:=hq;subst hq)
       have k9:=bU.c0;have k8:=bU.c1;clear gT gS
       go_wp2
       go_roundw
       case rel=>exact l6 bJ HE.out HV.out bU hL iO lI (by simp [jE,show 0<k by omega]) rfl
       case measure=>simp [intOf];omega
      ·have sH:(c==1)=false:=by simpa using bX
       go_wp2_with (go_at_call 81;refine (kz.byte 43 43 rfl (by first|omega|(simp only [List.length_append,List.length_cons,List.length_nil];omega))).mono ?_)
       intro r1 W1 hq
       first|(intro aX;subst hq)|(obtain ⟨hq,aX⟩:=hq;subst hq)
       have fy:=aX.c0;have fx:=aX.c1
       go_wp2_with (go_at_call 82;refine (aX.itoa hg c (by omega) (by omega)).mono ?_)
       intro r2 W2 hq
       first|(intro bq;subst hq)|(obtain ⟨hq,bq⟩:=hq;subst hq)
       have gT:=bq.c0;have gS:=bq.c1;clear fy fx
       go_wp2_with (go_at_call 74;refine (bq.str ⟨(Lib.itoa c).toArray⟩ (by first|omega|(simp only [List.length_append,List.length_cons,List.length_nil];omega)) (l5 (by omega) (by omega))).mono ?_)
       intro r3 W3 hq
       first|(intro bU;subst hq)|(obtain ⟨hq,bU⟩:=hq;subst hq)
       have k9:=bU.c0;have k8:=bU.c1;clear gT gS
       go_wp2
       go_roundw
       case rel=>exact l6 bJ HE.out HV.out bU hL iO lI (by simp [jE,show¬(c<0) by omega,show¬(c=1) by omega,show 0<k by omega]) rfl
       case measure=>simp [intOf];omega
     ·by_cases sf:e=1
      ·subst sf;by_cases bX:c=1
       ·subst bX
        go_wp2_with (go_at_call 81;refine (kz.byte 43 43 rfl (by first|omega|(simp only [List.length_append,List.length_cons,List.length_nil];omega))).mono ?_)
        intro r1 W1 hq
        first|(intro aX;subst hq)|(obtain ⟨hq,aX⟩:=hq;subst hq)
        have fy:=aX.c0;have fx:=aX.c1
        go_wp2_with (go_at_call 74;refine (aX.str name (by first|omega|(simp only [List.length_append,List.length_cons,List.length_nil];omega)) (by omega)).mono ?_)
        intro r2 W2 hq
        first|(intro bq;subst hq)|(obtain ⟨hq,bq⟩:=hq;subst hq)
        have gT:=bq.c0;have gS:=bq.c1;clear fy fx
        go_wp2
        go_roundw
        case rel=>exact l6 bJ HE.out HV.out bq hL iO lI (by simp [jE,show 0<k by omega]) rfl
        case measure=>simp [intOf];omega
       ·have sH:(c==1)=false:=by simpa using bX
        go_wp2_with (go_at_call 81;refine (kz.byte 43 43 rfl (by first|omega|(simp only [List.length_append,List.length_cons,List.length_nil];omega))).mono ?_)
        intro r1 W1 hq
        first|(intro aX;subst hq)|(obtain ⟨hq,aX⟩:=hq;subst hq)
        have fy:=aX.c0;have fx:=aX.c1
        go_wp2_with (go_at_call 82;refine (aX.itoa hg c (by omega) (by omega)).mono ?_)
        intro r2 W2 hq
        first|(intro bq;subst hq)|(obtain ⟨hq,bq⟩:=hq;subst hq)
        have gT:=bq.c0;have gS:=bq.c1;clear fy fx
        go_wp2_with (go_at_call 74;refine (bq.str ⟨(Lib.itoa c).toArray⟩ (by first|omega|(simp only [List.length_append,List.length_cons,List.length_nil];omega)) (l5 (by omega) (by omega))).mono ?_)
        intro r3 W3 hq
        first|(intro bU;subst hq)|(obtain ⟨hq,bU⟩:=hq;subst hq)
        have k9:=bU.c0;have k8:=bU.c1;clear gT gS
        go_wp2_with (go_at_call 74;refine (bU.str name (by first|omega|(simp only [List.length_append,List.length_cons,List.length_nil];omega)) (by omega)).mono ?_)
        intro r4 W4 hq
        first|(intro dU;subst hq)|(obtain ⟨hq,dU⟩:=hq;subst hq)
        have qQ:=dU.c0;have qP:=dU.c1;clear k9 k8
        go_wp2
        go_roundw
        case rel=>exact l6 bJ HE.out HV.out dU hL iO lI (by simp [jE,show¬(c<0) by omega,show¬(c=1) by omega,show 0<k by omega]) rfl
        case measure=>simp [intOf];omega
      ·have SS:(e==0)=false:=by simpa using tq
       have vZ:(e==1)=false:=by simpa using sf
       by_cases bX:c=1
       ·subst bX
        go_wp2_with (go_at_call 81;refine (kz.byte 43 43 rfl (by first|omega|(simp only [List.length_append,List.length_cons,List.length_nil];omega))).mono ?_)
        intro r1 W1 hq
        first|(intro aX;subst hq)|(obtain ⟨hq,aX⟩:=hq;subst hq)
        have fy:=aX.c0;have fx:=aX.c1
        go_wp2_with (go_at_call 74;refine (aX.str name (by first|omega|(simp only [List.length_append,List.length_cons,List.length_nil];omega)) (by omega)).mono ?_)
        intro r2 W2 hq
        first|(intro bq;subst hq)|(obtain ⟨hq,bq⟩:=hq;subst hq)
        have gT:=bq.c0;have gS:=bq.c1;clear fy fx
        go_wp2_with (go_at_call 81;refine (bq.byte 94 94 rfl (by first|omega|(simp only [List.length_append,List.length_cons,List.length_nil];omega))).mono ?_)
        intro r3 W3 hq
        first|(intro bU;subst hq)|(obtain ⟨hq,bU⟩:=hq;subst hq)
        have k9:=bU.c0;have k8:=bU.c1;clear gT gS
        go_wp2_with (go_at_call 82;refine (bU.itoa hg e (by omega) (by omega)).mono ?_)
        intro r4 W4 hq
        first|(intro dU;subst hq)|(obtain ⟨hq,dU⟩:=hq;subst hq)
        have qQ:=dU.c0;have qP:=dU.c1;clear k9 k8
        go_wp2_with (go_at_call 74;refine (dU.str ⟨(Lib.itoa e).toArray⟩ (by first|omega|(simp only [List.length_append,List.length_cons,List.length_nil];omega)) (l5 (by omega) (by omega))).mono ?_)
        intro r5 W5 hq
        first|(intro jz;subst hq)|(obtain ⟨hq,jz⟩:=hq;subst hq)
        have xW:=jz.c0;have xV:=jz.c1;clear qQ qP
        go_wp2
        go_roundw
        case rel=>exact l6 bJ HE.out HV.out jz hL iO lI (by simp [jE,show 0<k by omega,show¬(e=0) by omega,show¬(e=1) by omega]) rfl
        case measure=>simp [intOf];omega
       ·have sH:(c==1)=false:=by simpa using bX
        go_wp2_with (go_at_call 81;refine (kz.byte 43 43 rfl (by first|omega|(simp only [List.length_append,List.length_cons,List.length_nil];omega))).mono ?_)
        intro r1 W1 hq
        first|(intro aX;subst hq)|(obtain ⟨hq,aX⟩:=hq;subst hq)
        have fy:=aX.c0;have fx:=aX.c1
        go_wp2_with (go_at_call 82;refine (aX.itoa hg c (by omega) (by omega)).mono ?_)
        intro r2 W2 hq
        first|(intro bq;subst hq)|(obtain ⟨hq,bq⟩:=hq;subst hq)
        have gT:=bq.c0;have gS:=bq.c1;clear fy fx
        go_wp2_with (go_at_call 74;refine (bq.str ⟨(Lib.itoa c).toArray⟩ (by first|omega|(simp only [List.length_append,List.length_cons,List.length_nil];omega)) (l5 (by omega) (by omega))).mono ?_)
        intro r3 W3 hq
        first|(intro bU;subst hq)|(obtain ⟨hq,bU⟩:=hq;subst hq)
        have k9:=bU.c0;have k8:=bU.c1;clear gT gS
        go_wp2_with (go_at_call 74;refine (bU.str name (by first|omega|(simp only [List.length_append,List.length_cons,List.length_nil];omega)) (by omega)).mono ?_)
        intro r4 W4 hq
        first|(intro dU;subst hq)|(obtain ⟨hq,dU⟩:=hq;subst hq)
        have qQ:=dU.c0;have qP:=dU.c1;clear k9 k8
        go_wp2_with (go_at_call 81;refine (dU.byte 94 94 rfl (by first|omega|(simp only [List.length_append,List.length_cons,List.length_nil];omega))).mono ?_)
        intro r5 W5 hq
        first|(intro jz;subst hq)|(obtain ⟨hq,jz⟩:=hq;subst hq)
        have xW:=jz.c0;have xV:=jz.c1;clear qQ qP
        go_wp2_with (go_at_call 82;refine (jz.itoa hg e (by omega) (by omega)).mono ?_)
        intro r6 W6 hq
        first|(intro pf;subst hq)|(obtain ⟨hq,pf⟩:=hq;subst hq)
        have FP:=pf.c0;have FO:=pf.c1;clear xW xV
        go_wp2_with (go_at_call 74;refine (pf.str ⟨(Lib.itoa e).toArray⟩ (by first|omega|(simp only [List.length_append,List.length_cons,List.length_nil];omega)) (l5 (by omega) (by omega))).mono ?_)
        intro r7 W7 hq
        first|(intro uL;subst hq)|(obtain ⟨hq,uL⟩:=hq;subst hq)
        have Ze:=uL.c0;have Zd:=uL.c1;clear FP FO
        go_wp2
        go_roundw
        case rel=>exact l6 bJ HE.out HV.out uL hL iO lI (by simp [jE,show¬(c<0) by omega,show¬(c=1) by omega,show 0<k by omega,show¬(e=0) by omega,show¬(e=1) by omega]) rfl
        case measure=>simp [intOf];omega
    ·have Zf:decide ((0:Int)<(k:Int))=false:=by simp;omega
     by_cases tq:e=0
     ·subst tq;by_cases bX:c=1
      ·subst bX
       go_wp2_with (go_at_call 82;refine (kz.itoa hg 1 (by omega) (by omega)).mono ?_)
       intro r1 W1 hq
       first|(intro aX;subst hq)|(obtain ⟨hq,aX⟩:=hq;subst hq)
       have fy:=aX.c0;have fx:=aX.c1
       go_wp2_with (go_at_call 74;refine (aX.str ⟨(Lib.itoa 1).toArray⟩ (by first|omega|(simp only [List.length_append,List.length_cons,List.length_nil];omega)) (l5 (by omega) (by omega))).mono ?_)
       intro r2 W2 hq
       first|(intro bq;subst hq)|(obtain ⟨hq,bq⟩:=hq;subst hq)
       have gT:=bq.c0;have gS:=bq.c1;clear fy fx
       go_wp2
       go_roundw
       case rel=>exact l6 bJ HE.out HV.out bq hL iO lI (by simp [jE,show¬(0<k) by omega]) rfl
       case measure=>simp [intOf];omega
      ·have sH:(c==1)=false:=by simpa using bX
       go_wp2_with (go_at_call 82;refine (kz.itoa hg c (by omega) (by omega)).mono ?_)
       intro r1 W1 hq
       first|(intro aX;subst hq)|(obtain ⟨hq,aX⟩:=hq;subst hq)
       have fy:=aX.c0;have fx:=aX.c1
       go_wp2_with (go_at_call 74;refine (aX.str ⟨(Lib.itoa c).toArray⟩ (by first|omega|(simp only [List.length_append,List.length_cons,List.length_nil];omega)) (l5 (by omega) (by omega))).mono ?_)
       intro r2 W2 hq
       first|(intro bq;subst hq)|(obtain ⟨hq,bq⟩:=hq;subst hq)
       have gT:=bq.c0;have gS:=bq.c1;clear fy fx
       go_wp2
       go_roundw
       case rel=>exact l6 bJ HE.out HV.out bq hL iO lI (by simp [jE,show¬(c<0) by omega,show¬(c=1) by omega,show¬(0<k) by omega]) rfl
       case measure=>simp [intOf];omega
     ·by_cases sf:e=1
      ·subst sf;by_cases bX:c=1
       ·subst bX
        go_wp2_with (go_at_call 74;refine (kz.str name (by first|omega|(simp only [List.length_append,List.length_cons,List.length_nil];omega)) (by omega)).mono ?_)
        intro r1 W1 hq
        first|(intro aX;subst hq)|(obtain ⟨hq,aX⟩:=hq;subst hq)
        have fy:=aX.c0;have fx:=aX.c1
        go_wp2
        go_roundw
        case rel=>exact l6 bJ HE.out HV.out aX hL iO lI (by simp [jE,show¬(0<k) by omega]) rfl
        case measure=>simp [intOf];omega
       ·have sH:(c==1)=false:=by simpa using bX
        go_wp2_with (go_at_call 82;refine (kz.itoa hg c (by omega) (by omega)).mono ?_)
        intro r1 W1 hq
        first|(intro aX;subst hq)|(obtain ⟨hq,aX⟩:=hq;subst hq)
        have fy:=aX.c0;have fx:=aX.c1
        go_wp2_with (go_at_call 74;refine (aX.str ⟨(Lib.itoa c).toArray⟩ (by first|omega|(simp only [List.length_append,List.length_cons,List.length_nil];omega)) (l5 (by omega) (by omega))).mono ?_)
        intro r2 W2 hq
        first|(intro bq;subst hq)|(obtain ⟨hq,bq⟩:=hq;subst hq)
        have gT:=bq.c0;have gS:=bq.c1;clear fy fx
        go_wp2_with (go_at_call 74;refine (bq.str name (by first|omega|(simp only [List.length_append,List.length_cons,List.length_nil];omega)) (by omega)).mono ?_)
        intro r3 W3 hq
        first|(intro bU;subst hq)|(obtain ⟨hq,bU⟩:=hq;subst hq)
        have k9:=bU.c0;have k8:=bU.c1;clear gT gS
        go_wp2
        go_roundw
        case rel=>exact l6 bJ HE.out HV.out bU hL iO lI (by simp [jE,show¬(c<0) by omega,show¬(c=1) by omega,show¬(0<k) by omega]) rfl
        case measure=>simp [intOf];omega
      ·have SS:(e==0)=false:=by simpa using tq
       have vZ:(e==1)=false:=by simpa using sf
       by_cases bX:c=1
       ·subst bX
        go_wp2_with (go_at_call 74;refine (kz.str name (by first|omega|(simp only [List.length_append,List.length_cons,List.length_nil];omega)) (by omega)).mono ?_)
        intro r1 W1 hq
        first|(intro aX;subst hq)|(obtain ⟨hq,aX⟩:=hq;subst hq)
        have fy:=aX.c0;have fx:=aX.c1
        go_wp2_with (go_at_call 81;refine (aX.byte 94 94 rfl (by first|omega|(simp only [List.length_append,List.length_cons,List.length_nil];omega))).mono ?_)
        intro r2 W2 hq
        first|(intro bq;subst hq)|(obtain ⟨hq,bq⟩:=hq;subst hq)
        have gT:=bq.c0;have gS:=bq.c1;clear fy fx
        go_wp2_with (go_at_call 82;refine (bq.itoa hg e (by omega) (by omega)).mono ?_)
        intro r3 W3 hq
        first|(intro bU;subst hq)|(obtain ⟨hq,bU⟩:=hq;subst hq)
        have k9:=bU.c0;have k8:=bU.c1;clear gT gS
        go_wp2_with (go_at_call 74;refine (bU.str ⟨(Lib.itoa e).toArray⟩ (by first|omega|(simp only [List.length_append,List.length_cons,List.length_nil];omega)) (l5 (by omega) (by omega))).mono ?_)
        intro r4 W4 hq
        first|(intro dU;subst hq)|(obtain ⟨hq,dU⟩:=hq;subst hq)
        have qQ:=dU.c0;have qP:=dU.c1;clear k9 k8
        go_wp2
        go_roundw
        case rel=>exact l6 bJ HE.out HV.out dU hL iO lI (by simp [jE,show¬(0<k) by omega,show¬(e=0) by omega,show¬(e=1) by omega]) rfl
        case measure=>simp [intOf];omega
       ·have sH:(c==1)=false:=by simpa using bX
        go_wp2_with (go_at_call 82;refine (kz.itoa hg c (by omega) (by omega)).mono ?_)
        intro r1 W1 hq
        first|(intro aX;subst hq)|(obtain ⟨hq,aX⟩:=hq;subst hq)
        have fy:=aX.c0;have fx:=aX.c1
        go_wp2_with (go_at_call 74;refine (aX.str ⟨(Lib.itoa c).toArray⟩ (by first|omega|(simp only [List.length_append,List.length_cons,List.length_nil];omega)) (l5 (by omega) (by omega))).mono ?_)
        intro r2 W2 hq
        first|(intro bq;subst hq)|(obtain ⟨hq,bq⟩:=hq;subst hq)
        have gT:=bq.c0;have gS:=bq.c1;clear fy fx
        go_wp2_with (go_at_call 74;refine (bq.str name (by first|omega|(simp only [List.length_append,List.length_cons,List.length_nil];omega)) (by omega)).mono ?_)
        intro r3 W3 hq
        first|(intro bU;subst hq)|(obtain ⟨hq,bU⟩:=hq;subst hq)
        have k9:=bU.c0;have k8:=bU.c1;clear gT gS
        go_wp2_with (go_at_call 81;refine (bU.byte 94 94 rfl (by first|omega|(simp only [List.length_append,List.length_cons,List.length_nil];omega))).mono ?_)
        intro r4 W4 hq
        first|(intro dU;subst hq)|(obtain ⟨hq,dU⟩:=hq;subst hq)
        have qQ:=dU.c0;have qP:=dU.c1;clear k9 k8
        go_wp2_with (go_at_call 82;refine (dU.itoa hg e (by omega) (by omega)).mono ?_)
        intro r5 W5 hq
        first|(intro jz;subst hq)|(obtain ⟨hq,jz⟩:=hq;subst hq)
        have xW:=jz.c0;have xV:=jz.c1;clear qQ qP
        go_wp2_with (go_at_call 74;refine (jz.str ⟨(Lib.itoa e).toArray⟩ (by first|omega|(simp only [List.length_append,List.length_cons,List.length_nil];omega)) (l5 (by omega) (by omega))).mono ?_)
        intro r6 W6 hq
        first|(intro pf;subst hq)|(obtain ⟨hq,pf⟩:=hq;subst hq)
        have FP:=pf.c0;have FO:=pf.c1;clear xW xV
        go_wp2
        go_roundw
        case rel=>exact l6 bJ HE.out HV.out pf hL iO lI (by simp [jE,show¬(c<0) by omega,show¬(c=1) by omega,show¬(0<k) by omega,show¬(e=0) by omega,show¬(e=1) by omega]) rfl
        case measure=>simp [intOf];omega
  ·obtain rfl:k=p.length:=by omega
   go_wp2_with (go_at_call 77;refine (TS.string hI hb).mono ?_)
   rintro r W1 ⟨rfl,h1⟩
   go_wp2
   go_ret
   exact ⟨rfl,h1⟩
end Go.Proofs.YtphjphpmfflfpaaGreatDoor
