/- Layer 12: the text of a polynomial: the walk. -/
import Derived.Test.YtphjphpmfflfpaaGreatDoorZo
import Derived.Lib.Hide
set_option linter.unusedSimpArgs false
set_option linter.unusedVariables false
namespace Go.Proofs.YtphjphpmfflfpaaGreatDoor
open Go Go.RowKit Go.Shelf
set_option maxHeartbeats 8000000
set_option maxRecDepth 100000
theorem QW (a:Addr) (i j:Nat):(a.add i).add j=a.add (i+j):=by
 unfold Addr.add;by_cases hi:i=0<;>by_cases hj:j=0<;>simp [hi,hj,Nat.add_assoc]
theorem AO (a:Addr) (i:Nat):(a.add i).block=a.block:=by unfold Addr.add;split<;>rfl
theorem Dg (w:World) (o:Obj):(w.alloc o).heap[w.heap.size]?=some o:=by
 show (w.heap.push o)[w.heap.size]?=some o;simp
theorem Tv {nm:List UInt8} {k:Nat} {e c:Int} (hn:nm.length<=1000) (hr: -4611686018427387904<=e/\e<=4611686018427387904/\ -4611686018427387904<=c/\c<=4611686018427387904):(kg nm k e c).length<=2000:=by
 have h1:=xv (n:=e) (by omega) (by omega);have h2:=xv (n:=c) (by omega) (by omega);have h3:=xv (n:=0-c) (by omega) (by omega);have l1:(if c<0 then [45] else if 0<k then [43] else ([]:List UInt8)).length<=1:=by
  split
  ·simp
  ·split<;>simp
 have l2:(if (if c<0 then 0-c else c)=1/\e≠0 then ([]:List UInt8) else Lib.itoa (if c<0 then 0-c else c)).length<=21:=by
  by_cases qP:c<0
  ·rw [if_pos qP]
   split
   ·simp
   ·exact h3
  ·rw [if_neg qP]
   split
   ·simp
   ·exact h2
 have l3:(if e=0 then ([]:List UInt8) else nm).length<=1000:=by
  split
  ·simp
  ·exact hn
 have l4:(if e=0\/e=1 then ([]:List UInt8) else 94::Lib.itoa e).length<=22:=by
  split
  ·simp
  ·simp;omega
 unfold kg;rw [List.length_append,List.length_append,List.length_append];omega
theorem nK {n:Int} (h0: -9223372036854775808<=n) (h1:n<=9223372036854775807):(⟨(Lib.itoa n).toArray⟩:ByteArray).size<=100000:=by
 have:=xv h0 h1
 show (Lib.itoa n).toArray.size<=100000;simp;omega
theorem nI {p:List (Int×Int)} {nm:List UInt8} {w W:World} {k K:Nat} {e c:Int} {acc:List UInt8} {v:Value} (bN:k<p.length) (he:(p.getD k (0,0)).1=e) (hc:(p.getD k (0,0)).2=c)
  (hT:TS w (w.heap.size+1) K e c acc W) (hL:(txtN nm p k).length<=k*2000) (hn:nm.length<=1000)
  (hr: -4611686018427387904<=e/\e<=4611686018427387904/\ -4611686018427387904<=c/\c<=4611686018427387904) (Fs:acc=txtN nm p k++kg nm k e c) (hv:v= .int .i64 ((k:Int)+1)):
  ∃k:Nat,k<=p.length/\v= .int .i64 k/\Lib.IsBuilderF 93 5 w.heap.size (w.heap.size+1) (Lib.byteCells (txtN nm p k)) W/\Below w.heap.size w W/\(txtN nm p k).length<=k*2000/\w.heap.size+1<W.heap.size:=by
 have e1:txtN nm p (k+1)=acc:=by rw [Fs];show txtN nm p k++kg nm k (p.getD k (0,0)).1 (p.getD k (0,0)).2=_;rw [he,hc]
 have aG:w.heap.size+1<W.heap.size:=by
  rcases hT.bld with h|h
  ·exact h.lt
  ·exact h.lt
 refine ⟨k+1,by omega,?_,by rw [e1];exact hT.bld,hT.bel,?_,aG⟩
 ·rw [hv];simp
 ·rw [e1,Fs,List.length_append]
  have:=Tv (nm:=nm) (k:=k) hn hr
  omega
theorem y2n (w:World) (o:Obj):Lib.IsBuilderF 93 5 w.heap.size (w.heap.size+1) (Lib.byteCells []) ((w.alloc o).alloc (.cells #[.pointer none, .slice none 0 0] 93))/\
  Below w.heap.size w ((w.alloc o).alloc (.cells #[.pointer none, .slice none 0 0] 93))/\w.heap.size+1<((w.alloc o).alloc (.cells #[.pointer none, .slice none 0 0] 93)).heap.size:=by
 have e1:(w.alloc o).heap.size=w.heap.size+1:=by show (w.heap.push o).size=_;simp
 have e2:=Dg (w.alloc o) (.cells #[.pointer none, .slice none 0 0] 93);rw [e1] at e2;refine ⟨.inl ⟨by omega, .slice none 0 0,e2,⟨rfl, .inl ⟨rfl,rfl⟩⟩,by simp [Value.ownBlock]⟩,((Below.refl _ w).alloc (Nat.le_refl _) _).alloc (by omega) _,?_⟩;exact (Array.getElem?_eq_some_iff.1 e2).1
theorem Z3 (p:List (Int×Int)) (name:ByteArray) (a:Addr) (cap:Nat) (w:World) (lf:0<p.length) (hg:Good w) (ha:a.block<w.heap.size)
  (hc: ∀k,k<p.length->w.cell? (a.add (k*2))=some (.int .i64 (p.getD k (0,0)).1)/\w.cell? (a.add (k*2+1))=some (.int .i64 (p.getD k (0,0)).2))
  (hr: ∀k,k<p.length-> -4611686018427387904<=(p.getD k (0,0)).1/\(p.getD k (0,0)).1<=4611686018427387904/\ -4611686018427387904<=(p.getD k (0,0)).2/\(p.getD k (0,0)).2<=4611686018427387904)
  (hn:name.size<=1000) (lI:p.length<=1000000):
  Calls Tryz.prog 28 #[.agg #[.bool false, .slice (some a) p.length cap], .string name] w fun e w'=>e= .returned (.string ⟨(txtN name.data.toList p p.length).toArray⟩)/\Below w.heap.size w w':=by
 have yq:((p.length:Int)==0)=false:=by simp;intro h;rw [h] at lf;simp at lf
 have jF:name.data.toList.length<=1000:=hn;have HC:=Lib.hid hc;have HR:=Lib.hid hr;clear hc hr
 go_enter Tryz.func28,Tryz.ntmps28
 go_wp2
 go_loopw [20] (fun i wr=> ∃k:Nat,k<=p.length/\i= .int .i64 k/\Lib.IsBuilderF 93 5 w.heap.size (w.heap.size+1) (Lib.byteCells (txtN name.data.toList p k)) wr/\Below w.heap.size w wr/\(txtN name.data.toList p k).length<=k*2000/\w.heap.size+1<wr.heap.size) (fun i _=>p.length-(intOf i).toNat)
 case atStart=>
  have h:=y2n w (.cells #[.bool false, .slice (some a) p.length cap] 29);exact ⟨0,Nat.zero_le _,rfl,h.1,h.2.1,Nat.zero_le _,h.2.2⟩
 case round=>
  obtain ⟨k,hk,rfl,hI,hb,hL,hz⟩:=hrel;by_cases bN:k<p.length
  ·have IH:=HC.out k bN;have nc:=HR.out k bN;obtain ⟨e,he⟩: ∃e,(p.getD k (0,0)).1=e:=⟨_,rfl⟩;obtain ⟨c,qd⟩: ∃c,(p.getD k (0,0)).2=c:=⟨_,rfl⟩;rw [he,qd] at nc IH;have HE:=Lib.hid he;have HV:=Lib.hid qd;clear he qd;have g0:wr.cell? (a.add (k*2))=some (.int .i64 e):=by rw [hb.cell (by rw [AO];exact ha)];exact IH.1
   have g1:wr.cell? ⟨(a.add (k*2)).block,(a.add (k*2)).off+1,none⟩=some (.int .i64 c):=by
    show wr.cell? ((a.add (k*2)).add 1)=_;rw [hb.cell (by rw [AO,AO];exact ha),QW];exact IH.2
   clear IH;have lQ:TS w (w.heap.size+1) wr.heap.size e c (txtN name.data.toList p k) (wr.alloc (.cells #[.int .i64 e, .int .i64 c] 75)):=⟨hI.alloc _,Dg wr _,by omega,hb.alloc (by omega) _⟩;have c0:=lQ.c0;have c1:=lQ.c1;have ie:=xv (n:=e) (by omega) (by omega);have ic:=xv (n:=c) (by omega) (by omega);have id:=xv (n:= -c) (by omega) (by omega);have i1:=xv (n:=1) (by omega) (by omega)
   by_cases pY:c<0
   ·have nU:True:=trivial;by_cases vz:e=0
    ·subst vz;by_cases cR:c= -1
     ·subst cR
      go_wp2_with (go_at_call 81;refine (lQ.byte 45 45 rfl (by first|omega|(simp only [List.length_append,List.length_cons,List.length_nil];omega))).mono ?_)
      intro r1 W1 hq
      first|(intro bD;subst hq)|(obtain ⟨hq,bD⟩:=hq;subst hq)
      have gu:=bD.c0;have gq:=bD.c1
      go_wp2_with (go_at_call 82;refine (bD.itoa hg 1 (by omega) (by omega)).mono ?_)
      intro r2 W2 hq
      first|(intro bS;subst hq)|(obtain ⟨hq,bS⟩:=hq;subst hq)
      have iT:=bS.c0;have iS:=bS.c1;clear gu gq
      go_wp2_with (go_at_call 74;refine (bS.str ⟨(Lib.itoa 1).toArray⟩ (by first|omega|(simp only [List.length_append,List.length_cons,List.length_nil];omega)) (nK (by omega) (by omega))).mono ?_)
      intro r3 W3 hq
      first|(intro cH;subst hq)|(obtain ⟨hq,cH⟩:=hq;subst hq)
      have mH:=cH.c0;have mE:=cH.c1;clear iT iS
      go_wp2
      go_roundw
      case rel=>exact nI bN HE.out HV.out cH hL jF nc (by simp [kg]) rfl
      case measure=>simp [intOf];omega
     ·have cR: ¬ -c=1:=by omega
      go_wp2_with (go_at_call 81;refine (lQ.byte 45 45 rfl (by first|omega|(simp only [List.length_append,List.length_cons,List.length_nil];omega))).mono ?_)
      intro r1 W1 hq
      first|(intro bD;subst hq)|(obtain ⟨hq,bD⟩:=hq;subst hq)
      have gu:=bD.c0;have gq:=bD.c1
      go_wp2_with (go_at_call 82;refine (bD.itoa hg (-c) (by omega) (by omega)).mono ?_)
      intro r2 W2 hq
      first|(intro bS;subst hq)|(obtain ⟨hq,bS⟩:=hq;subst hq)
      have iT:=bS.c0;have iS:=bS.c1;clear gu gq
      go_wp2_with (go_at_call 74;refine (bS.str ⟨(Lib.itoa (-c)).toArray⟩ (by first|omega|(simp only [List.length_append,List.length_cons,List.length_nil];omega)) (nK (by omega) (by omega))).mono ?_)
      intro r3 W3 hq
      first|(intro cH;subst hq)|(obtain ⟨hq,cH⟩:=hq;subst hq)
      have mH:=cH.c0;have mE:=cH.c1;clear iT iS
      go_wp2
      go_roundw
      case rel=>exact nI bN HE.out HV.out cH hL jF nc (by simp [kg,show c<0 by omega,show¬(-c=1) by omega]) rfl
      case measure=>simp [intOf];omega
    ·by_cases uc:e=1
     ·subst uc;by_cases cR:c= -1
      ·subst cR
       go_wp2_with (go_at_call 81;refine (lQ.byte 45 45 rfl (by first|omega|(simp only [List.length_append,List.length_cons,List.length_nil];omega))).mono ?_)
       intro r1 W1 hq
       first|(intro bD;subst hq)|(obtain ⟨hq,bD⟩:=hq;subst hq)
       have gu:=bD.c0;have gq:=bD.c1
       go_wp2_with (go_at_call 74;refine (bD.str name (by first|omega|(simp only [List.length_append,List.length_cons,List.length_nil];omega)) (by omega)).mono ?_)
       intro r2 W2 hq
       first|(intro bS;subst hq)|(obtain ⟨hq,bS⟩:=hq;subst hq)
       have iT:=bS.c0;have iS:=bS.c1;clear gu gq
       go_wp2
       go_roundw
       case rel=>exact nI bN HE.out HV.out bS hL jF nc (by simp [kg]) rfl
       case measure=>simp [intOf];omega
      ·have cR: ¬ -c=1:=by omega
       go_wp2_with (go_at_call 81;refine (lQ.byte 45 45 rfl (by first|omega|(simp only [List.length_append,List.length_cons,List.length_nil];omega))).mono ?_)
       intro r1 W1 hq
       first|(intro bD;subst hq)|(obtain ⟨hq,bD⟩:=hq;subst hq)
       have gu:=bD.c0;have gq:=bD.c1
       go_wp2_with (go_at_call 82;refine (bD.itoa hg (-c) (by omega) (by omega)).mono ?_)
       intro r2 W2 hq
       first|(intro bS;subst hq)|(obtain ⟨hq,bS⟩:=hq;subst hq)
       have iT:=bS.c0;have iS:=bS.c1;clear gu gq
       go_wp2_with (go_at_call 74;refine (bS.str ⟨(Lib.itoa (-c)).toArray⟩ (by first|omega|(simp only [List.length_append,List.length_cons,List.length_nil];omega)) (nK (by omega) (by omega))).mono ?_)
       intro r3 W3 hq
       first|(intro cH;subst hq)|(obtain ⟨hq,cH⟩:=hq;subst hq)
       have mH:=cH.c0;have mE:=cH.c1;clear iT iS
       go_wp2_with (go_at_call 74;refine (cH.str name (by first|omega|(simp only [List.length_append,List.length_cons,List.length_nil];omega)) (by omega)).mono ?_)
       intro r4 W4 hq
       first|(intro fj;subst hq)|(obtain ⟨hq,fj⟩:=hq;subst hq)
       have sW:=fj.c0;have sV:=fj.c1;clear mH mE
       go_wp2
       go_roundw
       case rel=>exact nI bN HE.out HV.out fj hL jF nc (by simp [kg,show c<0 by omega,show¬(-c=1) by omega]) rfl
       case measure=>simp [intOf];omega
     ·have Ye:(e==0)=false:=by simpa using vz
      have yM:(e==1)=false:=by simpa using uc
      by_cases cR:c= -1
      ·subst cR
       go_wp2_with (go_at_call 81;refine (lQ.byte 45 45 rfl (by first|omega|(simp only [List.length_append,List.length_cons,List.length_nil];omega))).mono ?_)
       intro r1 W1 hq
       first|(intro bD;subst hq)|(obtain ⟨hq,bD⟩:=hq;subst hq)
       have gu:=bD.c0;have gq:=bD.c1
       go_wp2_with (go_at_call 74;refine (bD.str name (by first|omega|(simp only [List.length_append,List.length_cons,List.length_nil];omega)) (by omega)).mono ?_)
       intro r2 W2 hq
       first|(intro bS;subst hq)|(obtain ⟨hq,bS⟩:=hq;subst hq)
       have iT:=bS.c0;have iS:=bS.c1;clear gu gq
       go_wp2_with (go_at_call 81;refine (bS.byte 94 94 rfl (by first|omega|(simp only [List.length_append,List.length_cons,List.length_nil];omega))).mono ?_)
       intro r3 W3 hq
       first|(intro cH;subst hq)|(obtain ⟨hq,cH⟩:=hq;subst hq)
       have mH:=cH.c0;have mE:=cH.c1;clear iT iS
       go_wp2_with (go_at_call 82;refine (cH.itoa hg e (by omega) (by omega)).mono ?_)
       intro r4 W4 hq
       first|(intro fj;subst hq)|(obtain ⟨hq,fj⟩:=hq;subst hq)
       have sW:=fj.c0;have sV:=fj.c1;clear mH mE
       go_wp2_with (go_at_call 74;refine (fj.str ⟨(Lib.itoa e).toArray⟩ (by first|omega|(simp only [List.length_append,List.length_cons,List.length_nil];omega)) (nK (by omega) (by omega))).mono ?_)
       intro r5 W5 hq
       first|(intro kb;subst hq)|(obtain ⟨hq,kb⟩:=hq;subst hq)
       have AJ:=kb.c0;have AH:=kb.c1;clear sW sV
       go_wp2
       go_roundw
       case rel=>exact nI bN HE.out HV.out kb hL jF nc (by simp [kg,show¬(e=0) by omega,show¬(e=1) by omega]) rfl
       case measure=>simp [intOf];omega
      ·have cR: ¬ -c=1:=by omega
       go_wp2_with (go_at_call 81;refine (lQ.byte 45 45 rfl (by first|omega|(simp only [List.length_append,List.length_cons,List.length_nil];omega))).mono ?_)
       intro r1 W1 hq
       first|(intro bD;subst hq)|(obtain ⟨hq,bD⟩:=hq;subst hq)
       have gu:=bD.c0;have gq:=bD.c1
       go_wp2_with (go_at_call 82;refine (bD.itoa hg (-c) (by omega) (by omega)).mono ?_)
       intro r2 W2 hq
       first|(intro bS;subst hq)|(obtain ⟨hq,bS⟩:=hq;subst hq)
       have iT:=bS.c0;have iS:=bS.c1;clear gu gq
       go_wp2_with (go_at_call 74;refine (bS.str ⟨(Lib.itoa (-c)).toArray⟩ (by first|omega|(simp only [List.length_append,List.length_cons,List.length_nil];omega)) (nK (by omega) (by omega))).mono ?_)
       intro r3 W3 hq
       first|(intro cH;subst hq)|(obtain ⟨hq,cH⟩:=hq;subst hq)
       have mH:=cH.c0;have mE:=cH.c1;clear iT iS
       go_wp2_with (go_at_call 74;refine (cH.str name (by first|omega|(simp only [List.length_append,List.length_cons,List.length_nil];omega)) (by omega)).mono ?_)
       intro r4 W4 hq
       first|(intro fj;subst hq)|(obtain ⟨hq,fj⟩:=hq;subst hq)
       have sW:=fj.c0;have sV:=fj.c1;clear mH mE
       go_wp2_with (go_at_call 81;refine (fj.byte 94 94 rfl (by first|omega|(simp only [List.length_append,List.length_cons,List.length_nil];omega))).mono ?_)
       intro r5 W5 hq
       first|(intro kb;subst hq)|(obtain ⟨hq,kb⟩:=hq;subst hq)
       have AJ:=kb.c0;have AH:=kb.c1;clear sW sV
       go_wp2_with (go_at_call 82;refine (kb.itoa hg e (by omega) (by omega)).mono ?_)
       intro r6 W6 hq
       first|(intro qT;subst hq)|(obtain ⟨hq,qT⟩:=hq;subst hq)
       have I1:=qT.c0;have I0:=qT.c1;clear AJ AH
       go_wp2_with (go_at_call 74;refine (qT.str ⟨(Lib.itoa e).toArray⟩ (by first|omega|(simp only [List.length_append,List.length_cons,List.length_nil];omega)) (nK (by omega) (by omega))).mono ?_)
       intro r7 W7 hq
       first|(intro wX;subst hq)|(obtain ⟨hq,wX⟩:=hq;subst hq)
       have c07:=wX.c0;have c17:=wX.c1;clear I1 I0
       go_wp2
       go_roundw
       case rel=>exact nI bN HE.out HV.out wX hL jF nc (by simp [kg,show c<0 by omega,show¬(-c=1) by omega,show¬(e=0) by omega,show¬(e=1) by omega]) rfl
       case measure=>simp [intOf];omega
   ·by_cases nU:0<k
    ·have bk0:decide ((0:Int)<(k:Int))=true:=by simp;omega
     by_cases vz:e=0
     ·subst vz;by_cases cR:c=1
      ·subst cR
       go_wp2_with (go_at_call 81;refine (lQ.byte 43 43 rfl (by first|omega|(simp only [List.length_append,List.length_cons,List.length_nil];omega))).mono ?_)
       intro r1 W1 hq
       first|(intro bD;subst hq)|(obtain ⟨hq,bD⟩:=hq;subst hq)
       have gu:=bD.c0;have gq:=bD.c1
       go_wp2_with (go_at_call 82;refine (bD.itoa hg 1 (by omega) (by omega)).mono ?_)
       intro r2 W2 hq
       first|(intro bS;subst hq)|(obtain ⟨hq,bS⟩:=hq;subst hq)
       have iT:=bS.c0;have iS:=bS.c1;clear gu gq
       go_wp2_with (go_at_call 74;refine (bS.str ⟨(Lib.itoa 1).toArray⟩ (by first|omega|(simp only [List.length_append,List.length_cons,List.length_nil];omega)) (nK (by omega) (by omega))).mono ?_)
       intro r3 W3 hq
       first|(intro cH;subst hq)|(obtain ⟨hq,cH⟩:=hq;subst hq)
       have mH:=cH.c0;have mE:=cH.c1;clear iT iS
       go_wp2
       go_roundw
       case rel=>exact nI bN HE.out HV.out cH hL jF nc (by simp [kg,show 0<k by omega]) rfl
       case measure=>simp [intOf];omega
      ·have uC:(c==1)=false:=by simpa using cR
       go_wp2_with (go_at_call 81;refine (lQ.byte 43 43 rfl (by first|omega|(simp only [List.length_append,List.length_cons,List.length_nil];omega))).mono ?_)
       intro r1 W1 hq
       first|(intro bD;subst hq)|(obtain ⟨hq,bD⟩:=hq;subst hq)
       have gu:=bD.c0;have gq:=bD.c1
       go_wp2_with (go_at_call 82;refine (bD.itoa hg c (by omega) (by omega)).mono ?_)
       intro r2 W2 hq
       first|(intro bS;subst hq)|(obtain ⟨hq,bS⟩:=hq;subst hq)
       have iT:=bS.c0;have iS:=bS.c1;clear gu gq
       go_wp2_with (go_at_call 74;refine (bS.str ⟨(Lib.itoa c).toArray⟩ (by first|omega|(simp only [List.length_append,List.length_cons,List.length_nil];omega)) (nK (by omega) (by omega))).mono ?_)
       intro r3 W3 hq
       first|(intro cH;subst hq)|(obtain ⟨hq,cH⟩:=hq;subst hq)
       have mH:=cH.c0;have mE:=cH.c1;clear iT iS
       go_wp2
       go_roundw
       case rel=>exact nI bN HE.out HV.out cH hL jF nc (by simp [kg,show¬(c<0) by omega,show¬(c=1) by omega,show 0<k by omega]) rfl
       case measure=>simp [intOf];omega
     ·by_cases uc:e=1
      ·subst uc;by_cases cR:c=1
       ·subst cR
        go_wp2_with (go_at_call 81;refine (lQ.byte 43 43 rfl (by first|omega|(simp only [List.length_append,List.length_cons,List.length_nil];omega))).mono ?_)
        intro r1 W1 hq
        first|(intro bD;subst hq)|(obtain ⟨hq,bD⟩:=hq;subst hq)
        have gu:=bD.c0;have gq:=bD.c1
        go_wp2_with (go_at_call 74;refine (bD.str name (by first|omega|(simp only [List.length_append,List.length_cons,List.length_nil];omega)) (by omega)).mono ?_)
        intro r2 W2 hq
        first|(intro bS;subst hq)|(obtain ⟨hq,bS⟩:=hq;subst hq)
        have iT:=bS.c0;have iS:=bS.c1;clear gu gq
        go_wp2
        go_roundw
        case rel=>exact nI bN HE.out HV.out bS hL jF nc (by simp [kg,show 0<k by omega]) rfl
        case measure=>simp [intOf];omega
       ·have uC:(c==1)=false:=by simpa using cR
        go_wp2_with (go_at_call 81;refine (lQ.byte 43 43 rfl (by first|omega|(simp only [List.length_append,List.length_cons,List.length_nil];omega))).mono ?_)
        intro r1 W1 hq
        first|(intro bD;subst hq)|(obtain ⟨hq,bD⟩:=hq;subst hq)
        have gu:=bD.c0;have gq:=bD.c1
        go_wp2_with (go_at_call 82;refine (bD.itoa hg c (by omega) (by omega)).mono ?_)
        intro r2 W2 hq
        first|(intro bS;subst hq)|(obtain ⟨hq,bS⟩:=hq;subst hq)
        have iT:=bS.c0;have iS:=bS.c1;clear gu gq
        go_wp2_with (go_at_call 74;refine (bS.str ⟨(Lib.itoa c).toArray⟩ (by first|omega|(simp only [List.length_append,List.length_cons,List.length_nil];omega)) (nK (by omega) (by omega))).mono ?_)
        intro r3 W3 hq
        first|(intro cH;subst hq)|(obtain ⟨hq,cH⟩:=hq;subst hq)
        have mH:=cH.c0;have mE:=cH.c1;clear iT iS
        go_wp2_with (go_at_call 74;refine (cH.str name (by first|omega|(simp only [List.length_append,List.length_cons,List.length_nil];omega)) (by omega)).mono ?_)
        intro r4 W4 hq
        first|(intro fj;subst hq)|(obtain ⟨hq,fj⟩:=hq;subst hq)
        have sW:=fj.c0;have sV:=fj.c1;clear mH mE
        go_wp2
        go_roundw
        case rel=>exact nI bN HE.out HV.out fj hL jF nc (by simp [kg,show¬(c<0) by omega,show¬(c=1) by omega,show 0<k by omega]) rfl
        case measure=>simp [intOf];omega
      ·have Ye:(e==0)=false:=by simpa using vz
       have yM:(e==1)=false:=by simpa using uc
       by_cases cR:c=1
       ·subst cR
        go_wp2_with (go_at_call 81;refine (lQ.byte 43 43 rfl (by first|omega|(simp only [List.length_append,List.length_cons,List.length_nil];omega))).mono ?_)
        intro r1 W1 hq
        first|(intro bD;subst hq)|(obtain ⟨hq,bD⟩:=hq;subst hq)
        have gu:=bD.c0;have gq:=bD.c1
        go_wp2_with (go_at_call 74;refine (bD.str name (by first|omega|(simp only [List.length_append,List.length_cons,List.length_nil];omega)) (by omega)).mono ?_)
        intro r2 W2 hq
        first|(intro bS;subst hq)|(obtain ⟨hq,bS⟩:=hq;subst hq)
        have iT:=bS.c0;have iS:=bS.c1;clear gu gq
        go_wp2_with (go_at_call 81;refine (bS.byte 94 94 rfl (by first|omega|(simp only [List.length_append,List.length_cons,List.length_nil];omega))).mono ?_)
        intro r3 W3 hq
        first|(intro cH;subst hq)|(obtain ⟨hq,cH⟩:=hq;subst hq)
        have mH:=cH.c0;have mE:=cH.c1;clear iT iS
        go_wp2_with (go_at_call 82;refine (cH.itoa hg e (by omega) (by omega)).mono ?_)
        intro r4 W4 hq
        first|(intro fj;subst hq)|(obtain ⟨hq,fj⟩:=hq;subst hq)
        have sW:=fj.c0;have sV:=fj.c1;clear mH mE
        go_wp2_with (go_at_call 74;refine (fj.str ⟨(Lib.itoa e).toArray⟩ (by first|omega|(simp only [List.length_append,List.length_cons,List.length_nil];omega)) (nK (by omega) (by omega))).mono ?_)
        intro r5 W5 hq
        first|(intro kb;subst hq)|(obtain ⟨hq,kb⟩:=hq;subst hq)
        have AJ:=kb.c0;have AH:=kb.c1;clear sW sV
        go_wp2
        go_roundw
        case rel=>exact nI bN HE.out HV.out kb hL jF nc (by simp [kg,show 0<k by omega,show¬(e=0) by omega,show¬(e=1) by omega]) rfl
        case measure=>simp [intOf];omega
       ·have uC:(c==1)=false:=by simpa using cR
        go_wp2_with (go_at_call 81;refine (lQ.byte 43 43 rfl (by first|omega|(simp only [List.length_append,List.length_cons,List.length_nil];omega))).mono ?_)
        intro r1 W1 hq
        first|(intro bD;subst hq)|(obtain ⟨hq,bD⟩:=hq;subst hq)
        have gu:=bD.c0;have gq:=bD.c1
        go_wp2_with (go_at_call 82;refine (bD.itoa hg c (by omega) (by omega)).mono ?_)
        intro r2 W2 hq
        first|(intro bS;subst hq)|(obtain ⟨hq,bS⟩:=hq;subst hq)
        have iT:=bS.c0;have iS:=bS.c1;clear gu gq
        go_wp2_with (go_at_call 74;refine (bS.str ⟨(Lib.itoa c).toArray⟩ (by first|omega|(simp only [List.length_append,List.length_cons,List.length_nil];omega)) (nK (by omega) (by omega))).mono ?_)
        intro r3 W3 hq
        first|(intro cH;subst hq)|(obtain ⟨hq,cH⟩:=hq;subst hq)
        have mH:=cH.c0;have mE:=cH.c1;clear iT iS
        go_wp2_with (go_at_call 74;refine (cH.str name (by first|omega|(simp only [List.length_append,List.length_cons,List.length_nil];omega)) (by omega)).mono ?_)
        intro r4 W4 hq
        first|(intro fj;subst hq)|(obtain ⟨hq,fj⟩:=hq;subst hq)
        have sW:=fj.c0;have sV:=fj.c1;clear mH mE
        go_wp2_with (go_at_call 81;refine (fj.byte 94 94 rfl (by first|omega|(simp only [List.length_append,List.length_cons,List.length_nil];omega))).mono ?_)
        intro r5 W5 hq
        first|(intro kb;subst hq)|(obtain ⟨hq,kb⟩:=hq;subst hq)
        have AJ:=kb.c0;have AH:=kb.c1;clear sW sV
        go_wp2_with (go_at_call 82;refine (kb.itoa hg e (by omega) (by omega)).mono ?_)
        intro r6 W6 hq
        first|(intro qT;subst hq)|(obtain ⟨hq,qT⟩:=hq;subst hq)
        have I1:=qT.c0;have I0:=qT.c1;clear AJ AH
        go_wp2_with (go_at_call 74;refine (qT.str ⟨(Lib.itoa e).toArray⟩ (by first|omega|(simp only [List.length_append,List.length_cons,List.length_nil];omega)) (nK (by omega) (by omega))).mono ?_)
        intro r7 W7 hq
        first|(intro wX;subst hq)|(obtain ⟨hq,wX⟩:=hq;subst hq)
        have c07:=wX.c0;have c17:=wX.c1;clear I1 I0
        go_wp2
        go_roundw
        case rel=>exact nI bN HE.out HV.out wX hL jF nc (by simp [kg,show¬(c<0) by omega,show¬(c=1) by omega,show 0<k by omega,show¬(e=0) by omega,show¬(e=1) by omega]) rfl
        case measure=>simp [intOf];omega
    ·have bk0:decide ((0:Int)<(k:Int))=false:=by simp;omega
     by_cases vz:e=0
     ·subst vz;by_cases cR:c=1
      ·subst cR
       go_wp2_with (go_at_call 82;refine (lQ.itoa hg 1 (by omega) (by omega)).mono ?_)
       intro r1 W1 hq
       first|(intro bD;subst hq)|(obtain ⟨hq,bD⟩:=hq;subst hq)
       have gu:=bD.c0;have gq:=bD.c1
       go_wp2_with (go_at_call 74;refine (bD.str ⟨(Lib.itoa 1).toArray⟩ (by first|omega|(simp only [List.length_append,List.length_cons,List.length_nil];omega)) (nK (by omega) (by omega))).mono ?_)
       intro r2 W2 hq
       first|(intro bS;subst hq)|(obtain ⟨hq,bS⟩:=hq;subst hq)
       have iT:=bS.c0;have iS:=bS.c1;clear gu gq
       go_wp2
       go_roundw
       case rel=>exact nI bN HE.out HV.out bS hL jF nc (by simp [kg,show¬(0<k) by omega]) rfl
       case measure=>simp [intOf];omega
      ·have uC:(c==1)=false:=by simpa using cR
       go_wp2_with (go_at_call 82;refine (lQ.itoa hg c (by omega) (by omega)).mono ?_)
       intro r1 W1 hq
       first|(intro bD;subst hq)|(obtain ⟨hq,bD⟩:=hq;subst hq)
       have gu:=bD.c0;have gq:=bD.c1
       go_wp2_with (go_at_call 74;refine (bD.str ⟨(Lib.itoa c).toArray⟩ (by first|omega|(simp only [List.length_append,List.length_cons,List.length_nil];omega)) (nK (by omega) (by omega))).mono ?_)
       intro r2 W2 hq
       first|(intro bS;subst hq)|(obtain ⟨hq,bS⟩:=hq;subst hq)
       have iT:=bS.c0;have iS:=bS.c1;clear gu gq
       go_wp2
       go_roundw
       case rel=>exact nI bN HE.out HV.out bS hL jF nc (by simp [kg,show¬(c<0) by omega,show¬(c=1) by omega,show¬(0<k) by omega]) rfl
       case measure=>simp [intOf];omega
     ·by_cases uc:e=1
      ·subst uc;by_cases cR:c=1
       ·subst cR
        go_wp2_with (go_at_call 74;refine (lQ.str name (by first|omega|(simp only [List.length_append,List.length_cons,List.length_nil];omega)) (by omega)).mono ?_)
        intro r1 W1 hq
        first|(intro bD;subst hq)|(obtain ⟨hq,bD⟩:=hq;subst hq)
        have gu:=bD.c0;have gq:=bD.c1
        go_wp2
        go_roundw
        case rel=>exact nI bN HE.out HV.out bD hL jF nc (by simp [kg,show¬(0<k) by omega]) rfl
        case measure=>simp [intOf];omega
       ·have uC:(c==1)=false:=by simpa using cR
        go_wp2_with (go_at_call 82;refine (lQ.itoa hg c (by omega) (by omega)).mono ?_)
        intro r1 W1 hq
        first|(intro bD;subst hq)|(obtain ⟨hq,bD⟩:=hq;subst hq)
        have gu:=bD.c0;have gq:=bD.c1
        go_wp2_with (go_at_call 74;refine (bD.str ⟨(Lib.itoa c).toArray⟩ (by first|omega|(simp only [List.length_append,List.length_cons,List.length_nil];omega)) (nK (by omega) (by omega))).mono ?_)
        intro r2 W2 hq
        first|(intro bS;subst hq)|(obtain ⟨hq,bS⟩:=hq;subst hq)
        have iT:=bS.c0;have iS:=bS.c1;clear gu gq
        go_wp2_with (go_at_call 74;refine (bS.str name (by first|omega|(simp only [List.length_append,List.length_cons,List.length_nil];omega)) (by omega)).mono ?_)
        intro r3 W3 hq
        first|(intro cH;subst hq)|(obtain ⟨hq,cH⟩:=hq;subst hq)
        have mH:=cH.c0;have mE:=cH.c1;clear iT iS
        go_wp2
        go_roundw
        case rel=>exact nI bN HE.out HV.out cH hL jF nc (by simp [kg,show¬(c<0) by omega,show¬(c=1) by omega,show¬(0<k) by omega]) rfl
        case measure=>simp [intOf];omega
      ·have Ye:(e==0)=false:=by simpa using vz
       have yM:(e==1)=false:=by simpa using uc
       by_cases cR:c=1
       ·subst cR
        go_wp2_with (go_at_call 74;refine (lQ.str name (by first|omega|(simp only [List.length_append,List.length_cons,List.length_nil];omega)) (by omega)).mono ?_)
        intro r1 W1 hq
        first|(intro bD;subst hq)|(obtain ⟨hq,bD⟩:=hq;subst hq)
        have gu:=bD.c0;have gq:=bD.c1
        go_wp2_with (go_at_call 81;refine (bD.byte 94 94 rfl (by first|omega|(simp only [List.length_append,List.length_cons,List.length_nil];omega))).mono ?_)
        intro r2 W2 hq
        first|(intro bS;subst hq)|(obtain ⟨hq,bS⟩:=hq;subst hq)
        have iT:=bS.c0;have iS:=bS.c1;clear gu gq
        go_wp2_with (go_at_call 82;refine (bS.itoa hg e (by omega) (by omega)).mono ?_)
        intro r3 W3 hq
        first|(intro cH;subst hq)|(obtain ⟨hq,cH⟩:=hq;subst hq)
        have mH:=cH.c0;have mE:=cH.c1;clear iT iS
        go_wp2_with (go_at_call 74;refine (cH.str ⟨(Lib.itoa e).toArray⟩ (by first|omega|(simp only [List.length_append,List.length_cons,List.length_nil];omega)) (nK (by omega) (by omega))).mono ?_)
        intro r4 W4 hq
        first|(intro fj;subst hq)|(obtain ⟨hq,fj⟩:=hq;subst hq)
        have sW:=fj.c0;have sV:=fj.c1;clear mH mE
        go_wp2
        go_roundw
        case rel=>exact nI bN HE.out HV.out fj hL jF nc (by simp [kg,show¬(0<k) by omega,show¬(e=0) by omega,show¬(e=1) by omega]) rfl
        case measure=>simp [intOf];omega
       ·have uC:(c==1)=false:=by simpa using cR
        go_wp2_with (go_at_call 82;refine (lQ.itoa hg c (by omega) (by omega)).mono ?_)
        intro r1 W1 hq
        first|(intro bD;subst hq)|(obtain ⟨hq,bD⟩:=hq;subst hq)
        have gu:=bD.c0;have gq:=bD.c1
        go_wp2_with (go_at_call 74;refine (bD.str ⟨(Lib.itoa c).toArray⟩ (by first|omega|(simp only [List.length_append,List.length_cons,List.length_nil];omega)) (nK (by omega) (by omega))).mono ?_)
        intro r2 W2 hq
        first|(intro bS;subst hq)|(obtain ⟨hq,bS⟩:=hq;subst hq)
        have iT:=bS.c0;have iS:=bS.c1;clear gu gq
        go_wp2_with (go_at_call 74;refine (bS.str name (by first|omega|(simp only [List.length_append,List.length_cons,List.length_nil];omega)) (by omega)).mono ?_)
        intro r3 W3 hq
        first|(intro cH;subst hq)|(obtain ⟨hq,cH⟩:=hq;subst hq)
        have mH:=cH.c0;have mE:=cH.c1;clear iT iS
        go_wp2_with (go_at_call 81;refine (cH.byte 94 94 rfl (by first|omega|(simp only [List.length_append,List.length_cons,List.length_nil];omega))).mono ?_)
        intro r4 W4 hq
        first|(intro fj;subst hq)|(obtain ⟨hq,fj⟩:=hq;subst hq)
        have sW:=fj.c0;have sV:=fj.c1;clear mH mE
        go_wp2_with (go_at_call 82;refine (fj.itoa hg e (by omega) (by omega)).mono ?_)
        intro r5 W5 hq
        first|(intro kb;subst hq)|(obtain ⟨hq,kb⟩:=hq;subst hq)
        have AJ:=kb.c0;have AH:=kb.c1;clear sW sV
        go_wp2_with (go_at_call 74;refine (kb.str ⟨(Lib.itoa e).toArray⟩ (by first|omega|(simp only [List.length_append,List.length_cons,List.length_nil];omega)) (nK (by omega) (by omega))).mono ?_)
        intro r6 W6 hq
        first|(intro qT;subst hq)|(obtain ⟨hq,qT⟩:=hq;subst hq)
        have I1:=qT.c0;have I0:=qT.c1;clear AJ AH
        go_wp2
        go_roundw
        case rel=>exact nI bN HE.out HV.out qT hL jF nc (by simp [kg,show¬(c<0) by omega,show¬(c=1) by omega,show¬(0<k) by omega,show¬(e=0) by omega,show¬(e=1) by omega]) rfl
        case measure=>simp [intOf];omega
  ·obtain rfl:k=p.length:=by omega
   go_wp2_with (go_at_call 77;refine (TS.string hI hb).mono ?_)
   rintro r W1 ⟨rfl,h1⟩
   go_wp2
   go_ret
   exact ⟨rfl,h1⟩
end Go.Proofs.YtphjphpmfflfpaaGreatDoor
