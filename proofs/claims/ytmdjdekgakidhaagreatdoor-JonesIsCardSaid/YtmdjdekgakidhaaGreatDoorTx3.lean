/- Layer 12: the text of a polynomial: the walk. -/
import Derived.Test.YtmdjdekgakidhaaGreatDoorTx2
import Derived.Lib.Hide
set_option linter.unusedSimpArgs false
set_option linter.unusedVariables false
namespace Go.Proofs.YtmdjdekgakidhaaGreatDoor
open Go Go.RowKit Go.Shelf
set_option maxHeartbeats 8000000
set_option maxRecDepth 100000
theorem MK (a:Addr) (i j:Nat):(a.add i).add j=a.add (i+j):=by
 unfold Addr.add;by_cases hi:i=0<;>by_cases hj:j=0<;>simp [hi,hj,Nat.add_assoc]
theorem xG (a:Addr) (i:Nat):(a.add i).block=a.block:=by unfold Addr.add;split<;>rfl
theorem Ak (w:World) (o:Obj):(w.alloc o).heap[w.heap.size]?=some o:=by
 show (w.heap.push o)[w.heap.size]?=some o;simp
theorem HS {nm:List UInt8} {k:Nat} {e c:Int} (hn:nm.length<=1000) (hr: -4611686018427387904<=e/\e<=4611686018427387904/\ -4611686018427387904<=c/\c<=4611686018427387904):(iM nm k e c).length<=2000:=by
 have h1:=vj (n:=e) (by omega) (by omega);have h2:=vj (n:=c) (by omega) (by omega);have h3:=vj (n:=0-c) (by omega) (by omega);have l1:(if c<0 then [45] else if 0<k then [43] else ([]:List UInt8)).length<=1:=by
  split
  ·simp
  ·split<;>simp
 have l2:(if (if c<0 then 0-c else c)=1/\e≠0 then ([]:List UInt8) else Lib.itoa (if c<0 then 0-c else c)).length<=21:=by
  by_cases oI:c<0
  ·rw [if_pos oI]
   split
   ·simp
   ·exact h3
  ·rw [if_neg oI]
   split
   ·simp
   ·exact h2
 have l3:(if e=0 then ([]:List UInt8) else nm).length<=1000:=by
  split
  ·simp
  ·exact hn
 have l4:(if e=0\/e=1 then ([]:List UInt8) else 94::Lib.itoa e).length<=22:=by
  split
  ·simp
  ·simp;omega
 unfold iM;rw [zzF,zzF,zzF];omega
theorem lJ {n:Int} (h0: -9223372036854775808<=n) (h1:n<=9223372036854775807):(⟨(Lib.itoa n).toArray⟩:ByteArray).size<=100000:=by
 have:=vj h0 h1
 show (Lib.itoa n).toArray.size<=100000;simp;omega
theorem lL {p:List (Int×Int)} {nm:List UInt8} {w W:World} {k K:Nat} {e c:Int} {acc:List UInt8} {v:Value} (bM:k<p.length) (he:(p.getD k (0,0)).1=e) (hc:(p.getD k (0,0)).2=c)
  (hT:TS w (w.heap.size+1) K e c acc W) (hL:(txtN nm p k).length<=k*2000) (hn:nm.length<=1000)
  (hr: -4611686018427387904<=e/\e<=4611686018427387904/\ -4611686018427387904<=c/\c<=4611686018427387904) (nh:acc=txtN nm p k++iM nm k e c) (hv:v= .int .i64 ((k:Int)+1)):
  ∃k:Nat,k<=p.length/\v= .int .i64 k/\Lib.IsBuilderF 85 5 w.heap.size (w.heap.size+1) (Lib.byteCells (txtN nm p k)) W/\Below w.heap.size w W/\(txtN nm p k).length<=k*2000/\w.heap.size+1<W.heap.size:=by
 have e1:txtN nm p (k+1)=acc:=by rw [nh];show txtN nm p k++iM nm k (p.getD k (0,0)).1 (p.getD k (0,0)).2=_;rw [he,hc]
 have ax:w.heap.size+1<W.heap.size:=by
  rcases hT.bld with h|h
  ·exact h.lt
  ·exact h.lt
 refine ⟨k+1,by omega,?_,by rw [e1];exact hT.bld,hT.bel,?_,ax⟩
 ·rw [hv];simp
 ·rw [e1,nh,zzF]
  have:=HS (nm:=nm) (k:=k) hn hr
  omega
theorem TZ (w:World) (o:Obj):Lib.IsBuilderF 85 5 w.heap.size (w.heap.size+1) (Lib.byteCells []) ((w.alloc o).alloc (.cells #[.pointer none, .slice none 0 0] 85))/\
  Below w.heap.size w ((w.alloc o).alloc (.cells #[.pointer none, .slice none 0 0] 85))/\w.heap.size+1<((w.alloc o).alloc (.cells #[.pointer none, .slice none 0 0] 85)).heap.size:=by
 have e1:(w.alloc o).heap.size=w.heap.size+1:=by show (w.heap.push o).size=_;simp
 have e2:=Ak (w.alloc o) (.cells #[.pointer none, .slice none 0 0] 85);rw [e1] at e2;refine ⟨.inl ⟨by omega, .slice none 0 0,e2,⟨rfl, .inl ⟨rfl,rfl⟩⟩,by simp [Value.ownBlock]⟩,((Below.refl _ w).alloc (zzA _) _).alloc (by omega) _,?_⟩;exact (Array.getElem?_eq_some_iff.1 e2).1
theorem WZ (p:List (Int×Int)) (name:ByteArray) (a:Addr) (cap:Nat) (w:World) (jt:0<p.length) (hg:Good w) (ha:a.block<w.heap.size)
  (hc: ∀k,k<p.length->w.cell? (a.add (k*2))=some (.int .i64 (p.getD k (0,0)).1)/\w.cell? (a.add (k*2+1))=some (.int .i64 (p.getD k (0,0)).2))
  (hr: ∀k,k<p.length-> -4611686018427387904<=(p.getD k (0,0)).1/\(p.getD k (0,0)).1<=4611686018427387904/\ -4611686018427387904<=(p.getD k (0,0)).2/\(p.getD k (0,0)).2<=4611686018427387904)
  (hn:name.size<=1000) (iI:p.length<=1000000):
  Calls Tryz.prog 22 #[.agg #[.bool false, .slice (some a) p.length cap], .string name] w fun e w'=>e= .returned (.string ⟨(txtN name.data.toList p p.length).toArray⟩)/\Below w.heap.size w w':=by
 have y4:((p.length:Int)==0)=false:=by simp;intro h;rw [h] at jt;simp at jt
 have iJ:name.data.toList.length<=1000:=hn;have HC:=Lib.hid hc;have HR:=Lib.hid hr;clear hc hr
 go_enter Tryz.func22,Tryz.ntmps22
 go_wp2
 go_loopw [20] (fun i wr=> ∃k:Nat,k<=p.length/\i= .int .i64 k/\Lib.IsBuilderF 85 5 w.heap.size (w.heap.size+1) (Lib.byteCells (txtN name.data.toList p k)) wr/\Below w.heap.size w wr/\(txtN name.data.toList p k).length<=k*2000/\w.heap.size+1<wr.heap.size) (fun i _=>p.length-(intOf i).toNat)
 case atStart=>
  have h:=TZ w (.cells #[.bool false, .slice (some a) p.length cap] 29);exact ⟨0,Nat.zero_le _,rfl,h.1,h.2.1,Nat.zero_le _,h.2.2⟩
 case round=>
  obtain ⟨k,hk,rfl,hI,hb,hL,hz⟩:=hrel;by_cases bM:k<p.length
  ·have Fl:=HC.out k bM;have k7:=HR.out k bM;obtain ⟨e,he⟩: ∃e,(p.getD k (0,0)).1=e:=⟨_,rfl⟩;obtain ⟨c,nH⟩: ∃c,(p.getD k (0,0)).2=c:=⟨_,rfl⟩;rw [he,nH] at k7 Fl;have HE:=Lib.hid he;have HV:=Lib.hid nH;clear he nH;have g0:wr.cell? (a.add (k*2))=some (.int .i64 e):=by rw [hb.cell (by rw [xG];exact ha)];exact Fl.1
   have g1:wr.cell? ⟨(a.add (k*2)).block,(a.add (k*2)).off+1,none⟩=some (.int .i64 c):=by
    show wr.cell? ((a.add (k*2)).add 1)=_;rw [hb.cell (by rw [xG,xG];exact ha),MK];exact Fl.2
   clear Fl;have ke:TS w (w.heap.size+1) wr.heap.size e c (txtN name.data.toList p k) (wr.alloc (.cells #[.int .i64 e, .int .i64 c] 62)):=⟨hI.alloc _,Ak wr _,by omega,hb.alloc (by omega) _⟩;have c0:=ke.c0;have c1:=ke.c1;have ie:=vj (n:=e) (by omega) (by omega);have ic:=vj (n:=c) (by omega) (by omega);have id:=vj (n:= -c) (by omega) (by omega);have i1:=vj (n:=1) (by omega) (by omega)
   by_cases im:c<0
   ·have ld:True:=trivial;by_cases qz:e=0
    ·subst qz;by_cases b8:c= -1
     ·subst b8
      go_wp2_with (go_at_call 63;refine (ke.byte 45 45 rfl (by first|omega|(simp only [zzF,zzG,List.length_nil];omega))).mono ?_)
      intro r1 W1 hq
      first|(intro aU;subst hq)|(obtain ⟨hq,aU⟩:=hq;subst hq)
      have fB:=aU.c0;have fA:=aU.c1
      go_wp2_with (go_at_call 64;refine (aU.itoa hg 1 (by omega) (by omega)).mono ?_)
      intro r2 W2 hq
      first|(intro br;subst hq)|(obtain ⟨hq,br⟩:=hq;subst hq)
      have gJ:=br.c0;have gI:=br.c1;clear fB fA
      go_wp2_with (go_at_call 56;refine (br.str ⟨(Lib.itoa 1).toArray⟩ (by first|omega|(simp only [zzF,zzG,List.length_nil];omega)) (lJ (by omega) (by omega))).mono ?_)
      intro r3 W3 hq
      first|(intro bX;subst hq)|(obtain ⟨hq,bX⟩:=hq;subst hq)
      have kD:=bX.c0;have kB:=bX.c1;clear gJ gI
      go_wp2
      go_roundw
      case rel=>exact lL bM HE.out HV.out bX hL iJ k7 (by simp [iM]) rfl
      case measure=>simp [intOf];omega
     ·have b8: ¬ -c=1:=by omega
      go_wp2_with (go_at_call 63;refine (ke.byte 45 45 rfl (by first|omega|(simp only [zzF,zzG,List.length_nil];omega))).mono ?_)
      intro r1 W1 hq
      first|(intro aU;subst hq)|(obtain ⟨hq,aU⟩:=hq;subst hq)
      have fB:=aU.c0;have fA:=aU.c1
      go_wp2_with (go_at_call 64;refine (aU.itoa hg (-c) (by omega) (by omega)).mono ?_)
      intro r2 W2 hq
      first|(intro br;subst hq)|(obtain ⟨hq,br⟩:=hq;subst hq)
      have gJ:=br.c0;have gI:=br.c1;clear fB fA
      go_wp2_with (go_at_call 56;refine (br.str ⟨(Lib.itoa (-c)).toArray⟩ (by first|omega|(simp only [zzF,zzG,List.length_nil];omega)) (lJ (by omega) (by omega))).mono ?_)
      intro r3 W3 hq
      first|(intro bX;subst hq)|(obtain ⟨hq,bX⟩:=hq;subst hq)
      have kD:=bX.c0;have kB:=bX.c1;clear gJ gI
      go_wp2
      go_roundw
      case rel=>exact lL bM HE.out HV.out bX hL iJ k7 (by simp [iM,show c<0 by omega,show¬(-c=1) by omega]) rfl
      case measure=>simp [intOf];omega
    ·by_cases rQ:e=1
     ·subst rQ;by_cases b8:c= -1
      ·subst b8
       go_wp2_with (go_at_call 63;refine (ke.byte 45 45 rfl (by first|omega|(simp only [zzF,zzG,List.length_nil];omega))).mono ?_)
       intro r1 W1 hq
       first|(intro aU;subst hq)|(obtain ⟨hq,aU⟩:=hq;subst hq)
       have fB:=aU.c0;have fA:=aU.c1
       go_wp2_with (go_at_call 56;refine (aU.str name (by first|omega|(simp only [zzF,zzG,List.length_nil];omega)) (by omega)).mono ?_)
       intro r2 W2 hq
       first|(intro br;subst hq)|(obtain ⟨hq,br⟩:=hq;subst hq)
       have gJ:=br.c0;have gI:=br.c1;clear fB fA
       go_wp2
       go_roundw
       case rel=>exact lL bM HE.out HV.out br hL iJ k7 (by simp [iM]) rfl
       case measure=>simp [intOf];omega
      ·have b8: ¬ -c=1:=by omega
       go_wp2_with (go_at_call 63;refine (ke.byte 45 45 rfl (by first|omega|(simp only [zzF,zzG,List.length_nil];omega))).mono ?_)
       intro r1 W1 hq
       first|(intro aU;subst hq)|(obtain ⟨hq,aU⟩:=hq;subst hq)
       have fB:=aU.c0;have fA:=aU.c1
       go_wp2_with (go_at_call 64;refine (aU.itoa hg (-c) (by omega) (by omega)).mono ?_)
       intro r2 W2 hq
       first|(intro br;subst hq)|(obtain ⟨hq,br⟩:=hq;subst hq)
       have gJ:=br.c0;have gI:=br.c1;clear fB fA
       go_wp2_with (go_at_call 56;refine (br.str ⟨(Lib.itoa (-c)).toArray⟩ (by first|omega|(simp only [zzF,zzG,List.length_nil];omega)) (lJ (by omega) (by omega))).mono ?_)
       intro r3 W3 hq
       first|(intro bX;subst hq)|(obtain ⟨hq,bX⟩:=hq;subst hq)
       have kD:=bX.c0;have kB:=bX.c1;clear gJ gI
       go_wp2_with (go_at_call 56;refine (bX.str name (by first|omega|(simp only [zzF,zzG,List.length_nil];omega)) (by omega)).mono ?_)
       intro r4 W4 hq
       first|(intro eg;subst hq)|(obtain ⟨hq,eg⟩:=hq;subst hq)
       have qE:=eg.c0;have qD:=eg.c1;clear kD kB
       go_wp2
       go_roundw
       case rel=>exact lL bM HE.out HV.out eg hL iJ k7 (by simp [iM,show c<0 by omega,show¬(-c=1) by omega]) rfl
       case measure=>simp [intOf];omega
     ·have TT:(e==0)=false:=by simpa using qz
      have vX:(e==1)=false:=by simpa using rQ
      by_cases b8:c= -1
      ·subst b8
       go_wp2_with (go_at_call 63;refine (ke.byte 45 45 rfl (by first|omega|(simp only [zzF,zzG,List.length_nil];omega))).mono ?_)
       intro r1 W1 hq
       first|(intro aU;subst hq)|(obtain ⟨hq,aU⟩:=hq;subst hq)
       have fB:=aU.c0;have fA:=aU.c1
       go_wp2_with (go_at_call 56;refine (aU.str name (by first|omega|(simp only [zzF,zzG,List.length_nil];omega)) (by omega)).mono ?_)
       intro r2 W2 hq
       first|(intro br;subst hq)|(obtain ⟨hq,br⟩:=hq;subst hq)
       have gJ:=br.c0;have gI:=br.c1;clear fB fA
       go_wp2_with (go_at_call 63;refine (br.byte 94 94 rfl (by first|omega|(simp only [zzF,zzG,List.length_nil];omega))).mono ?_)
       intro r3 W3 hq
       first|(intro bX;subst hq)|(obtain ⟨hq,bX⟩:=hq;subst hq)
       have kD:=bX.c0;have kB:=bX.c1;clear gJ gI
       go_wp2_with (go_at_call 64;refine (bX.itoa hg e (by omega) (by omega)).mono ?_)
       intro r4 W4 hq
       first|(intro eg;subst hq)|(obtain ⟨hq,eg⟩:=hq;subst hq)
       have qE:=eg.c0;have qD:=eg.c1;clear kD kB
       go_wp2_with (go_at_call 56;refine (eg.str ⟨(Lib.itoa e).toArray⟩ (by first|omega|(simp only [zzF,zzG,List.length_nil];omega)) (lJ (by omega) (by omega))).mono ?_)
       intro r5 W5 hq
       first|(intro jg;subst hq)|(obtain ⟨hq,jg⟩:=hq;subst hq)
       have xA:=jg.c0;have xz:=jg.c1;clear qE qD
       go_wp2
       go_roundw
       case rel=>exact lL bM HE.out HV.out jg hL iJ k7 (by simp [iM,show¬(e=0) by omega,show¬(e=1) by omega]) rfl
       case measure=>simp [intOf];omega
      ·have b8: ¬ -c=1:=by omega
       go_wp2_with (go_at_call 63;refine (ke.byte 45 45 rfl (by first|omega|(simp only [zzF,zzG,List.length_nil];omega))).mono ?_)
       intro r1 W1 hq
       first|(intro aU;subst hq)|(obtain ⟨hq,aU⟩:=hq;subst hq)
       have fB:=aU.c0;have fA:=aU.c1
       go_wp2_with (go_at_call 64;refine (aU.itoa hg (-c) (by omega) (by omega)).mono ?_)
       intro r2 W2 hq
       first|(intro br;subst hq)|(obtain ⟨hq,br⟩:=hq;subst hq)
       have gJ:=br.c0;have gI:=br.c1;clear fB fA
       go_wp2_with (go_at_call 56;refine (br.str ⟨(Lib.itoa (-c)).toArray⟩ (by first|omega|(simp only [zzF,zzG,List.length_nil];omega)) (lJ (by omega) (by omega))).mono ?_)
       intro r3 W3 hq
       first|(intro bX;subst hq)|(obtain ⟨hq,bX⟩:=hq;subst hq)
       have kD:=bX.c0;have kB:=bX.c1;clear gJ gI
       go_wp2_with (go_at_call 56;refine (bX.str name (by first|omega|(simp only [zzF,zzG,List.length_nil];omega)) (by omega)).mono ?_)
       intro r4 W4 hq
       first|(intro eg;subst hq)|(obtain ⟨hq,eg⟩:=hq;subst hq)
       have qE:=eg.c0;have qD:=eg.c1;clear kD kB
       go_wp2_with (go_at_call 63;refine (eg.byte 94 94 rfl (by first|omega|(simp only [zzF,zzG,List.length_nil];omega))).mono ?_)
       intro r5 W5 hq
       first|(intro jg;subst hq)|(obtain ⟨hq,jg⟩:=hq;subst hq)
       have xA:=jg.c0;have xz:=jg.c1;clear qE qD
       go_wp2_with (go_at_call 64;refine (jg.itoa hg e (by omega) (by omega)).mono ?_)
       intro r6 W6 hq
       first|(intro oL;subst hq)|(obtain ⟨hq,oL⟩:=hq;subst hq)
       have FB:=oL.c0;have FA:=oL.c1;clear xA xz
       go_wp2_with (go_at_call 56;refine (oL.str ⟨(Lib.itoa e).toArray⟩ (by first|omega|(simp only [zzF,zzG,List.length_nil];omega)) (lJ (by omega) (by omega))).mono ?_)
       intro r7 W7 hq
       first|(intro uw;subst hq)|(obtain ⟨hq,uw⟩:=hq;subst hq)
       have Zy:=uw.c0;have Zx:=uw.c1;clear FB FA
       go_wp2
       go_roundw
       case rel=>exact lL bM HE.out HV.out uw hL iJ k7 (by simp [iM,show c<0 by omega,show¬(-c=1) by omega,show¬(e=0) by omega,show¬(e=1) by omega]) rfl
       case measure=>simp [intOf];omega
   ·by_cases ld:0<k
    ·have Zz:decide ((0:Int)<(k:Int))=true:=by simp;omega
     by_cases qz:e=0
     ·subst qz;by_cases b8:c=1
      ·subst b8
       go_wp2_with (go_at_call 63;refine (ke.byte 43 43 rfl (by first|omega|(simp only [zzF,zzG,List.length_nil];omega))).mono ?_)
       intro r1 W1 hq
       first|(intro aU;subst hq)|(obtain ⟨hq,aU⟩:=hq;subst hq)
       have fB:=aU.c0;have fA:=aU.c1
       go_wp2_with (go_at_call 64;refine (aU.itoa hg 1 (by omega) (by omega)).mono ?_)
       intro r2 W2 hq
       first|(intro br;subst hq)|(obtain ⟨hq,br⟩:=hq;subst hq)
       have gJ:=br.c0;have gI:=br.c1;clear fB fA
       go_wp2_with (go_at_call 56;refine (br.str ⟨(Lib.itoa 1).toArray⟩ (by first|omega|(simp only [zzF,zzG,List.length_nil];omega)) (lJ (by omega) (by omega))).mono ?_)
       intro r3 W3 hq
       first|(intro bX;subst hq)|(obtain ⟨hq,bX⟩:=hq;subst hq)
       have kD:=bX.c0;have kB:=bX.c1;clear gJ gI
       go_wp2
       go_roundw
       case rel=>exact lL bM HE.out HV.out bX hL iJ k7 (by simp [iM,show 0<k by omega]) rfl
       case measure=>simp [intOf];omega
      ·have sr:(c==1)=false:=by simpa using b8
       go_wp2_with (go_at_call 63;refine (ke.byte 43 43 rfl (by first|omega|(simp only [zzF,zzG,List.length_nil];omega))).mono ?_)
       intro r1 W1 hq
       first|(intro aU;subst hq)|(obtain ⟨hq,aU⟩:=hq;subst hq)
       have fB:=aU.c0;have fA:=aU.c1
       go_wp2_with (go_at_call 64;refine (aU.itoa hg c (by omega) (by omega)).mono ?_)
       intro r2 W2 hq
       first|(intro br;subst hq)|(obtain ⟨hq,br⟩:=hq;subst hq)
       have gJ:=br.c0;have gI:=br.c1;clear fB fA
       go_wp2_with (go_at_call 56;refine (br.str ⟨(Lib.itoa c).toArray⟩ (by first|omega|(simp only [zzF,zzG,List.length_nil];omega)) (lJ (by omega) (by omega))).mono ?_)
       intro r3 W3 hq
       first|(intro bX;subst hq)|(obtain ⟨hq,bX⟩:=hq;subst hq)
       have kD:=bX.c0;have kB:=bX.c1;clear gJ gI
       go_wp2
       go_roundw
       case rel=>exact lL bM HE.out HV.out bX hL iJ k7 (by simp [iM,show¬(c<0) by omega,show¬(c=1) by omega,show 0<k by omega]) rfl
       case measure=>simp [intOf];omega
     ·by_cases rQ:e=1
      ·subst rQ;by_cases b8:c=1
       ·subst b8
        go_wp2_with (go_at_call 63;refine (ke.byte 43 43 rfl (by first|omega|(simp only [zzF,zzG,List.length_nil];omega))).mono ?_)
        intro r1 W1 hq
        first|(intro aU;subst hq)|(obtain ⟨hq,aU⟩:=hq;subst hq)
        have fB:=aU.c0;have fA:=aU.c1
        go_wp2_with (go_at_call 56;refine (aU.str name (by first|omega|(simp only [zzF,zzG,List.length_nil];omega)) (by omega)).mono ?_)
        intro r2 W2 hq
        first|(intro br;subst hq)|(obtain ⟨hq,br⟩:=hq;subst hq)
        have gJ:=br.c0;have gI:=br.c1;clear fB fA
        go_wp2
        go_roundw
        case rel=>exact lL bM HE.out HV.out br hL iJ k7 (by simp [iM,show 0<k by omega]) rfl
        case measure=>simp [intOf];omega
       ·have sr:(c==1)=false:=by simpa using b8
        go_wp2_with (go_at_call 63;refine (ke.byte 43 43 rfl (by first|omega|(simp only [zzF,zzG,List.length_nil];omega))).mono ?_)
        intro r1 W1 hq
        first|(intro aU;subst hq)|(obtain ⟨hq,aU⟩:=hq;subst hq)
        have fB:=aU.c0;have fA:=aU.c1
        go_wp2_with (go_at_call 64;refine (aU.itoa hg c (by omega) (by omega)).mono ?_)
        intro r2 W2 hq
        first|(intro br;subst hq)|(obtain ⟨hq,br⟩:=hq;subst hq)
        have gJ:=br.c0;have gI:=br.c1;clear fB fA
        go_wp2_with (go_at_call 56;refine (br.str ⟨(Lib.itoa c).toArray⟩ (by first|omega|(simp only [zzF,zzG,List.length_nil];omega)) (lJ (by omega) (by omega))).mono ?_)
        intro r3 W3 hq
        first|(intro bX;subst hq)|(obtain ⟨hq,bX⟩:=hq;subst hq)
        have kD:=bX.c0;have kB:=bX.c1;clear gJ gI
        go_wp2_with (go_at_call 56;refine (bX.str name (by first|omega|(simp only [zzF,zzG,List.length_nil];omega)) (by omega)).mono ?_)
        intro r4 W4 hq
        first|(intro eg;subst hq)|(obtain ⟨hq,eg⟩:=hq;subst hq)
        have qE:=eg.c0;have qD:=eg.c1;clear kD kB
        go_wp2
        go_roundw
        case rel=>exact lL bM HE.out HV.out eg hL iJ k7 (by simp [iM,show¬(c<0) by omega,show¬(c=1) by omega,show 0<k by omega]) rfl
        case measure=>simp [intOf];omega
      ·have TT:(e==0)=false:=by simpa using qz
       have vX:(e==1)=false:=by simpa using rQ
       by_cases b8:c=1
       ·subst b8
        go_wp2_with (go_at_call 63;refine (ke.byte 43 43 rfl (by first|omega|(simp only [zzF,zzG,List.length_nil];omega))).mono ?_)
        intro r1 W1 hq
        first|(intro aU;subst hq)|(obtain ⟨hq,aU⟩:=hq;subst hq)
        have fB:=aU.c0;have fA:=aU.c1
        go_wp2_with (go_at_call 56;refine (aU.str name (by first|omega|(simp only [zzF,zzG,List.length_nil];omega)) (by omega)).mono ?_)
        intro r2 W2 hq
        first|(intro br;subst hq)|(obtain ⟨hq,br⟩:=hq;subst hq)
        have gJ:=br.c0;have gI:=br.c1;clear fB fA
        go_wp2_with (go_at_call 63;refine (br.byte 94 94 rfl (by first|omega|(simp only [zzF,zzG,List.length_nil];omega))).mono ?_)
        intro r3 W3 hq
        first|(intro bX;subst hq)|(obtain ⟨hq,bX⟩:=hq;subst hq)
        have kD:=bX.c0;have kB:=bX.c1;clear gJ gI
        go_wp2_with (go_at_call 64;refine (bX.itoa hg e (by omega) (by omega)).mono ?_)
        intro r4 W4 hq
        first|(intro eg;subst hq)|(obtain ⟨hq,eg⟩:=hq;subst hq)
        have qE:=eg.c0;have qD:=eg.c1;clear kD kB
        go_wp2_with (go_at_call 56;refine (eg.str ⟨(Lib.itoa e).toArray⟩ (by first|omega|(simp only [zzF,zzG,List.length_nil];omega)) (lJ (by omega) (by omega))).mono ?_)
        intro r5 W5 hq
        first|(intro jg;subst hq)|(obtain ⟨hq,jg⟩:=hq;subst hq)
        have xA:=jg.c0;have xz:=jg.c1;clear qE qD
        go_wp2
        go_roundw
        case rel=>exact lL bM HE.out HV.out jg hL iJ k7 (by simp [iM,show 0<k by omega,show¬(e=0) by omega,show¬(e=1) by omega]) rfl
        case measure=>simp [intOf];omega
       ·have sr:(c==1)=false:=by simpa using b8
        go_wp2_with (go_at_call 63;refine (ke.byte 43 43 rfl (by first|omega|(simp only [zzF,zzG,List.length_nil];omega))).mono ?_)
        intro r1 W1 hq
        first|(intro aU;subst hq)|(obtain ⟨hq,aU⟩:=hq;subst hq)
        have fB:=aU.c0;have fA:=aU.c1
        go_wp2_with (go_at_call 64;refine (aU.itoa hg c (by omega) (by omega)).mono ?_)
        intro r2 W2 hq
        first|(intro br;subst hq)|(obtain ⟨hq,br⟩:=hq;subst hq)
        have gJ:=br.c0;have gI:=br.c1;clear fB fA
        go_wp2_with (go_at_call 56;refine (br.str ⟨(Lib.itoa c).toArray⟩ (by first|omega|(simp only [zzF,zzG,List.length_nil];omega)) (lJ (by omega) (by omega))).mono ?_)
        intro r3 W3 hq
        first|(intro bX;subst hq)|(obtain ⟨hq,bX⟩:=hq;subst hq)
        have kD:=bX.c0;have kB:=bX.c1;clear gJ gI
        go_wp2_with (go_at_call 56;refine (bX.str name (by first|omega|(simp only [zzF,zzG,List.length_nil];omega)) (by omega)).mono ?_)
        intro r4 W4 hq
        first|(intro eg;subst hq)|(obtain ⟨hq,eg⟩:=hq;subst hq)
        have qE:=eg.c0;have qD:=eg.c1;clear kD kB
        go_wp2_with (go_at_call 63;refine (eg.byte 94 94 rfl (by first|omega|(simp only [zzF,zzG,List.length_nil];omega))).mono ?_)
        intro r5 W5 hq
        first|(intro jg;subst hq)|(obtain ⟨hq,jg⟩:=hq;subst hq)
        have xA:=jg.c0;have xz:=jg.c1;clear qE qD
        go_wp2_with (go_at_call 64;refine (jg.itoa hg e (by omega) (by omega)).mono ?_)
        intro r6 W6 hq
        first|(intro oL;subst hq)|(obtain ⟨hq,oL⟩:=hq;subst hq)
        have FB:=oL.c0;have FA:=oL.c1;clear xA xz
        go_wp2_with (go_at_call 56;refine (oL.str ⟨(Lib.itoa e).toArray⟩ (by first|omega|(simp only [zzF,zzG,List.length_nil];omega)) (lJ (by omega) (by omega))).mono ?_)
        intro r7 W7 hq
        first|(intro uw;subst hq)|(obtain ⟨hq,uw⟩:=hq;subst hq)
        have Zy:=uw.c0;have Zx:=uw.c1;clear FB FA
        go_wp2
        go_roundw
        case rel=>exact lL bM HE.out HV.out uw hL iJ k7 (by simp [iM,show¬(c<0) by omega,show¬(c=1) by omega,show 0<k by omega,show¬(e=0) by omega,show¬(e=1) by omega]) rfl
        case measure=>simp [intOf];omega
    ·have Zz:decide ((0:Int)<(k:Int))=false:=by simp;omega
     by_cases qz:e=0
     ·subst qz;by_cases b8:c=1
      ·subst b8
       go_wp2_with (go_at_call 64;refine (ke.itoa hg 1 (by omega) (by omega)).mono ?_)
       intro r1 W1 hq
       first|(intro aU;subst hq)|(obtain ⟨hq,aU⟩:=hq;subst hq)
       have fB:=aU.c0;have fA:=aU.c1
       go_wp2_with (go_at_call 56;refine (aU.str ⟨(Lib.itoa 1).toArray⟩ (by first|omega|(simp only [zzF,zzG,List.length_nil];omega)) (lJ (by omega) (by omega))).mono ?_)
       intro r2 W2 hq
       first|(intro br;subst hq)|(obtain ⟨hq,br⟩:=hq;subst hq)
       have gJ:=br.c0;have gI:=br.c1;clear fB fA
       go_wp2
       go_roundw
       case rel=>exact lL bM HE.out HV.out br hL iJ k7 (by simp [iM,show¬(0<k) by omega]) rfl
       case measure=>simp [intOf];omega
      ·have sr:(c==1)=false:=by simpa using b8
       go_wp2_with (go_at_call 64;refine (ke.itoa hg c (by omega) (by omega)).mono ?_)
       intro r1 W1 hq
       first|(intro aU;subst hq)|(obtain ⟨hq,aU⟩:=hq;subst hq)
       have fB:=aU.c0;have fA:=aU.c1
       go_wp2_with (go_at_call 56;refine (aU.str ⟨(Lib.itoa c).toArray⟩ (by first|omega|(simp only [zzF,zzG,List.length_nil];omega)) (lJ (by omega) (by omega))).mono ?_)
       intro r2 W2 hq
       first|(intro br;subst hq)|(obtain ⟨hq,br⟩:=hq;subst hq)
       have gJ:=br.c0;have gI:=br.c1;clear fB fA
       go_wp2
       go_roundw
       case rel=>exact lL bM HE.out HV.out br hL iJ k7 (by simp [iM,show¬(c<0) by omega,show¬(c=1) by omega,show¬(0<k) by omega]) rfl
       case measure=>simp [intOf];omega
     ·by_cases rQ:e=1
      ·subst rQ;by_cases b8:c=1
       ·subst b8
        go_wp2_with (go_at_call 56;refine (ke.str name (by first|omega|(simp only [zzF,zzG,List.length_nil];omega)) (by omega)).mono ?_)
        intro r1 W1 hq
        first|(intro aU;subst hq)|(obtain ⟨hq,aU⟩:=hq;subst hq)
        have fB:=aU.c0;have fA:=aU.c1
        go_wp2
        go_roundw
        case rel=>exact lL bM HE.out HV.out aU hL iJ k7 (by simp [iM,show¬(0<k) by omega]) rfl
        case measure=>simp [intOf];omega
       ·have sr:(c==1)=false:=by simpa using b8
        go_wp2_with (go_at_call 64;refine (ke.itoa hg c (by omega) (by omega)).mono ?_)
        intro r1 W1 hq
        first|(intro aU;subst hq)|(obtain ⟨hq,aU⟩:=hq;subst hq)
        have fB:=aU.c0;have fA:=aU.c1
        go_wp2_with (go_at_call 56;refine (aU.str ⟨(Lib.itoa c).toArray⟩ (by first|omega|(simp only [zzF,zzG,List.length_nil];omega)) (lJ (by omega) (by omega))).mono ?_)
        intro r2 W2 hq
        first|(intro br;subst hq)|(obtain ⟨hq,br⟩:=hq;subst hq)
        have gJ:=br.c0;have gI:=br.c1;clear fB fA
        go_wp2_with (go_at_call 56;refine (br.str name (by first|omega|(simp only [zzF,zzG,List.length_nil];omega)) (by omega)).mono ?_)
        intro r3 W3 hq
        first|(intro bX;subst hq)|(obtain ⟨hq,bX⟩:=hq;subst hq)
        have kD:=bX.c0;have kB:=bX.c1;clear gJ gI
        go_wp2
        go_roundw
        case rel=>exact lL bM HE.out HV.out bX hL iJ k7 (by simp [iM,show¬(c<0) by omega,show¬(c=1) by omega,show¬(0<k) by omega]) rfl
        case measure=>simp [intOf];omega
      ·have TT:(e==0)=false:=by simpa using qz
       have vX:(e==1)=false:=by simpa using rQ
       by_cases b8:c=1
       ·subst b8
        go_wp2_with (go_at_call 56;refine (ke.str name (by first|omega|(simp only [zzF,zzG,List.length_nil];omega)) (by omega)).mono ?_)
        intro r1 W1 hq
        first|(intro aU;subst hq)|(obtain ⟨hq,aU⟩:=hq;subst hq)
        have fB:=aU.c0;have fA:=aU.c1
        go_wp2_with (go_at_call 63;refine (aU.byte 94 94 rfl (by first|omega|(simp only [zzF,zzG,List.length_nil];omega))).mono ?_)
        intro r2 W2 hq
        first|(intro br;subst hq)|(obtain ⟨hq,br⟩:=hq;subst hq)
        have gJ:=br.c0;have gI:=br.c1;clear fB fA
        go_wp2_with (go_at_call 64;refine (br.itoa hg e (by omega) (by omega)).mono ?_)
        intro r3 W3 hq
        first|(intro bX;subst hq)|(obtain ⟨hq,bX⟩:=hq;subst hq)
        have kD:=bX.c0;have kB:=bX.c1;clear gJ gI
        go_wp2_with (go_at_call 56;refine (bX.str ⟨(Lib.itoa e).toArray⟩ (by first|omega|(simp only [zzF,zzG,List.length_nil];omega)) (lJ (by omega) (by omega))).mono ?_)
        intro r4 W4 hq
        first|(intro eg;subst hq)|(obtain ⟨hq,eg⟩:=hq;subst hq)
        have qE:=eg.c0;have qD:=eg.c1;clear kD kB
        go_wp2
        go_roundw
        case rel=>exact lL bM HE.out HV.out eg hL iJ k7 (by simp [iM,show¬(0<k) by omega,show¬(e=0) by omega,show¬(e=1) by omega]) rfl
        case measure=>simp [intOf];omega
       ·have sr:(c==1)=false:=by simpa using b8
        go_wp2_with (go_at_call 64;refine (ke.itoa hg c (by omega) (by omega)).mono ?_)
        intro r1 W1 hq
        first|(intro aU;subst hq)|(obtain ⟨hq,aU⟩:=hq;subst hq)
        have fB:=aU.c0;have fA:=aU.c1
        go_wp2_with (go_at_call 56;refine (aU.str ⟨(Lib.itoa c).toArray⟩ (by first|omega|(simp only [zzF,zzG,List.length_nil];omega)) (lJ (by omega) (by omega))).mono ?_)
        intro r2 W2 hq
        first|(intro br;subst hq)|(obtain ⟨hq,br⟩:=hq;subst hq)
        have gJ:=br.c0;have gI:=br.c1;clear fB fA
        go_wp2_with (go_at_call 56;refine (br.str name (by first|omega|(simp only [zzF,zzG,List.length_nil];omega)) (by omega)).mono ?_)
        intro r3 W3 hq
        first|(intro bX;subst hq)|(obtain ⟨hq,bX⟩:=hq;subst hq)
        have kD:=bX.c0;have kB:=bX.c1;clear gJ gI
        go_wp2_with (go_at_call 63;refine (bX.byte 94 94 rfl (by first|omega|(simp only [zzF,zzG,List.length_nil];omega))).mono ?_)
        intro r4 W4 hq
        first|(intro eg;subst hq)|(obtain ⟨hq,eg⟩:=hq;subst hq)
        have qE:=eg.c0;have qD:=eg.c1;clear kD kB
        go_wp2_with (go_at_call 64;refine (eg.itoa hg e (by omega) (by omega)).mono ?_)
        intro r5 W5 hq
        first|(intro jg;subst hq)|(obtain ⟨hq,jg⟩:=hq;subst hq)
        have xA:=jg.c0;have xz:=jg.c1;clear qE qD
        go_wp2_with (go_at_call 56;refine (jg.str ⟨(Lib.itoa e).toArray⟩ (by first|omega|(simp only [zzF,zzG,List.length_nil];omega)) (lJ (by omega) (by omega))).mono ?_)
        intro r6 W6 hq
        first|(intro oL;subst hq)|(obtain ⟨hq,oL⟩:=hq;subst hq)
        have FB:=oL.c0;have FA:=oL.c1;clear xA xz
        go_wp2
        go_roundw
        case rel=>exact lL bM HE.out HV.out oL hL iJ k7 (by simp [iM,show¬(c<0) by omega,show¬(c=1) by omega,show¬(0<k) by omega,show¬(e=0) by omega,show¬(e=1) by omega]) rfl
        case measure=>simp [intOf];omega
  ·obtain rfl:k=p.length:=by omega
   go_wp2_with (go_at_call 59;refine (TS.string hI hb).mono ?_)
   rintro r W1 ⟨rfl,h1⟩
   go_wp2
   go_ret
   exact ⟨rfl,h1⟩
end Go.Proofs.YtmdjdekgakidhaaGreatDoor
