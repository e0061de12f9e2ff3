/- Layer 12: the text of a polynomial: the walk. -/
import Derived.Test.YtjpnnnognoaaiaaDoorTx2
import Derived.Lib.Hide
set_option linter.unusedSimpArgs false
set_option linter.unusedVariables false
namespace Go.Proofs.YtjpnnnognoaaiaaDoor
open Go Go.RowKit Go.Shelf
set_option maxHeartbeats 8000000
set_option maxRecDepth 100000
theorem adds (a:Addr) (i j:Nat):(a.add i).add j=a.add (i+j):=by
 unfold Addr.add
 by_cases hi:i=0<;>by_cases hj:j=0<;>simp [hi,hj,Nat.add_assoc]
theorem addB (a:Addr) (i:Nat):(a.add i).block=a.block:=by unfold Addr.add;split<;>rfl
theorem yqr (w:World) (o:Obj):(w.alloc o).heap[w.heap.size]?=some o:=by
 show (w.heap.push o)[w.heap.size]?=some o
 simp
theorem yx0 {nm:List UInt8} {k:Nat} {e c:Int} (hn:nm.length<=1000) (hr: -4611686018427387904<=e/\e<=4611686018427387904/\ -4611686018427387904<=c/\c<=4611686018427387904):(yb2 nm k e c).length<=2000:=by
 have h1:=ydx (n:=e) (by omega) (by omega)
 have h2:=ydx (n:=c) (by omega) (by omega)
 have h3:=ydx (n:=0-c) (by omega) (by omega)
 have l1:(if c<0 then [45] else if 0<k then [43] else ([]:List UInt8)).length<=1:=by
  split
  ·simp
  ·split<;>simp
 have l2:(if (if c<0 then 0-c else c)=1/\e≠0 then ([]:List UInt8) else Lib.itoa (if c<0 then 0-c else c)).length<=21:=by
  by_cases hc0:c<0
  ·rw [if_pos hc0]
   split
   ·simp
   ·exact h3
  ·rw [if_neg hc0]
   split
   ·simp
   ·exact h2
 have l3:(if e=0 then ([]:List UInt8) else nm).length<=1000:=by
  split
  ·simp
  ·exact hn
 have l4:(if e=0\/e=1 then ([]:List UInt8) else 94::Lib.itoa e).length<=22:=by
  split
  ·simp
  ·simp;omega
 unfold yb2
 rw [List.length_append,List.length_append,List.length_append]
 omega
theorem ybu {n:Int} (h0: -9223372036854775808<=n) (h1:n<=9223372036854775807):(⟨(Lib.itoa n).toArray⟩:ByteArray).size<=100000:=by
 have:=ydx h0 h1
 show (Lib.itoa n).toArray.size<=100000
 simp;omega
theorem ybh {p:List (Int×Int)} {nm:List UInt8} {w W:World} {k K:Nat} {e c:Int} {acc:List UInt8} {v:Value} (hkl:k<p.length) (he:(p.getD k (0,0)).1=e) (hc:(p.getD k (0,0)).2=c)
  (hT:TS w (w.heap.size+1) K e c acc W) (hL:(txtN nm p k).length<=k*2000) (hn:nm.length<=1000)
  (hr: -4611686018427387904<=e/\e<=4611686018427387904/\ -4611686018427387904<=c/\c<=4611686018427387904) (hacc:acc=txtN nm p k++yb2 nm k e c) (hv:v= .int .i64 ((k:Int)+1)):
  ∃k:Nat,k<=p.length/\v= .int .i64 k/\Lib.IsBuilderF 64 5 w.heap.size (w.heap.size+1) (Lib.byteCells (txtN nm p k)) W/\Below w.heap.size w W/\(txtN nm p k).length<=k*2000/\w.heap.size+1<W.heap.size:=by
 have e1:txtN nm p (k+1)=acc:=by rw [hacc];show txtN nm p k++yb2 nm k (p.getD k (0,0)).1 (p.getD k (0,0)).2=_;rw [he,hc]
 have hlt:w.heap.size+1<W.heap.size:=by
  rcases hT.bld with h|h
  ·exact h.lt
  ·exact h.lt
 refine ⟨k+1,by omega,?_,by rw [e1];exact hT.bld,hT.bel,?_,hlt⟩
 ·rw [hv];simp
 ·rw [e1,hacc,List.length_append]
  have:=yx0 (nm:=nm) (k:=k) hn hr
  omega
theorem yvb (w:World) (o:Obj):Lib.IsBuilderF 64 5 w.heap.size (w.heap.size+1) (Lib.byteCells []) ((w.alloc o).alloc (.cells #[.pointer none, .slice none 0 0] 64))/\
  Below w.heap.size w ((w.alloc o).alloc (.cells #[.pointer none, .slice none 0 0] 64))/\w.heap.size+1<((w.alloc o).alloc (.cells #[.pointer none, .slice none 0 0] 64)).heap.size:=by
 have e1:(w.alloc o).heap.size=w.heap.size+1:=by show (w.heap.push o).size=_;simp
 have e2:=yqr (w.alloc o) (.cells #[.pointer none, .slice none 0 0] 64)
 rw [e1] at e2
 refine ⟨.inl ⟨by omega, .slice none 0 0,e2,⟨rfl, .inl ⟨rfl,rfl⟩⟩,by simp [Value.ownBlock]⟩,((Below.refl _ w).alloc (Nat.le_refl _) _).alloc (by omega) _,?_⟩
 exact (Array.getElem?_eq_some_iff.1 e2).1
theorem yx1 (p:List (Int×Int)) (name:ByteArray) (a:Addr) (cap:Nat) (w:World) (hp0:0<p.length) (hg:Good w) (ha:a.block<w.heap.size)
  (hc: ∀k,k<p.length->w.cell? (a.add (k*2))=some (.int .i64 (p.getD k (0,0)).1)/\w.cell? (a.add (k*2+1))=some (.int .i64 (p.getD k (0,0)).2))
  (hr: ∀k,k<p.length-> -4611686018427387904<=(p.getD k (0,0)).1/\(p.getD k (0,0)).1<=4611686018427387904/\ -4611686018427387904<=(p.getD k (0,0)).2/\(p.getD k (0,0)).2<=4611686018427387904)
  (hn:name.size<=1000) (hpl:p.length<=1000000):
  Calls Tryd.prog 19 #[.agg #[.bool false, .slice (some a) p.length cap], .string name] w fun e w'=>e= .returned (.string ⟨(txtN name.data.toList p p.length).toArray⟩)/\Below w.heap.size w w':=by
 have hl0:((p.length:Int)==0)=false:=by simp;intro h;rw [h] at hp0;simp at hp0
 have hnl:name.data.toList.length<=1000:=hn
 have HC:=Lib.hid hc
 have HR:=Lib.hid hr
 clear hc hr
 go_enter Tryd.func19,Tryd.ntmps19
 go_wp2
 go_loopw [20] (fun i wr=> ∃k:Nat,k<=p.length/\i= .int .i64 k/\Lib.IsBuilderF 64 5 w.heap.size (w.heap.size+1) (Lib.byteCells (txtN name.data.toList p k)) wr/\Below w.heap.size w wr/\(txtN name.data.toList p k).length<=k*2000/\w.heap.size+1<wr.heap.size) (fun i _=>p.length-(intOf i).toNat)
 case atStart=>
  have h:=yvb w (.cells #[.bool false, .slice (some a) p.length cap] 29)
  exact ⟨0,Nat.zero_le _,rfl,h.1,h.2.1,Nat.zero_le _,h.2.2⟩
 case round=>
  obtain ⟨k,hk,rfl,hI,hb,hL,hz⟩:=hrel
  by_cases hkl:k<p.length
  ·have hce:=HC.out k hkl
   have hre:=HR.out k hkl
   obtain ⟨e,he⟩: ∃e,(p.getD k (0,0)).1=e:=⟨_,rfl⟩
   obtain ⟨c,hcv⟩: ∃c,(p.getD k (0,0)).2=c:=⟨_,rfl⟩
   rw [he,hcv] at hre hce
   have HE:=Lib.hid he
   have HV:=Lib.hid hcv
   clear he hcv
   have g0:wr.cell? (a.add (k*2))=some (.int .i64 e):=by rw [hb.cell (by rw [addB];exact ha)];exact hce.1
   have g1:wr.cell? ⟨(a.add (k*2)).block,(a.add (k*2)).off+1,none⟩=some (.int .i64 c):=by
    show wr.cell? ((a.add (k*2)).add 1)=_
    rw [hb.cell (by rw [addB,addB];exact ha),adds];exact hce.2
   clear hce
   have hT0:TS w (w.heap.size+1) wr.heap.size e c (txtN name.data.toList p k) (wr.alloc (.cells #[.int .i64 e, .int .i64 c] 52)):=⟨hI.alloc _,yqr wr _,by omega,hb.alloc (by omega) _⟩
   have c0:=hT0.c0
   have c1:=hT0.c1
   have ie:=ydx (n:=e) (by omega) (by omega)
   have ic:=ydx (n:=c) (by omega) (by omega)
   have id:=ydx (n:= -c) (by omega) (by omega)
   have i1:=ydx (n:=1) (by omega) (by omega)
   by_cases hneg:c<0
   ·have hk0:True:=trivial
    by_cases he0:e=0
    ·subst he0
     by_cases hone:c= -1
     ·subst hone
      go_wp2_with (go_at_call 37;refine (hT0.byte 45 45 rfl (by first|omega|(simp only [List.length_append,List.length_cons,List.length_nil];omega))).mono ?_)
      intro r1 W1 hq
      first|(intro hT1;subst hq)|(obtain ⟨hq,hT1⟩:=hq;subst hq)
      have c01:=hT1.c0
      have c11:=hT1.c1
      go_wp2_with (go_at_call 39;refine (hT1.itoa hg 1 (by omega) (by omega)).mono ?_)
      intro r2 W2 hq
      first|(intro hT2;subst hq)|(obtain ⟨hq,hT2⟩:=hq;subst hq)
      have c02:=hT2.c0
      have c12:=hT2.c1
      clear c01 c11
      go_wp2_with (go_at_call 38;refine (hT2.str ⟨(Lib.itoa 1).toArray⟩ (by first|omega|(simp only [List.length_append,List.length_cons,List.length_nil];omega)) (ybu (by omega) (by omega))).mono ?_)
      intro r3 W3 hq
      first|(intro hT3;subst hq)|(obtain ⟨hq,hT3⟩:=hq;subst hq)
      have c03:=hT3.c0
      have c13:=hT3.c1
      clear c02 c12
      go_wp2
      go_roundw
      case rel=>exact ybh hkl HE.out HV.out hT3 hL hnl hre (by simp [yb2]) rfl
      case measure=>simp [intOf];omega
     ·have hone: ¬ -c=1:=by omega
      go_wp2_with (go_at_call 37;refine (hT0.byte 45 45 rfl (by first|omega|(simp only [List.length_append,List.length_cons,List.length_nil];omega))).mono ?_)
      intro r1 W1 hq
      first|(intro hT1;subst hq)|(obtain ⟨hq,hT1⟩:=hq;subst hq)
      have c01:=hT1.c0
      have c11:=hT1.c1
      go_wp2_with (go_at_call 39;refine (hT1.itoa hg (-c) (by omega) (by omega)).mono ?_)
      intro r2 W2 hq
      first|(intro hT2;subst hq)|(obtain ⟨hq,hT2⟩:=hq;subst hq)
      have c02:=hT2.c0
      have c12:=hT2.c1
      clear c01 c11
      go_wp2_with (go_at_call 38;refine (hT2.str ⟨(Lib.itoa (-c)).toArray⟩ (by first|omega|(simp only [List.length_append,List.length_cons,List.length_nil];omega)) (ybu (by omega) (by omega))).mono ?_)
      intro r3 W3 hq
      first|(intro hT3;subst hq)|(obtain ⟨hq,hT3⟩:=hq;subst hq)
      have c03:=hT3.c0
      have c13:=hT3.c1
      clear c02 c12
      go_wp2
      go_roundw
      case rel=>exact ybh hkl HE.out HV.out hT3 hL hnl hre (by simp [yb2,show c<0 by omega,show¬(-c=1) by omega]) rfl
      case measure=>simp [intOf];omega
    ·by_cases he1:e=1
     ·subst he1
      by_cases hone:c= -1
      ·subst hone
       go_wp2_with (go_at_call 37;refine (hT0.byte 45 45 rfl (by first|omega|(simp only [List.length_append,List.length_cons,List.length_nil];omega))).mono ?_)
       intro r1 W1 hq
       first|(intro hT1;subst hq)|(obtain ⟨hq,hT1⟩:=hq;subst hq)
       have c01:=hT1.c0
       have c11:=hT1.c1
       go_wp2_with (go_at_call 38;refine (hT1.str name (by first|omega|(simp only [List.length_append,List.length_cons,List.length_nil];omega)) (by omega)).mono ?_)
       intro r2 W2 hq
       first|(intro hT2;subst hq)|(obtain ⟨hq,hT2⟩:=hq;subst hq)
       have c02:=hT2.c0
       have c12:=hT2.c1
       clear c01 c11
       go_wp2
       go_roundw
       case rel=>exact ybh hkl HE.out HV.out hT2 hL hnl hre (by simp [yb2]) rfl
       case measure=>simp [intOf];omega
      ·have hone: ¬ -c=1:=by omega
       go_wp2_with (go_at_call 37;refine (hT0.byte 45 45 rfl (by first|omega|(simp only [List.length_append,List.length_cons,List.length_nil];omega))).mono ?_)
       intro r1 W1 hq
       first|(intro hT1;subst hq)|(obtain ⟨hq,hT1⟩:=hq;subst hq)
       have c01:=hT1.c0
       have c11:=hT1.c1
       go_wp2_with (go_at_call 39;refine (hT1.itoa hg (-c) (by omega) (by omega)).mono ?_)
       intro r2 W2 hq
       first|(intro hT2;subst hq)|(obtain ⟨hq,hT2⟩:=hq;subst hq)
       have c02:=hT2.c0
       have c12:=hT2.c1
       clear c01 c11
       go_wp2_with (go_at_call 38;refine (hT2.str ⟨(Lib.itoa (-c)).toArray⟩ (by first|omega|(simp only [List.length_append,List.length_cons,List.length_nil];omega)) (ybu (by omega) (by omega))).mono ?_)
       intro r3 W3 hq
       first|(intro hT3;subst hq)|(obtain ⟨hq,hT3⟩:=hq;subst hq)
       have c03:=hT3.c0
       have c13:=hT3.c1
       clear c02 c12
       go_wp2_with (go_at_call 38;refine (hT3.str name (by first|omega|(simp only [List.length_append,List.length_cons,List.length_nil];omega)) (by omega)).mono ?_)
       intro r4 W4 hq
       first|(intro hT4;subst hq)|(obtain ⟨hq,hT4⟩:=hq;subst hq)
       have c04:=hT4.c0
       have c14:=hT4.c1
       clear c03 c13
       go_wp2
       go_roundw
       case rel=>exact ybh hkl HE.out HV.out hT4 hL hnl hre (by simp [yb2,show c<0 by omega,show¬(-c=1) by omega]) rfl
       case measure=>simp [intOf];omega
     ·have be0:(e==0)=false:=by simpa using he0
      have be1:(e==1)=false:=by simpa using he1
      by_cases hone:c= -1
      ·subst hone
       go_wp2_with (go_at_call 37;refine (hT0.byte 45 45 rfl (by first|omega|(simp only [List.length_append,List.length_cons,List.length_nil];omega))).mono ?_)
       intro r1 W1 hq
       first|(intro hT1;subst hq)|(obtain ⟨hq,hT1⟩:=hq;subst hq)
       have c01:=hT1.c0
       have c11:=hT1.c1
       go_wp2_with (go_at_call 38;refine (hT1.str name (by first|omega|(simp only [List.length_append,List.length_cons,List.length_nil];omega)) (by omega)).mono ?_)
       intro r2 W2 hq
       first|(intro hT2;subst hq)|(obtain ⟨hq,hT2⟩:=hq;subst hq)
       have c02:=hT2.c0
       have c12:=hT2.c1
       clear c01 c11
       go_wp2_with (go_at_call 37;refine (hT2.byte 94 94 rfl (by first|omega|(simp only [List.length_append,List.length_cons,List.length_nil];omega))).mono ?_)
       intro r3 W3 hq
       first|(intro hT3;subst hq)|(obtain ⟨hq,hT3⟩:=hq;subst hq)
       have c03:=hT3.c0
       have c13:=hT3.c1
       clear c02 c12
       go_wp2_with (go_at_call 39;refine (hT3.itoa hg e (by omega) (by omega)).mono ?_)
       intro r4 W4 hq
       first|(intro hT4;subst hq)|(obtain ⟨hq,hT4⟩:=hq;subst hq)
       have c04:=hT4.c0
       have c14:=hT4.c1
       clear c03 c13
       go_wp2_with (go_at_call 38;refine (hT4.str ⟨(Lib.itoa e).toArray⟩ (by first|omega|(simp only [List.length_append,List.length_cons,List.length_nil];omega)) (ybu (by omega) (by omega))).mono ?_)
       intro r5 W5 hq
       first|(intro hT5;subst hq)|(obtain ⟨hq,hT5⟩:=hq;subst hq)
       have c05:=hT5.c0
       have c15:=hT5.c1
       clear c04 c14
       go_wp2
       go_roundw
       case rel=>exact ybh hkl HE.out HV.out hT5 hL hnl hre (by simp [yb2,show¬(e=0) by omega,show¬(e=1) by omega]) rfl
       case measure=>simp [intOf];omega
      ·have hone: ¬ -c=1:=by omega
       go_wp2_with (go_at_call 37;refine (hT0.byte 45 45 rfl (by first|omega|(simp only [List.length_append,List.length_cons,List.length_nil];omega))).mono ?_)
       intro r1 W1 hq
       first|(intro hT1;subst hq)|(obtain ⟨hq,hT1⟩:=hq;subst hq)
       have c01:=hT1.c0
       have c11:=hT1.c1
       go_wp2_with (go_at_call 39;refine (hT1.itoa hg (-c) (by omega) (by omega)).mono ?_)
       intro r2 W2 hq
       first|(intro hT2;subst hq)|(obtain ⟨hq,hT2⟩:=hq;subst hq)
       have c02:=hT2.c0
       have c12:=hT2.c1
       clear c01 c11
       go_wp2_with (go_at_call 38;refine (hT2.str ⟨(Lib.itoa (-c)).toArray⟩ (by first|omega|(simp only [List.length_append,List.length_cons,List.length_nil];omega)) (ybu (by omega) (by omega))).mono ?_)
       intro r3 W3 hq
       first|(intro hT3;subst hq)|(obtain ⟨hq,hT3⟩:=hq;subst hq)
       have c03:=hT3.c0
       have c13:=hT3.c1
       clear c02 c12
       go_wp2_with (go_at_call 38;refine (hT3.str name (by first|omega|(simp only [List.length_append,List.length_cons,List.length_nil];omega)) (by omega)).mono ?_)
       intro r4 W4 hq
       first|(intro hT4;subst hq)|(obtain ⟨hq,hT4⟩:=hq;subst hq)
       have c04:=hT4.c0
       have c14:=hT4.c1
       clear c03 c13
       go_wp2_with (go_at_call 37;refine (hT4.byte 94 94 rfl (by first|omega|(simp only [List.length_append,List.length_cons,List.length_nil];omega))).mono ?_)
       intro r5 W5 hq
       first|(intro hT5;subst hq)|(obtain ⟨hq,hT5⟩:=hq;subst hq)
       have c05:=hT5.c0
       have c15:=hT5.c1
       clear c04 c14
       go_wp2_with (go_at_call 39;refine (hT5.itoa hg e (by omega) (by omega)).mono ?_)
       intro r6 W6 hq
       first|(intro hT6;subst hq)|(obtain ⟨hq,hT6⟩:=hq;subst hq)
       have c06:=hT6.c0
       have c16:=hT6.c1
       clear c05 c15
       go_wp2_with (go_at_call 38;refine (hT6.str ⟨(Lib.itoa e).toArray⟩ (by first|omega|(simp only [List.length_append,List.length_cons,List.length_nil];omega)) (ybu (by omega) (by omega))).mono ?_)
       intro r7 W7 hq
       first|(intro hT7;subst hq)|(obtain ⟨hq,hT7⟩:=hq;subst hq)
       have c07:=hT7.c0
       have c17:=hT7.c1
       clear c06 c16
       go_wp2
       go_roundw
       case rel=>exact ybh hkl HE.out HV.out hT7 hL hnl hre (by simp [yb2,show c<0 by omega,show¬(-c=1) by omega,show¬(e=0) by omega,show¬(e=1) by omega]) rfl
       case measure=>simp [intOf];omega
   ·by_cases hk0:0<k
    ·have bk0:decide ((0:Int)<(k:Int))=true:=by simp;omega
     by_cases he0:e=0
     ·subst he0
      by_cases hone:c=1
      ·subst hone
       go_wp2_with (go_at_call 37;refine (hT0.byte 43 43 rfl (by first|omega|(simp only [List.length_append,List.length_cons,List.length_nil];omega))).mono ?_)
       intro r1 W1 hq
       first|(intro hT1;subst hq)|(obtain ⟨hq,hT1⟩:=hq;subst hq)
       have c01:=hT1.c0
       have c11:=hT1.c1
       go_wp2_with (go_at_call 39;refine (hT1.itoa hg 1 (by omega) (by omega)).mono ?_)
       intro r2 W2 hq
       first|(intro hT2;subst hq)|(obtain ⟨hq,hT2⟩:=hq;subst hq)
       have c02:=hT2.c0
       have c12:=hT2.c1
       clear c01 c11
       go_wp2_with (go_at_call 38;refine (hT2.str ⟨(Lib.itoa 1).toArray⟩ (by first|omega|(simp only [List.length_append,List.length_cons,List.length_nil];omega)) (ybu (by omega) (by omega))).mono ?_)
       intro r3 W3 hq
       first|(intro hT3;subst hq)|(obtain ⟨hq,hT3⟩:=hq;subst hq)
       have c03:=hT3.c0
       have c13:=hT3.c1
       clear c02 c12
       go_wp2
       go_roundw
       case rel=>exact ybh hkl HE.out HV.out hT3 hL hnl hre (by simp [yb2,show 0<k by omega]) rfl
       case measure=>simp [intOf];omega
      ·have bone:(c==1)=false:=by simpa using hone
       go_wp2_with (go_at_call 37;refine (hT0.byte 43 43 rfl (by first|omega|(simp only [List.length_append,List.length_cons,List.length_nil];omega))).mono ?_)
       intro r1 W1 hq
       first|(intro hT1;subst hq)|(obtain ⟨hq,hT1⟩:=hq;subst hq)
       have c01:=hT1.c0
       have c11:=hT1.c1
       go_wp2_with (go_at_call 39;refine (hT1.itoa hg c (by omega) (by omega)).mono ?_)
       intro r2 W2 hq
       first|(intro hT2;subst hq)|(obtain ⟨hq,hT2⟩:=hq;subst hq)
       have c02:=hT2.c0
       have c12:=hT2.c1
       clear c01 c11
       go_wp2_with (go_at_call 38;refine (hT2.str ⟨(Lib.itoa c).toArray⟩ (by first|omega|(simp only [List.length_append,List.length_cons,List.length_nil];omega)) (ybu (by omega) (by omega))).mono ?_)
       intro r3 W3 hq
       first|(intro hT3;subst hq)|(obtain ⟨hq,hT3⟩:=hq;subst hq)
       have c03:=hT3.c0
       have c13:=hT3.c1
       clear c02 c12
       go_wp2
       go_roundw
       case rel=>exact ybh hkl HE.out HV.out hT3 hL hnl hre (by simp [yb2,show¬(c<0) by omega,show¬(c=1) by omega,show 0<k by omega]) rfl
       case measure=>simp [intOf];omega
     ·by_cases he1:e=1
      ·subst he1
       by_cases hone:c=1
       ·subst hone
        go_wp2_with (go_at_call 37;refine (hT0.byte 43 43 rfl (by first|omega|(simp only [List.length_append,List.length_cons,List.length_nil];omega))).mono ?_)
        intro r1 W1 hq
        first|(intro hT1;subst hq)|(obtain ⟨hq,hT1⟩:=hq;subst hq)
        have c01:=hT1.c0
        have c11:=hT1.c1
        go_wp2_with (go_at_call 38;refine (hT1.str name (by first|omega|(simp only [List.length_append,List.length_cons,List.length_nil];omega)) (by omega)).mono ?_)
        intro r2 W2 hq
        first|(intro hT2;subst hq)|(obtain ⟨hq,hT2⟩:=hq;subst hq)
        have c02:=hT2.c0
        have c12:=hT2.c1
        clear c01 c11
        go_wp2
        go_roundw
        case rel=>exact ybh hkl HE.out HV.out hT2 hL hnl hre (by simp [yb2,show 0<k by omega]) rfl
        case measure=>simp [intOf];omega
       ·have bone:(c==1)=false:=by simpa using hone
        go_wp2_with (go_at_call 37;refine (hT0.byte 43 43 rfl (by first|omega|(simp only [List.length_append,List.length_cons,List.length_nil];omega))).mono ?_)
        intro r1 W1 hq
        first|(intro hT1;subst hq)|(obtain ⟨hq,hT1⟩:=hq;subst hq)
        have c01:=hT1.c0
        have c11:=hT1.c1
        go_wp2_with (go_at_call 39;refine (hT1.itoa hg c (by omega) (by omega)).mono ?_)
        intro r2 W2 hq
        first|(intro hT2;subst hq)|(obtain ⟨hq,hT2⟩:=hq;subst hq)
        have c02:=hT2.c0
        have c12:=hT2.c1
        clear c01 c11
        go_wp2_with (go_at_call 38;refine (hT2.str ⟨(Lib.itoa c).toArray⟩ (by first|omega|(simp only [List.length_append,List.length_cons,List.length_nil];omega)) (ybu (by omega) (by omega))).mono ?_)
        intro r3 W3 hq
        first|(intro hT3;subst hq)|(obtain ⟨hq,hT3⟩:=hq;subst hq)
        have c03:=hT3.c0
        have c13:=hT3.c1
        clear c02 c12
        go_wp2_with (go_at_call 38;refine (hT3.str name (by first|omega|(simp only [List.length_append,List.length_cons,List.length_nil];omega)) (by omega)).mono ?_)
        intro r4 W4 hq
        first|(intro hT4;subst hq)|(obtain ⟨hq,hT4⟩:=hq;subst hq)
        have c04:=hT4.c0
        have c14:=hT4.c1
        clear c03 c13
        go_wp2
        go_roundw
        case rel=>exact ybh hkl HE.out HV.out hT4 hL hnl hre (by simp [yb2,show¬(c<0) by omega,show¬(c=1) by omega,show 0<k by omega]) rfl
        case measure=>simp [intOf];omega
      ·have be0:(e==0)=false:=by simpa using he0
       have be1:(e==1)=false:=by simpa using he1
       by_cases hone:c=1
       ·subst hone
        go_wp2_with (go_at_call 37;refine (hT0.byte 43 43 rfl (by first|omega|(simp only [List.length_append,List.length_cons,List.length_nil];omega))).mono ?_)
        intro r1 W1 hq
        first|(intro hT1;subst hq)|(obtain ⟨hq,hT1⟩:=hq;subst hq)
        have c01:=hT1.c0
        have c11:=hT1.c1
        go_wp2_with (go_at_call 38;refine (hT1.str name (by first|omega|(simp only [List.length_append,List.length_cons,List.length_nil];omega)) (by omega)).mono ?_)
        intro r2 W2 hq
        first|(intro hT2;subst hq)|(obtain ⟨hq,hT2⟩:=hq;subst hq)
        have c02:=hT2.c0
        have c12:=hT2.c1
        clear c01 c11
        go_wp2_with (go_at_call 37;refine (hT2.byte 94 94 rfl (by first|omega|(simp only [List.length_append,List.length_cons,List.length_nil];omega))).mono ?_)
        intro r3 W3 hq
        first|(intro hT3;subst hq)|(obtain ⟨hq,hT3⟩:=hq;subst hq)
        have c03:=hT3.c0
        have c13:=hT3.c1
        clear c02 c12
        go_wp2_with (go_at_call 39;refine (hT3.itoa hg e (by omega) (by omega)).mono ?_)
        intro r4 W4 hq
        first|(intro hT4;subst hq)|(obtain ⟨hq,hT4⟩:=hq;subst hq)
        have c04:=hT4.c0
        have c14:=hT4.c1
        clear c03 c13
        go_wp2_with (go_at_call 38;refine (hT4.str ⟨(Lib.itoa e).toArray⟩ (by first|omega|(simp only [List.length_append,List.length_cons,List.length_nil];omega)) (ybu (by omega) (by omega))).mono ?_)
        intro r5 W5 hq
        first|(intro hT5;subst hq)|(obtain ⟨hq,hT5⟩:=hq;subst hq)
        have c05:=hT5.c0
        have c15:=hT5.c1
        clear c04 c14
        go_wp2
        go_roundw
        case rel=>exact ybh hkl HE.out HV.out hT5 hL hnl hre (by simp [yb2,show 0<k by omega,show¬(e=0) by omega,show¬(e=1) by omega]) rfl
        case measure=>simp [intOf];omega
       ·have bone:(c==1)=false:=by simpa using hone
        go_wp2_with (go_at_call 37;refine (hT0.byte 43 43 rfl (by first|omega|(simp only [List.length_append,List.length_cons,List.length_nil];omega))).mono ?_)
        intro r1 W1 hq
        first|(intro hT1;subst hq)|(obtain ⟨hq,hT1⟩:=hq;subst hq)
        have c01:=hT1.c0
        have c11:=hT1.c1
        go_wp2_with (go_at_call 39;refine (hT1.itoa hg c (by omega) (by omega)).mono ?_)
        intro r2 W2 hq
        first|(intro hT2;subst hq)|(obtain ⟨hq,hT2⟩:=hq;subst hq)
        have c02:=hT2.c0
        have c12:=hT2.c1
        clear c01 c11
        go_wp2_with (go_at_call 38;refine (hT2.str ⟨(Lib.itoa c).toArray⟩ (by first|omega|(simp only [List.length_append,List.length_cons,List.length_nil];omega)) (ybu (by omega) (by omega))).mono ?_)
        intro r3 W3 hq
        first|(intro hT3;subst hq)|(obtain ⟨hq,hT3⟩:=hq;subst hq)
        have c03:=hT3.c0
        have c13:=hT3.c1
        clear c02 c12
        go_wp2_with (go_at_call 38;refine (hT3.str name (by first|omega|(simp only [List.length_append,List.length_cons,List.length_nil];omega)) (by omega)).mono ?_)
        intro r4 W4 hq
        first|(intro hT4;subst hq)|(obtain ⟨hq,hT4⟩:=hq;subst hq)
        have c04:=hT4.c0
        have c14:=hT4.c1
        clear c03 c13
        go_wp2_with (go_at_call 37;refine (hT4.byte 94 94 rfl (by first|omega|(simp only [List.length_append,List.length_cons,List.length_nil];omega))).mono ?_)
        intro r5 W5 hq
        first|(intro hT5;subst hq)|(obtain ⟨hq,hT5⟩:=hq;subst hq)
        have c05:=hT5.c0
        have c15:=hT5.c1
        clear c04 c14
        go_wp2_with (go_at_call 39;refine (hT5.itoa hg e (by omega) (by omega)).mono ?_)
        intro r6 W6 hq
        first|(intro hT6;subst hq)|(obtain ⟨hq,hT6⟩:=hq;subst hq)
        have c06:=hT6.c0
        have c16:=hT6.c1
        clear c05 c15
        go_wp2_with (go_at_call 38;refine (hT6.str ⟨(Lib.itoa e).toArray⟩ (by first|omega|(simp only [List.length_append,List.length_cons,List.length_nil];omega)) (ybu (by omega) (by omega))).mono ?_)
        intro r7 W7 hq
        first|(intro hT7;subst hq)|(obtain ⟨hq,hT7⟩:=hq;subst hq)
        have c07:=hT7.c0
        have c17:=hT7.c1
        clear c06 c16
        go_wp2
        go_roundw
        case rel=>exact ybh hkl HE.out HV.out hT7 hL hnl hre (by simp [yb2,show¬(c<0) by omega,show¬(c=1) by omega,show 0<k by omega,show¬(e=0) by omega,show¬(e=1) by omega]) rfl
        case measure=>simp [intOf];omega
    ·have bk0:decide ((0:Int)<(k:Int))=false:=by simp;omega
     by_cases he0:e=0
     ·subst he0
      by_cases hone:c=1
      ·subst hone
       go_wp2_with (go_at_call 39;refine (hT0.itoa hg 1 (by omega) (by omega)).mono ?_)
       intro r1 W1 hq
       first|(intro hT1;subst hq)|(obtain ⟨hq,hT1⟩:=hq;subst hq)
       have c01:=hT1.c0
       have c11:=hT1.c1
       go_wp2_with (go_at_call 38;refine (hT1.str ⟨(Lib.itoa 1).toArray⟩ (by first|omega|(simp only [List.length_append,List.length_cons,List.length_nil];omega)) (ybu (by omega) (by omega))).mono ?_)
       intro r2 W2 hq
       first|(intro hT2;subst hq)|(obtain ⟨hq,hT2⟩:=hq;subst hq)
       have c02:=hT2.c0
       have c12:=hT2.c1
       clear c01 c11
       go_wp2
       go_roundw
       case rel=>exact ybh hkl HE.out HV.out hT2 hL hnl hre (by simp [yb2,show¬(0<k) by omega]) rfl
       case measure=>simp [intOf];omega
      ·have bone:(c==1)=false:=by simpa using hone
       go_wp2_with (go_at_call 39;refine (hT0.itoa hg c (by omega) (by omega)).mono ?_)
       intro r1 W1 hq
       first|(intro hT1;subst hq)|(obtain ⟨hq,hT1⟩:=hq;subst hq)
       have c01:=hT1.c0
       have c11:=hT1.c1
       go_wp2_with (go_at_call 38;refine (hT1.str ⟨(Lib.itoa c).toArray⟩ (by first|omega|(simp only [List.length_append,List.length_cons,List.length_nil];omega)) (ybu (by omega) (by omega))).mono ?_)
       intro r2 W2 hq
       first|(intro hT2;subst hq)|(obtain ⟨hq,hT2⟩:=hq;subst hq)
       have c02:=hT2.c0
       have c12:=hT2.c1
       clear c01 c11
       go_wp2
       go_roundw
       case rel=>exact ybh hkl HE.out HV.out hT2 hL hnl hre (by simp [yb2,show¬(c<0) by omega,show¬(c=1) by omega,show¬(0<k) by omega]) rfl
       case measure=>simp [intOf];omega
     ·by_cases he1:e=1
      ·subst he1
       by_cases hone:c=1
       ·subst hone
        go_wp2_with (go_at_call 38;refine (hT0.str name (by first|omega|(simp only [List.length_append,List.length_cons,List.length_nil];omega)) (by omega)).mono ?_)
        intro r1 W1 hq
        first|(intro hT1;subst hq)|(obtain ⟨hq,hT1⟩:=hq;subst hq)
        have c01:=hT1.c0
        have c11:=hT1.c1
        go_wp2
        go_roundw
        case rel=>exact ybh hkl HE.out HV.out hT1 hL hnl hre (by simp [yb2,show¬(0<k) by omega]) rfl
        case measure=>simp [intOf];omega
       ·have bone:(c==1)=false:=by simpa using hone
        go_wp2_with (go_at_call 39;refine (hT0.itoa hg c (by omega) (by omega)).mono ?_)
        intro r1 W1 hq
        first|(intro hT1;subst hq)|(obtain ⟨hq,hT1⟩:=hq;subst hq)
        have c01:=hT1.c0
        have c11:=hT1.c1
        go_wp2_with (go_at_call 38;refine (hT1.str ⟨(Lib.itoa c).toArray⟩ (by first|omega|(simp only [List.length_append,List.length_cons,List.length_nil];omega)) (ybu (by omega) (by omega))).mono ?_)
        intro r2 W2 hq
        first|(intro hT2;subst hq)|(obtain ⟨hq,hT2⟩:=hq;subst hq)
        have c02:=hT2.c0
        have c12:=hT2.c1
        clear c01 c11
        go_wp2_with (go_at_call 38;refine (hT2.str name (by first|omega|(simp only [List.length_append,List.length_cons,List.length_nil];omega)) (by omega)).mono ?_)
        intro r3 W3 hq
        first|(intro hT3;subst hq)|(obtain ⟨hq,hT3⟩:=hq;subst hq)
        have c03:=hT3.c0
        have c13:=hT3.c1
        clear c02 c12
        go_wp2
        go_roundw
        case rel=>exact ybh hkl HE.out HV.out hT3 hL hnl hre (by simp [yb2,show¬(c<0) by omega,show¬(c=1) by omega,show¬(0<k) by omega]) rfl
        case measure=>simp [intOf];omega
      ·have be0:(e==0)=false:=by simpa using he0
       have be1:(e==1)=false:=by simpa using he1
       by_cases hone:c=1
       ·subst hone
        go_wp2_with (go_at_call 38;refine (hT0.str name (by first|omega|(simp only [List.length_append,List.length_cons,List.length_nil];omega)) (by omega)).mono ?_)
        intro r1 W1 hq
        first|(intro hT1;subst hq)|(obtain ⟨hq,hT1⟩:=hq;subst hq)
        have c01:=hT1.c0
        have c11:=hT1.c1
        go_wp2_with (go_at_call 37;refine (hT1.byte 94 94 rfl (by first|omega|(simp only [List.length_append,List.length_cons,List.length_nil];omega))).mono ?_)
        intro r2 W2 hq
        first|(intro hT2;subst hq)|(obtain ⟨hq,hT2⟩:=hq;subst hq)
        have c02:=hT2.c0
        have c12:=hT2.c1
        clear c01 c11
        go_wp2_with (go_at_call 39;refine (hT2.itoa hg e (by omega) (by omega)).mono ?_)
        intro r3 W3 hq
        first|(intro hT3;subst hq)|(obtain ⟨hq,hT3⟩:=hq;subst hq)
        have c03:=hT3.c0
        have c13:=hT3.c1
        clear c02 c12
        go_wp2_with (go_at_call 38;refine (hT3.str ⟨(Lib.itoa e).toArray⟩ (by first|omega|(simp only [List.length_append,List.length_cons,List.length_nil];omega)) (ybu (by omega) (by omega))).mono ?_)
        intro r4 W4 hq
        first|(intro hT4;subst hq)|(obtain ⟨hq,hT4⟩:=hq;subst hq)
        have c04:=hT4.c0
        have c14:=hT4.c1
        clear c03 c13
        go_wp2
        go_roundw
        case rel=>exact ybh hkl HE.out HV.out hT4 hL hnl hre (by simp [yb2,show¬(0<k) by omega,show¬(e=0) by omega,show¬(e=1) by omega]) rfl
        case measure=>simp [intOf];omega
       ·have bone:(c==1)=false:=by simpa using hone
        go_wp2_with (go_at_call 39;refine (hT0.itoa hg c (by omega) (by omega)).mono ?_)
        intro r1 W1 hq
        first|(intro hT1;subst hq)|(obtain ⟨hq,hT1⟩:=hq;subst hq)
        have c01:=hT1.c0
        have c11:=hT1.c1
        go_wp2_with (go_at_call 38;refine (hT1.str ⟨(Lib.itoa c).toArray⟩ (by first|omega|(simp only [List.length_append,List.length_cons,List.length_nil];omega)) (ybu (by omega) (by omega))).mono ?_)
        intro r2 W2 hq
        first|(intro hT2;subst hq)|(obtain ⟨hq,hT2⟩:=hq;subst hq)
        have c02:=hT2.c0
        have c12:=hT2.c1
        clear c01 c11
        go_wp2_with (go_at_call 38;refine (hT2.str name (by first|omega|(simp only [List.length_append,List.length_cons,List.length_nil];omega)) (by omega)).mono ?_)
        intro r3 W3 hq
        first|(intro hT3;subst hq)|(obtain ⟨hq,hT3⟩:=hq;subst hq)
        have c03:=hT3.c0
        have c13:=hT3.c1
        clear c02 c12
        go_wp2_with (go_at_call 37;refine (hT3.byte 94 94 rfl (by first|omega|(simp only [List.length_append,List.length_cons,List.length_nil];omega))).mono ?_)
        intro r4 W4 hq
        first|(intro hT4;subst hq)|(obtain ⟨hq,hT4⟩:=hq;subst hq)
        have c04:=hT4.c0
        have c14:=hT4.c1
        clear c03 c13
        go_wp2_with (go_at_call 39;refine (hT4.itoa hg e (by omega) (by omega)).mono ?_)
        intro r5 W5 hq
        first|(intro hT5;subst hq)|(obtain ⟨hq,hT5⟩:=hq;subst hq)
        have c05:=hT5.c0
        have c15:=hT5.c1
        clear c04 c14
        go_wp2_with (go_at_call 38;refine (hT5.str ⟨(Lib.itoa e).toArray⟩ (by first|omega|(simp only [List.length_append,List.length_cons,List.length_nil];omega)) (ybu (by omega) (by omega))).mono ?_)
        intro r6 W6 hq
        first|(intro hT6;subst hq)|(obtain ⟨hq,hT6⟩:=hq;subst hq)
        have c06:=hT6.c0
        have c16:=hT6.c1
        clear c05 c15
        go_wp2
        go_roundw
        case rel=>exact ybh hkl HE.out HV.out hT6 hL hnl hre (by simp [yb2,show¬(c<0) by omega,show¬(c=1) by omega,show¬(0<k) by omega,show¬(e=0) by omega,show¬(e=1) by omega]) rfl
        case measure=>simp [intOf];omega
  ·obtain rfl:k=p.length:=by omega
   go_wp2_with (go_at_call 40;refine (TS.string hI hb).mono ?_)
   rintro r W1 ⟨rfl,h1⟩
   go_wp2
   go_ret
   exact ⟨rfl,h1⟩
end Go.Proofs.YtjpnnnognoaaiaaDoor
