/- Layer 13: the text of a polynomial in two variables: the walk. -/
import Derived.Test.YtbblgobamoabkaaGreatDoorZy
import Derived.Lib.Hide
set_option linter.unusedSimpArgs false
set_option linter.unusedVariables false
namespace Go.Proofs.YtbblgobamoabkaaGreatDoor
open Go Go.RowKit Go.Shelf
set_option maxHeartbeats 8000000
set_option maxRecDepth 100000
theorem yfa {nm:List UInt8} {e:Int} (hn:nm.length<=1000) (h0: -4611686018427387904<=e) (h1:e<=4611686018427387904):(powT nm e).length<=1022:=by
 have h2:=ydq (n:=e) (by omega) (by omega)
 have l3:(if e=0 then ([]:List UInt8) else nm).length<=1000:=by
  split
  ·simp
  ·exact hn
 have l4:(if e=0\/e=1 then ([]:List UInt8) else 94::Lib.itoa e).length<=22:=by
  split
  ·simp
  ·simp;omega
 unfold powT
 rw [List.length_append]
 omega
theorem yok {n1 n2:List UInt8} {k:Nat} {x z c:Int} (hn1:n1.length<=1000) (hn2:n2.length<=1000) (hr:(-4611686018427387904<=x/\x<=4611686018427387904)/\(-4611686018427387904<=z/\z<=4611686018427387904)/\ -4611686018427387904<=c/\c<=4611686018427387904):(ycj n1 n2 k x z c).length<=3000:=by
 have h2:=ydq (n:=c) (by omega) (by omega)
 have h3:=ydq (n:=0-c) (by omega) (by omega)
 have h4:=yfa hn1 hr.1.1 hr.1.2
 have h5:=yfa hn2 hr.2.1.1 hr.2.1.2
 have l1:(if c<0 then [45] else if 0<k then [43] else ([]:List UInt8)).length<=1:=by
  split
  ·simp
  ·split<;>simp
 have l2:(if (if c<0 then 0-c else c)=1/\ ¬(x=0/\z=0) then ([]:List UInt8) else Lib.itoa (if c<0 then 0-c else c)).length<=21:=by
  by_cases hc0:c<0
  ·rw [if_pos hc0]
   split
   ·simp
   ·exact h3
  ·rw [if_neg hc0]
   split
   ·simp
   ·exact h2
 unfold ycj
 rw [List.length_append,List.length_append,List.length_append]
 omega
theorem TB.pow {w W:World} {b K:Nat} {x z c:Int} {acc:List UInt8} (h:TB w b K x z c acc W) (hg:Good w) (nm:ByteArray) (e:Int) (hn:nm.size<=1000) (hl:acc.length<=10000000000) (h0: -4611686018427387904<=e) (h1:e<=4611686018427387904):
  Calls Tryz.prog 37 #[.string nm, .int .i64 e, .pointer (some ⟨b,0,none⟩)] W fun r W'=>r= .returned (.tuple #[])/\TB w b K x z c (acc++powT nm.data.toList e) W':=by
 have hn':nm.data.toList.length<=1000:=hn
 have ie:=ydq (n:=e) (by omega) (by omega)
 by_cases he0:e=0
 ·subst he0
  have e1:acc++powT nm.data.toList 0=acc:=by simp [powT]
  rw [e1]
  go_enter Tryz.func37,Tryz.ntmps37
  go_wp2
  (try simp only [Exit.inBlock,Exit.then])
  refine bodyPost_ret (results_none rfl _ _ _) rfl ?_
  exact ⟨rfl,h⟩
 ·have be0:(e==0)=false:=by simpa using he0
  by_cases he1:e=1
  ·subst he1
   have e1:powT nm.data.toList 1=nm.data.toList:=by simp [powT]
   rw [e1]
   go_enter Tryz.func37,Tryz.ntmps37
   go_wp2_with (go_at_call 38;refine (h.str nm (by omega) (by omega)).mono ?_)
   intro r1 W1 hq
   first|(intro h1;subst hq)|(obtain ⟨hq,h1⟩:=hq;subst hq)
   go_wp2
   first|go_ret|go_end0|go_ret2
   exact ⟨rfl,h1⟩
  ·have be1:(e==1)=false:=by simpa using he1
   have e1:acc++powT nm.data.toList e=((acc++nm.data.toList)++[94])++(⟨(Lib.itoa e).toArray⟩:ByteArray).data.toList:=by simp [powT,he0,he1]
   rw [e1]
   go_enter Tryz.func37,Tryz.ntmps37
   go_wp2_with (go_at_call 38;refine (h.str nm (by omega) (by omega)).mono ?_)
   intro r1 W1 hq
   first|(intro h1;subst hq)|(obtain ⟨hq,h1⟩:=hq;subst hq)
   go_wp2_with (go_at_call 39;refine (h1.byte 94 94 rfl (by simp only [List.length_append];omega)).mono ?_)
   intro r2 W2 hq
   first|(intro h2;subst hq)|(obtain ⟨hq,h2⟩:=hq;subst hq)
   go_wp2_with (go_at_call 40;refine (h2.itoa hg e (by omega) (by omega)).mono ?_)
   intro r3 W3 hq
   first|(intro h3;subst hq)|(obtain ⟨hq,h3⟩:=hq;subst hq)
   go_wp2_with (go_at_call 38;refine (h3.str ⟨(Lib.itoa e).toArray⟩ (by simp only [List.length_append,List.length_cons,List.length_nil];omega) (ye9 (by omega) (by omega))).mono ?_)
   intro r4 W4 hq
   first|(intro h4;subst hq)|(obtain ⟨hq,h4⟩:=hq;subst hq)
   go_wp2
   first|go_ret|go_end0|go_ret2
   exact ⟨rfl,by simpa using h4⟩
theorem yb1 {p:List (Int×Int)} {n1 n2:List UInt8} {w W:World} {k K:Nat} {x z c:Int} {acc:List UInt8} {v:Value} (hkl:k<p.length) (hx:bvA (p.getD k (0,0)).1=x) (hz:bvZ (p.getD k (0,0)).1=z) (hc:(p.getD k (0,0)).2=c)
  (hT:TB w (w.heap.size+1) K x z c acc W) (hL:(yb2 n1 n2 p k).length<=k*3000) (hn1:n1.length<=1000) (hn2:n2.length<=1000)
  (hr:(-4611686018427387904<=x/\x<=4611686018427387904)/\(-4611686018427387904<=z/\z<=4611686018427387904)/\ -4611686018427387904<=c/\c<=4611686018427387904) (hacc:acc=yb2 n1 n2 p k++ycj n1 n2 k x z c) (hv:v= .int .i64 ((k:Int)+1)):
  ∃k:Nat,k<=p.length/\v= .int .i64 k/\Lib.IsBuilderF 74 5 w.heap.size (w.heap.size+1) (Lib.byteCells (yb2 n1 n2 p k)) W/\Below w.heap.size w W/\(yb2 n1 n2 p k).length<=k*3000/\w.heap.size+1<W.heap.size:=by
 have e1:yb2 n1 n2 p (k+1)=acc:=by rw [hacc];show yb2 n1 n2 p k++ycj n1 n2 k (bvA (p.getD k (0,0)).1) (bvZ (p.getD k (0,0)).1) (p.getD k (0,0)).2=_;rw [hx,hz,hc]
 have hlt:w.heap.size+1<W.heap.size:=by
  rcases hT.bld with h|h
  ·exact h.lt
  ·exact h.lt
 refine ⟨k+1,by omega,?_,by rw [e1];exact hT.bld,hT.bel,?_,hlt⟩
 ·rw [hv];simp
 ·rw [e1,hacc,List.length_append]
  have:=yok (k:=k) hn1 hn2 hr
  omega
theorem yvf (p:List (Int×Int)) (n1 n2:ByteArray) (a:Addr) (cap:Nat) (w:World) (hp0:0<p.length) (hg:Good w) (ha:a.block<w.heap.size)
  (hc: ∀k,k<p.length->w.cell? (a.add (k*3))=some (.int .i64 (bvA (p.getD k (0,0)).1))/\w.cell? (a.add (k*3+1))=some (.int .i64 (bvZ (p.getD k (0,0)).1))/\w.cell? (a.add (k*3+2))=some (.int .i64 (p.getD k (0,0)).2))
  (hr: ∀k,k<p.length->(-4611686018427387904<=bvA (p.getD k (0,0)).1/\bvA (p.getD k (0,0)).1<=4611686018427387904)/\(-4611686018427387904<=bvZ (p.getD k (0,0)).1/\bvZ (p.getD k (0,0)).1<=4611686018427387904)/\ -4611686018427387904<=(p.getD k (0,0)).2/\(p.getD k (0,0)).2<=4611686018427387904)
  (hn1:n1.size<=1000) (hn2:n2.size<=1000) (hpl:p.length<=1000000):
  Calls Tryz.prog 12 #[.agg #[.bool false, .slice (some a) p.length cap], .string n1, .string n2] w fun e w'=>e= .returned (.string ⟨(yb2 n1.data.toList n2.data.toList p p.length).toArray⟩)/\Below w.heap.size w w':=by
 have hl0:((p.length:Int)==0)=false:=by simp;intro h;rw [h] at hp0;simp at hp0
 have hnl1:n1.data.toList.length<=1000:=hn1
 have hnl2:n2.data.toList.length<=1000:=hn2
 have HC:=Lib.hid hc
 have HR:=Lib.hid hr
 clear hc hr
 go_enter Tryz.func12,Tryz.ntmps12
 go_wp2
 go_loopw [24] (fun i wr=> ∃k:Nat,k<=p.length/\i= .int .i64 k/\Lib.IsBuilderF 74 5 w.heap.size (w.heap.size+1) (Lib.byteCells (yb2 n1.data.toList n2.data.toList p k)) wr/\Below w.heap.size w wr/\(yb2 n1.data.toList n2.data.toList p k).length<=k*3000/\w.heap.size+1<wr.heap.size) (fun i _=>p.length-(intOf i).toNat)
 case atStart=>
  have h:=yve w (.cells #[.bool false, .slice (some a) p.length cap] 29)
  exact ⟨0,Nat.zero_le _,rfl,h.1,h.2.1,Nat.zero_le _,h.2.2⟩
 case round=>
  obtain ⟨k,hk,rfl,hI,hb,hL,hz⟩:=hrel
  by_cases hkl:k<p.length
  ·have hce:=HC.out k hkl
   have hre:=HR.out k hkl
   obtain ⟨x,hx⟩: ∃x,bvA (p.getD k (0,0)).1=x:=⟨_,rfl⟩
   obtain ⟨z,hz'⟩: ∃z,bvZ (p.getD k (0,0)).1=z:=⟨_,rfl⟩
   obtain ⟨c,hcv⟩: ∃c,(p.getD k (0,0)).2=c:=⟨_,rfl⟩
   rw [hx,hz',hcv] at hre hce
   have HX:=Lib.hid hx
   have HZ:=Lib.hid hz'
   have HV:=Lib.hid hcv
   clear hx hz' hcv
   have g0:wr.cell? (a.add (k*3))=some (.int .i64 x):=by rw [hb.cell (by rw [addB];exact ha)];exact hce.1
   have g1:wr.cell? ⟨(a.add (k*3)).block,(a.add (k*3)).off+1,none⟩=some (.int .i64 z):=by
    show wr.cell? ((a.add (k*3)).add 1)=_
    rw [hb.cell (by rw [addB,addB];exact ha),adds];exact hce.2.1
   have g2:wr.cell? ⟨(a.add (k*3)).block,(a.add (k*3)).off+2,none⟩=some (.int .i64 c):=by
    show wr.cell? ((a.add (k*3)).add 2)=_
    rw [hb.cell (by rw [addB,addB];exact ha),adds];exact hce.2.2
   clear hce
   have hT0:TB w (w.heap.size+1) wr.heap.size x z c (yb2 n1.data.toList n2.data.toList p k) (wr.alloc (.cells #[.int .i64 x, .int .i64 z, .int .i64 c] 66)):=⟨hI.alloc _,yra wr _,by omega,hb.alloc (by omega) _⟩
   have c00:=hT0.c0
   have c10:=hT0.c1
   have c20:=hT0.c2
   have ic:=ydq (n:=c) (by omega) (by omega)
   have id:=ydq (n:= -c) (by omega) (by omega)
   have i1:=ydq (n:=1) (by omega) (by omega)
   have lx:=yfa hnl1 hre.1.1 hre.1.2
   have lz:=yfa hnl2 hre.2.1.1 hre.2.1.2
   by_cases hneg:c<0
   ·have hk0:True:=trivial
    by_cases hone:c= -1
    ·subst hone
     by_cases hx0:x=0
     ·by_cases hz0:z=0
      ·subst hx0 hz0
       go_wp2_with (go_at_call 39;refine (hT0.byte 45 45 rfl (by first|omega|(simp only [List.length_append,List.length_cons,List.length_nil];omega))).mono ?_)
       intro r1 W1 hq
       first|(intro hT1;subst hq)|(obtain ⟨hq,hT1⟩:=hq;subst hq)
       have c01:=hT1.c0
       have c11:=hT1.c1
       have c21:=hT1.c2
       clear c00 c10 c20
       go_wp2_with (go_at_call 40;refine (hT1.itoa hg 1 (by omega) (by omega)).mono ?_)
       intro r2 W2 hq
       first|(intro hT2;subst hq)|(obtain ⟨hq,hT2⟩:=hq;subst hq)
       have c02:=hT2.c0
       have c12:=hT2.c1
       have c22:=hT2.c2
       clear c01 c11 c21
       go_wp2_with (go_at_call 38;refine (hT2.str ⟨(Lib.itoa 1).toArray⟩ (by first|omega|(simp only [List.length_append,List.length_cons,List.length_nil];omega)) (ye9 (by omega) (by omega))).mono ?_)
       intro r3 W3 hq
       first|(intro hT3;subst hq)|(obtain ⟨hq,hT3⟩:=hq;subst hq)
       have c03:=hT3.c0
       have c13:=hT3.c1
       have c23:=hT3.c2
       clear c02 c12 c22
       go_wp2_with (go_at_call 37;refine (hT3.pow hg n1 0 hn1 (by first|omega|(simp only [List.length_append,List.length_cons,List.length_nil];omega)) hre.1.1 hre.1.2).mono ?_)
       intro r4 W4 hq
       first|(intro hT4;subst hq)|(obtain ⟨hq,hT4⟩:=hq;subst hq)
       have c04:=hT4.c0
       have c14:=hT4.c1
       have c24:=hT4.c2
       clear c03 c13 c23
       go_wp2_with (go_at_call 37;refine (hT4.pow hg n2 0 hn2 (by first|omega|(simp only [List.length_append,List.length_cons,List.length_nil];omega)) hre.2.1.1 hre.2.1.2).mono ?_)
       intro r5 W5 hq
       first|(intro hT5;subst hq)|(obtain ⟨hq,hT5⟩:=hq;subst hq)
       have c05:=hT5.c0
       have c15:=hT5.c1
       have c25:=hT5.c2
       clear c04 c14 c24
       go_wp2
       go_roundw
       case rel=>exact yb1 hkl HX.out HZ.out HV.out hT5 hL hnl1 hnl2 hre (by simp [ycj]) rfl
       case measure=>simp [intOf];omega
      ·have bz:(z==0)=false:=by simpa using hz0
       subst hx0
       have hxz:z≠0:=hz0
       go_wp2_with (go_at_call 39;refine (hT0.byte 45 45 rfl (by first|omega|(simp only [List.length_append,List.length_cons,List.length_nil];omega))).mono ?_)
       intro r1 W1 hq
       first|(intro hT1;subst hq)|(obtain ⟨hq,hT1⟩:=hq;subst hq)
       have c01:=hT1.c0
       have c11:=hT1.c1
       have c21:=hT1.c2
       clear c00 c10 c20
       go_wp2_with (go_at_call 37;refine (hT1.pow hg n1 0 hn1 (by first|omega|(simp only [List.length_append,List.length_cons,List.length_nil];omega)) hre.1.1 hre.1.2).mono ?_)
       intro r2 W2 hq
       first|(intro hT2;subst hq)|(obtain ⟨hq,hT2⟩:=hq;subst hq)
       have c02:=hT2.c0
       have c12:=hT2.c1
       have c22:=hT2.c2
       clear c01 c11 c21
       go_wp2_with (go_at_call 37;refine (hT2.pow hg n2 z hn2 (by first|omega|(simp only [List.length_append,List.length_cons,List.length_nil];omega)) hre.2.1.1 hre.2.1.2).mono ?_)
       intro r3 W3 hq
       first|(intro hT3;subst hq)|(obtain ⟨hq,hT3⟩:=hq;subst hq)
       have c03:=hT3.c0
       have c13:=hT3.c1
       have c23:=hT3.c2
       clear c02 c12 c22
       go_wp2
       go_roundw
       case rel=>exact yb1 hkl HX.out HZ.out HV.out hT3 hL hnl1 hnl2 hre (by simp [ycj,hxz]) rfl
       case measure=>simp [intOf];omega
     ·have bx:(x==0)=false:=by simpa using hx0
      have hxz:x≠0:=hx0
      go_wp2_with (go_at_call 39;refine (hT0.byte 45 45 rfl (by first|omega|(simp only [List.length_append,List.length_cons,List.length_nil];omega))).mono ?_)
      intro r1 W1 hq
      first|(intro hT1;subst hq)|(obtain ⟨hq,hT1⟩:=hq;subst hq)
      have c01:=hT1.c0
      have c11:=hT1.c1
      have c21:=hT1.c2
      clear c00 c10 c20
      go_wp2_with (go_at_call 37;refine (hT1.pow hg n1 x hn1 (by first|omega|(simp only [List.length_append,List.length_cons,List.length_nil];omega)) hre.1.1 hre.1.2).mono ?_)
      intro r2 W2 hq
      first|(intro hT2;subst hq)|(obtain ⟨hq,hT2⟩:=hq;subst hq)
      have c02:=hT2.c0
      have c12:=hT2.c1
      have c22:=hT2.c2
      clear c01 c11 c21
      go_wp2_with (go_at_call 37;refine (hT2.pow hg n2 z hn2 (by first|omega|(simp only [List.length_append,List.length_cons,List.length_nil];omega)) hre.2.1.1 hre.2.1.2).mono ?_)
      intro r3 W3 hq
      first|(intro hT3;subst hq)|(obtain ⟨hq,hT3⟩:=hq;subst hq)
      have c03:=hT3.c0
      have c13:=hT3.c1
      have c23:=hT3.c2
      clear c02 c12 c22
      go_wp2
      go_roundw
      case rel=>exact yb1 hkl HX.out HZ.out HV.out hT3 hL hnl1 hnl2 hre (by simp [ycj,hxz]) rfl
      case measure=>simp [intOf];omega
    ·have hone: ¬ -c=1:=by omega
     go_wp2_with (go_at_call 39;refine (hT0.byte 45 45 rfl (by first|omega|(simp only [List.length_append,List.length_cons,List.length_nil];omega))).mono ?_)
     intro r1 W1 hq
     first|(intro hT1;subst hq)|(obtain ⟨hq,hT1⟩:=hq;subst hq)
     have c01:=hT1.c0
     have c11:=hT1.c1
     have c21:=hT1.c2
     clear c00 c10 c20
     go_wp2_with (go_at_call 40;refine (hT1.itoa hg (-c) (by omega) (by omega)).mono ?_)
     intro r2 W2 hq
     first|(intro hT2;subst hq)|(obtain ⟨hq,hT2⟩:=hq;subst hq)
     have c02:=hT2.c0
     have c12:=hT2.c1
     have c22:=hT2.c2
     clear c01 c11 c21
     go_wp2_with (go_at_call 38;refine (hT2.str ⟨(Lib.itoa (-c)).toArray⟩ (by first|omega|(simp only [List.length_append,List.length_cons,List.length_nil];omega)) (ye9 (by omega) (by omega))).mono ?_)
     intro r3 W3 hq
     first|(intro hT3;subst hq)|(obtain ⟨hq,hT3⟩:=hq;subst hq)
     have c03:=hT3.c0
     have c13:=hT3.c1
     have c23:=hT3.c2
     clear c02 c12 c22
     go_wp2_with (go_at_call 37;refine (hT3.pow hg n1 x hn1 (by first|omega|(simp only [List.length_append,List.length_cons,List.length_nil];omega)) hre.1.1 hre.1.2).mono ?_)
     intro r4 W4 hq
     first|(intro hT4;subst hq)|(obtain ⟨hq,hT4⟩:=hq;subst hq)
     have c04:=hT4.c0
     have c14:=hT4.c1
     have c24:=hT4.c2
     clear c03 c13 c23
     go_wp2_with (go_at_call 37;refine (hT4.pow hg n2 z hn2 (by first|omega|(simp only [List.length_append,List.length_cons,List.length_nil];omega)) hre.2.1.1 hre.2.1.2).mono ?_)
     intro r5 W5 hq
     first|(intro hT5;subst hq)|(obtain ⟨hq,hT5⟩:=hq;subst hq)
     have c05:=hT5.c0
     have c15:=hT5.c1
     have c25:=hT5.c2
     clear c04 c14 c24
     go_wp2
     go_roundw
     case rel=>exact yb1 hkl HX.out HZ.out HV.out hT5 hL hnl1 hnl2 hre (by simp [ycj,show c<0 by omega,show¬(-c=1) by omega]) rfl
     case measure=>simp [intOf];omega
   ·by_cases hk0:0<k
    ·have bk0:decide ((0:Int)<(k:Int))=true:=by simp;omega
     by_cases hone:c=1
     ·subst hone
      by_cases hx0:x=0
      ·by_cases hz0:z=0
       ·subst hx0 hz0
        go_wp2_with (go_at_call 39;refine (hT0.byte 43 43 rfl (by first|omega|(simp only [List.length_append,List.length_cons,List.length_nil];omega))).mono ?_)
        intro r1 W1 hq
        first|(intro hT1;subst hq)|(obtain ⟨hq,hT1⟩:=hq;subst hq)
        have c01:=hT1.c0
        have c11:=hT1.c1
        have c21:=hT1.c2
        clear c00 c10 c20
        go_wp2_with (go_at_call 40;refine (hT1.itoa hg 1 (by omega) (by omega)).mono ?_)
        intro r2 W2 hq
        first|(intro hT2;subst hq)|(obtain ⟨hq,hT2⟩:=hq;subst hq)
        have c02:=hT2.c0
        have c12:=hT2.c1
        have c22:=hT2.c2
        clear c01 c11 c21
        go_wp2_with (go_at_call 38;refine (hT2.str ⟨(Lib.itoa 1).toArray⟩ (by first|omega|(simp only [List.length_append,List.length_cons,List.length_nil];omega)) (ye9 (by omega) (by omega))).mono ?_)
        intro r3 W3 hq
        first|(intro hT3;subst hq)|(obtain ⟨hq,hT3⟩:=hq;subst hq)
        have c03:=hT3.c0
        have c13:=hT3.c1
        have c23:=hT3.c2
        clear c02 c12 c22
        go_wp2_with (go_at_call 37;refine (hT3.pow hg n1 0 hn1 (by first|omega|(simp only [List.length_append,List.length_cons,List.length_nil];omega)) hre.1.1 hre.1.2).mono ?_)
        intro r4 W4 hq
        first|(intro hT4;subst hq)|(obtain ⟨hq,hT4⟩:=hq;subst hq)
        have c04:=hT4.c0
        have c14:=hT4.c1
        have c24:=hT4.c2
        clear c03 c13 c23
        go_wp2_with (go_at_call 37;refine (hT4.pow hg n2 0 hn2 (by first|omega|(simp only [List.length_append,List.length_cons,List.length_nil];omega)) hre.2.1.1 hre.2.1.2).mono ?_)
        intro r5 W5 hq
        first|(intro hT5;subst hq)|(obtain ⟨hq,hT5⟩:=hq;subst hq)
        have c05:=hT5.c0
        have c15:=hT5.c1
        have c25:=hT5.c2
        clear c04 c14 c24
        go_wp2
        go_roundw
        case rel=>exact yb1 hkl HX.out HZ.out HV.out hT5 hL hnl1 hnl2 hre (by simp [ycj,show 0<k by omega]) rfl
        case measure=>simp [intOf];omega
       ·have bz:(z==0)=false:=by simpa using hz0
        subst hx0
        have hxz:z≠0:=hz0
        go_wp2_with (go_at_call 39;refine (hT0.byte 43 43 rfl (by first|omega|(simp only [List.length_append,List.length_cons,List.length_nil];omega))).mono ?_)
        intro r1 W1 hq
        first|(intro hT1;subst hq)|(obtain ⟨hq,hT1⟩:=hq;subst hq)
        have c01:=hT1.c0
        have c11:=hT1.c1
        have c21:=hT1.c2
        clear c00 c10 c20
        go_wp2_with (go_at_call 37;refine (hT1.pow hg n1 0 hn1 (by first|omega|(simp only [List.length_append,List.length_cons,List.length_nil];omega)) hre.1.1 hre.1.2).mono ?_)
        intro r2 W2 hq
        first|(intro hT2;subst hq)|(obtain ⟨hq,hT2⟩:=hq;subst hq)
        have c02:=hT2.c0
        have c12:=hT2.c1
        have c22:=hT2.c2
        clear c01 c11 c21
        go_wp2_with (go_at_call 37;refine (hT2.pow hg n2 z hn2 (by first|omega|(simp only [List.length_append,List.length_cons,List.length_nil];omega)) hre.2.1.1 hre.2.1.2).mono ?_)
        intro r3 W3 hq
        first|(intro hT3;subst hq)|(obtain ⟨hq,hT3⟩:=hq;subst hq)
        have c03:=hT3.c0
        have c13:=hT3.c1
        have c23:=hT3.c2
        clear c02 c12 c22
        go_wp2
        go_roundw
        case rel=>exact yb1 hkl HX.out HZ.out HV.out hT3 hL hnl1 hnl2 hre (by simp [ycj,show 0<k by omega,hxz]) rfl
        case measure=>simp [intOf];omega
      ·have bx:(x==0)=false:=by simpa using hx0
       have hxz:x≠0:=hx0
       go_wp2_with (go_at_call 39;refine (hT0.byte 43 43 rfl (by first|omega|(simp only [List.length_append,List.length_cons,List.length_nil];omega))).mono ?_)
       intro r1 W1 hq
       first|(intro hT1;subst hq)|(obtain ⟨hq,hT1⟩:=hq;subst hq)
       have c01:=hT1.c0
       have c11:=hT1.c1
       have c21:=hT1.c2
       clear c00 c10 c20
       go_wp2_with (go_at_call 37;refine (hT1.pow hg n1 x hn1 (by first|omega|(simp only [List.length_append,List.length_cons,List.length_nil];omega)) hre.1.1 hre.1.2).mono ?_)
       intro r2 W2 hq
       first|(intro hT2;subst hq)|(obtain ⟨hq,hT2⟩:=hq;subst hq)
       have c02:=hT2.c0
       have c12:=hT2.c1
       have c22:=hT2.c2
       clear c01 c11 c21
       go_wp2_with (go_at_call 37;refine (hT2.pow hg n2 z hn2 (by first|omega|(simp only [List.length_append,List.length_cons,List.length_nil];omega)) hre.2.1.1 hre.2.1.2).mono ?_)
       intro r3 W3 hq
       first|(intro hT3;subst hq)|(obtain ⟨hq,hT3⟩:=hq;subst hq)
       have c03:=hT3.c0
       have c13:=hT3.c1
       have c23:=hT3.c2
       clear c02 c12 c22
       go_wp2
       go_roundw
       case rel=>exact yb1 hkl HX.out HZ.out HV.out hT3 hL hnl1 hnl2 hre (by simp [ycj,show 0<k by omega,hxz]) rfl
       case measure=>simp [intOf];omega
     ·have bone:(c==1)=false:=by simpa using hone
      go_wp2_with (go_at_call 39;refine (hT0.byte 43 43 rfl (by first|omega|(simp only [List.length_append,List.length_cons,List.length_nil];omega))).mono ?_)
      intro r1 W1 hq
      first|(intro hT1;subst hq)|(obtain ⟨hq,hT1⟩:=hq;subst hq)
      have c01:=hT1.c0
      have c11:=hT1.c1
      have c21:=hT1.c2
      clear c00 c10 c20
      go_wp2_with (go_at_call 40;refine (hT1.itoa hg c (by omega) (by omega)).mono ?_)
      intro r2 W2 hq
      first|(intro hT2;subst hq)|(obtain ⟨hq,hT2⟩:=hq;subst hq)
      have c02:=hT2.c0
      have c12:=hT2.c1
      have c22:=hT2.c2
      clear c01 c11 c21
      go_wp2_with (go_at_call 38;refine (hT2.str ⟨(Lib.itoa c).toArray⟩ (by first|omega|(simp only [List.length_append,List.length_cons,List.length_nil];omega)) (ye9 (by omega) (by omega))).mono ?_)
      intro r3 W3 hq
      first|(intro hT3;subst hq)|(obtain ⟨hq,hT3⟩:=hq;subst hq)
      have c03:=hT3.c0
      have c13:=hT3.c1
      have c23:=hT3.c2
      clear c02 c12 c22
      go_wp2_with (go_at_call 37;refine (hT3.pow hg n1 x hn1 (by first|omega|(simp only [List.length_append,List.length_cons,List.length_nil];omega)) hre.1.1 hre.1.2).mono ?_)
      intro r4 W4 hq
      first|(intro hT4;subst hq)|(obtain ⟨hq,hT4⟩:=hq;subst hq)
      have c04:=hT4.c0
      have c14:=hT4.c1
      have c24:=hT4.c2
      clear c03 c13 c23
      go_wp2_with (go_at_call 37;refine (hT4.pow hg n2 z hn2 (by first|omega|(simp only [List.length_append,List.length_cons,List.length_nil];omega)) hre.2.1.1 hre.2.1.2).mono ?_)
      intro r5 W5 hq
      first|(intro hT5;subst hq)|(obtain ⟨hq,hT5⟩:=hq;subst hq)
      have c05:=hT5.c0
      have c15:=hT5.c1
      have c25:=hT5.c2
      clear c04 c14 c24
      go_wp2
      go_roundw
      case rel=>exact yb1 hkl HX.out HZ.out HV.out hT5 hL hnl1 hnl2 hre (by simp [ycj,show¬(c<0) by omega,show¬(c=1) by omega,show 0<k by omega]) rfl
      case measure=>simp [intOf];omega
    ·have bk0:decide ((0:Int)<(k:Int))=false:=by simp;omega
     by_cases hone:c=1
     ·subst hone
      by_cases hx0:x=0
      ·by_cases hz0:z=0
       ·subst hx0 hz0
        go_wp2_with (go_at_call 40;refine (hT0.itoa hg 1 (by omega) (by omega)).mono ?_)
        intro r1 W1 hq
        first|(intro hT1;subst hq)|(obtain ⟨hq,hT1⟩:=hq;subst hq)
        have c01:=hT1.c0
        have c11:=hT1.c1
        have c21:=hT1.c2
        clear c00 c10 c20
        go_wp2_with (go_at_call 38;refine (hT1.str ⟨(Lib.itoa 1).toArray⟩ (by first|omega|(simp only [List.length_append,List.length_cons,List.length_nil];omega)) (ye9 (by omega) (by omega))).mono ?_)
        intro r2 W2 hq
        first|(intro hT2;subst hq)|(obtain ⟨hq,hT2⟩:=hq;subst hq)
        have c02:=hT2.c0
        have c12:=hT2.c1
        have c22:=hT2.c2
        clear c01 c11 c21
        go_wp2_with (go_at_call 37;refine (hT2.pow hg n1 0 hn1 (by first|omega|(simp only [List.length_append,List.length_cons,List.length_nil];omega)) hre.1.1 hre.1.2).mono ?_)
        intro r3 W3 hq
        first|(intro hT3;subst hq)|(obtain ⟨hq,hT3⟩:=hq;subst hq)
        have c03:=hT3.c0
        have c13:=hT3.c1
        have c23:=hT3.c2
        clear c02 c12 c22
        go_wp2_with (go_at_call 37;refine (hT3.pow hg n2 0 hn2 (by first|omega|(simp only [List.length_append,List.length_cons,List.length_nil];omega)) hre.2.1.1 hre.2.1.2).mono ?_)
        intro r4 W4 hq
        first|(intro hT4;subst hq)|(obtain ⟨hq,hT4⟩:=hq;subst hq)
        have c04:=hT4.c0
        have c14:=hT4.c1
        have c24:=hT4.c2
        clear c03 c13 c23
        go_wp2
        go_roundw
        case rel=>exact yb1 hkl HX.out HZ.out HV.out hT4 hL hnl1 hnl2 hre (by simp [ycj,show¬(0<k) by omega]) rfl
        case measure=>simp [intOf];omega
       ·have bz:(z==0)=false:=by simpa using hz0
        subst hx0
        have hxz:z≠0:=hz0
        go_wp2_with (go_at_call 37;refine (hT0.pow hg n1 0 hn1 (by first|omega|(simp only [List.length_append,List.length_cons,List.length_nil];omega)) hre.1.1 hre.1.2).mono ?_)
        intro r1 W1 hq
        first|(intro hT1;subst hq)|(obtain ⟨hq,hT1⟩:=hq;subst hq)
        have c01:=hT1.c0
        have c11:=hT1.c1
        have c21:=hT1.c2
        clear c00 c10 c20
        go_wp2_with (go_at_call 37;refine (hT1.pow hg n2 z hn2 (by first|omega|(simp only [List.length_append,List.length_cons,List.length_nil];omega)) hre.2.1.1 hre.2.1.2).mono ?_)
        intro r2 W2 hq
        first|(intro hT2;subst hq)|(obtain ⟨hq,hT2⟩:=hq;subst hq)
        have c02:=hT2.c0
        have c12:=hT2.c1
        have c22:=hT2.c2
        clear c01 c11 c21
        go_wp2
        go_roundw
        case rel=>exact yb1 hkl HX.out HZ.out HV.out hT2 hL hnl1 hnl2 hre (by simp [ycj,show¬(0<k) by omega,hxz]) rfl
        case measure=>simp [intOf];omega
      ·have bx:(x==0)=false:=by simpa using hx0
       have hxz:x≠0:=hx0
       go_wp2_with (go_at_call 37;refine (hT0.pow hg n1 x hn1 (by first|omega|(simp only [List.length_append,List.length_cons,List.length_nil];omega)) hre.1.1 hre.1.2).mono ?_)
       intro r1 W1 hq
       first|(intro hT1;subst hq)|(obtain ⟨hq,hT1⟩:=hq;subst hq)
       have c01:=hT1.c0
       have c11:=hT1.c1
       have c21:=hT1.c2
       clear c00 c10 c20
       go_wp2_with (go_at_call 37;refine (hT1.pow hg n2 z hn2 (by first|omega|(simp only [List.length_append,List.length_cons,List.length_nil];omega)) hre.2.1.1 hre.2.1.2).mono ?_)
       intro r2 W2 hq
       first|(intro hT2;subst hq)|(obtain ⟨hq,hT2⟩:=hq;subst hq)
       have c02:=hT2.c0
       have c12:=hT2.c1
       have c22:=hT2.c2
       clear c01 c11 c21
       go_wp2
       go_roundw
       case rel=>exact yb1 hkl HX.out HZ.out HV.out hT2 hL hnl1 hnl2 hre (by simp [ycj,show¬(0<k) by omega,hxz]) rfl
       case measure=>simp [intOf];omega
     ·have bone:(c==1)=false:=by simpa using hone
      go_wp2_with (go_at_call 40;refine (hT0.itoa hg c (by omega) (by omega)).mono ?_)
      intro r1 W1 hq
      first|(intro hT1;subst hq)|(obtain ⟨hq,hT1⟩:=hq;subst hq)
      have c01:=hT1.c0
      have c11:=hT1.c1
      have c21:=hT1.c2
      clear c00 c10 c20
      go_wp2_with (go_at_call 38;refine (hT1.str ⟨(Lib.itoa c).toArray⟩ (by first|omega|(simp only [List.length_append,List.length_cons,List.length_nil];omega)) (ye9 (by omega) (by omega))).mono ?_)
      intro r2 W2 hq
      first|(intro hT2;subst hq)|(obtain ⟨hq,hT2⟩:=hq;subst hq)
      have c02:=hT2.c0
      have c12:=hT2.c1
      have c22:=hT2.c2
      clear c01 c11 c21
      go_wp2_with (go_at_call 37;refine (hT2.pow hg n1 x hn1 (by first|omega|(simp only [List.length_append,List.length_cons,List.length_nil];omega)) hre.1.1 hre.1.2).mono ?_)
      intro r3 W3 hq
      first|(intro hT3;subst hq)|(obtain ⟨hq,hT3⟩:=hq;subst hq)
      have c03:=hT3.c0
      have c13:=hT3.c1
      have c23:=hT3.c2
      clear c02 c12 c22
      go_wp2_with (go_at_call 37;refine (hT3.pow hg n2 z hn2 (by first|omega|(simp only [List.length_append,List.length_cons,List.length_nil];omega)) hre.2.1.1 hre.2.1.2).mono ?_)
      intro r4 W4 hq
      first|(intro hT4;subst hq)|(obtain ⟨hq,hT4⟩:=hq;subst hq)
      have c04:=hT4.c0
      have c14:=hT4.c1
      have c24:=hT4.c2
      clear c03 c13 c23
      go_wp2
      go_roundw
      case rel=>exact yb1 hkl HX.out HZ.out HV.out hT4 hL hnl1 hnl2 hre (by simp [ycj,show¬(c<0) by omega,show¬(c=1) by omega,show¬(0<k) by omega]) rfl
      case measure=>simp [intOf];omega
  ·obtain rfl:k=p.length:=by omega
   go_wp2_with (go_at_call 41;refine (TS.string hI hb).mono ?_)
   rintro r W1 ⟨rfl,h1⟩
   go_wp2
   go_ret
   exact ⟨rfl,h1⟩
end Go.Proofs.YtbblgobamoabkaaGreatDoor
