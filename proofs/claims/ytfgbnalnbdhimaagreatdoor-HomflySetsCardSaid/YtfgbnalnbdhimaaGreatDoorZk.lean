/- Layer 13: the text of a polynomial in two variables: what is carried from call to call. -/
import Derived.Test.YtfgbnalnbdhimaaGreatDoorZj
import Derived.Test.YtfgbnalnbdhimaaGreatDoorZa
import Derived.Lib.Hide
import Derived.Test.YtfgbnalnbdhimaaGreatDoorZf
import Derived.Test.YtfgbnalnbdhimaaGreatDoorZc
import Derived.Test.YtfgbnalnbdhimaaGreatDoorZb
import Derived.Test.YtfgbnalnbdhimaaGreatDoorZh
set_option linter.unusedSimpArgs false
set_option linter.unusedVariables false
namespace Go.Proofs.YtfgbnalnbdhimaaGreatDoor
open Go Go.RowKit Go.Shelf
set_option maxHeartbeats 4000000
set_option maxRecDepth 100000
structure TB (w:World) (b K:Nat) (x z c:Int) (acc:List UInt8) (W:World):Prop where
 bld:Lib.IsBuilderF 73 5 w.heap.size b (Lib.byteCells acc) W
 row:W.heap[K]?=some (.cells #[.int .i64 x, .int .i64 z, .int .i64 c] 50 (0,0))
 ne:K≠b
 bel:Below w.heap.size w W
section
variable {w W:World} {b K:Nat} {x z c:Int} {acc:List UInt8}
theorem TB.c0 (h:TB w b K x z c acc W):W.cell? ⟨K,0,none⟩=some (.int .i64 x):=by rw [Lib.cell_of_heap h.row];rfl
theorem TB.c1 (h:TB w b K x z c acc W):W.cell? ⟨K,1,none⟩=some (.int .i64 z):=by rw [Lib.cell_of_heap h.row];rfl
theorem TB.c2 (h:TB w b K x z c acc W):W.cell? ⟨K,2,none⟩=some (.int .i64 c):=by rw [Lib.cell_of_heap h.row];rfl
theorem TB.keep (h:TB w b K x z c acc W) {W':World} (hk:Lib.OthersKept 5 (some b) W W'):W'.heap[K]?=some (.cells #[.int .i64 x, .int .i64 z, .int .i64 c] 50 (0,0)):=
 hk K _ h.row (fun q=>h.ne (Option.some.inj q)) (fun x fz q=>by simp at q)
theorem TB.byte (h:TB w b K x z c acc W) (u:UInt8) (n:Int) (hx:(u.toNat:Int)=n) (hl:acc.length<=100000000000):
  Calls Tryz.prog 39 #[.pointer (some ⟨b,0,none⟩), .int .u8 n] W fun r W'=>r= .returned .nilIface/\TB w b K x z c (acc++[u]) W':=by
 subst hx
 refine (y1m w.heap.size b _ u.toNat W h.bld (by rw [Lib.byteCells_length];omega) h.bel.size).mono ?_
 rintro r W' ⟨rfl,h1,h2,h3⟩
 exact ⟨rfl,by rw [Lib.byteCells_append];exact .inr h1,h.keep h3,h.ne,h.bel.trans h2⟩
theorem TB.str (h:TB w b K x z c acc W) (s:ByteArray) (hl:acc.length<=100000000000) (hs:s.size<=100000):
  Calls Tryz.prog 38 #[.pointer (some ⟨b,0,none⟩), .string s] W fun r W'=>r= .returned (.tuple #[.int .i64 s.size, .nilIface])/\TB w b K x z c (acc++s.data.toList) W':=by
 refine (y40 w.heap.size b _ s W h.bld (by rw [Lib.byteCells_length];omega) h.bel.size).mono ?_
 rintro r W' ⟨rfl,h1,h2,h3⟩
 exact ⟨rfl,by rw [Lib.byteCells_append];exact .inr h1,h.keep h3,h.ne,h.bel.trans h2⟩
theorem TB.itoa (h:TB w b K x z c acc W) (hg:Good w) (n:Int) (h0: -9223372036854775808<=n) (h1:n<=9223372036854775807):
  Calls Tryz.prog 40 #[.int .i64 n] W fun r W'=>r= .returned (.string ⟨(Lib.itoa n).toArray⟩)/\TB w b K x z c acc W':=by
 refine (Tryz.strconv_Itoa n h0 h1 W (hg.later h.bel)).mono ?_
 rintro r W' ⟨rfl,k,os,rfl⟩
 have hb:=Lib.below_grow W.heap.size W (Nat.le_refl _) k os
 exact ⟨rfl,yyu h.bld hb,by rw [hb.block K (Array.getElem?_eq_some_iff.1 h.row).1];exact h.row,h.ne,h.bel.trans ⟨hb.os,hb.tape,hb.output,hb.size,fun j hj=>hb.block j (by have:=h.bel.size;omega)⟩⟩
end
def powT (name:List UInt8) (e:Int):List UInt8:=(if e=0 then [] else name)++(if e=0\/e=1 then [] else 94::Lib.itoa e)
def ycg (n1 n2:List UInt8) (i:Nat) (x z c:Int):List UInt8:=
 (if c<0 then [45] else if 0<i then [43] else [])++((if (if c<0 then 0-c else c)=1/\ ¬(x=0/\z=0) then [] else Lib.itoa (if c<0 then 0-c else c))++(powT n1 x++powT n2 z))
def yc3 (n1 n2:List UInt8) (p:List (Int×Int)):Nat->List UInt8
 |0=>[]
 |k+1=>yc3 n1 n2 p k++ycg n1 n2 k (bvA (p.getD k (0,0)).1) (bvZ (p.getD k (0,0)).1) (p.getD k (0,0)).2
end Go.Proofs.YtfgbnalnbdhimaaGreatDoor
set_option linter.unusedSimpArgs false
set_option linter.unusedVariables false
namespace Go.Proofs.YtfgbnalnbdhimaaGreatDoor
open Go Go.RowKit Go.Shelf
set_option maxHeartbeats 8000000
set_option maxRecDepth 100000
theorem yh3 {nm:List UInt8} {e:Int} (hn:nm.length<=1000) (h0: -4611686018427387904<=e) (h1:e<=4611686018427387904):(powT nm e).length<=1022:=by
 have h2:=ydd (n:=e) (by omega) (by omega)
 have l3:(if e=0 then ([]:List UInt8) else nm).length<=1000:=by
  split
  ·simp
  ·exact hn
 have l4:(if e=0\/e=1 then ([]:List UInt8) else 94::Lib.itoa e).length<=22:=by
  split
  ·simp
  ·simp;omega
 unfold powT
 rw [List.length_append]
 omega
theorem yyv {n1 n2:List UInt8} {k:Nat} {x z c:Int} (hn1:n1.length<=1000) (hn2:n2.length<=1000) (hr:(-4611686018427387904<=x/\x<=4611686018427387904)/\(-4611686018427387904<=z/\z<=4611686018427387904)/\ -4611686018427387904<=c/\c<=4611686018427387904):(ycg n1 n2 k x z c).length<=3000:=by
 have h2:=ydd (n:=c) (by omega) (by omega)
 have h3:=ydd (n:=0-c) (by omega) (by omega)
 have h4:=yh3 hn1 hr.1.1 hr.1.2
 have h5:=yh3 hn2 hr.2.1.1 hr.2.1.2
 have l1:(if c<0 then [45] else if 0<k then [43] else ([]:List UInt8)).length<=1:=by
  split
  ·simp
  ·split<;>simp
 have l2:(if (if c<0 then 0-c else c)=1/\ ¬(x=0/\z=0) then ([]:List UInt8) else Lib.itoa (if c<0 then 0-c else c)).length<=21:=by
  by_cases hc0:c<0
  ·rw [if_pos hc0]
   split
   ·simp
   ·exact h3
  ·rw [if_neg hc0]
   split
   ·simp
   ·exact h2
 unfold ycg
 rw [List.length_append,List.length_append,List.length_append]
 omega
theorem TB.pow {w W:World} {b K:Nat} {x z c:Int} {acc:List UInt8} (h:TB w b K x z c acc W) (hg:Good w) (nm:ByteArray) (e:Int) (hn:nm.size<=1000) (hl:acc.length<=10000000000) (h0: -4611686018427387904<=e) (h1:e<=4611686018427387904):
  Calls Tryz.prog 37 #[.string nm, .int .i64 e, .pointer (some ⟨b,0,none⟩)] W fun r W'=>r= .returned (.tuple #[])/\TB w b K x z c (acc++powT nm.data.toList e) W':=by
 have hn':nm.data.toList.length<=1000:=hn
 have ie:=ydd (n:=e) (by omega) (by omega)
 by_cases he0:e=0
 ·subst he0
  have e1:acc++powT nm.data.toList 0=acc:=by simp [powT]
  rw [e1]
  go_enter Tryz.func37,Tryz.ntmps37
  go_wp2
  (try simp only [Exit.inBlock,Exit.then])
  refine bodyPost_ret (results_none rfl _ _ _) rfl ?_
  exact ⟨rfl,h⟩
 ·have be0:(e==0)=false:=by simpa using he0
  by_cases he1:e=1
  ·subst he1
   have e1:powT nm.data.toList 1=nm.data.toList:=by simp [powT]
   rw [e1]
   go_enter Tryz.func37,Tryz.ntmps37
   go_wp2_with (go_at_call 38;refine (h.str nm (by omega) (by omega)).mono ?_)
   intro r1 W1 hq
   first|(intro h1;subst hq)|(obtain ⟨hq,h1⟩:=hq;subst hq)
   go_wp2
   first|go_ret|go_end0|go_ret2
   exact ⟨rfl,h1⟩
  ·have be1:(e==1)=false:=by simpa using he1
   have e1:acc++powT nm.data.toList e=((acc++nm.data.toList)++[94])++(⟨(Lib.itoa e).toArray⟩:ByteArray).data.toList:=by simp [powT,he0,he1]
   rw [e1]
   go_enter Tryz.func37,Tryz.ntmps37
   go_wp2_with (go_at_call 38;refine (h.str nm (by omega) (by omega)).mono ?_)
   intro r1 W1 hq
   first|(intro h1;subst hq)|(obtain ⟨hq,h1⟩:=hq;subst hq)
   go_wp2_with (go_at_call 39;refine (h1.byte 94 94 rfl (by simp only [List.length_append];omega)).mono ?_)
   intro r2 W2 hq
   first|(intro h2;subst hq)|(obtain ⟨hq,h2⟩:=hq;subst hq)
   go_wp2_with (go_at_call 40;refine (h2.itoa hg e (by omega) (by omega)).mono ?_)
   intro r3 W3 hq
   first|(intro h3;subst hq)|(obtain ⟨hq,h3⟩:=hq;subst hq)
   go_wp2_with (go_at_call 38;refine (h3.str ⟨(Lib.itoa e).toArray⟩ (by simp only [List.length_append,List.length_cons,List.length_nil];omega) (yeo (by omega) (by omega))).mono ?_)
   intro r4 W4 hq
   first|(intro h4;subst hq)|(obtain ⟨hq,h4⟩:=hq;subst hq)
   go_wp2
   first|go_ret|go_end0|go_ret2
   exact ⟨rfl,by simpa using h4⟩
theorem yby {p:List (Int×Int)} {n1 n2:List UInt8} {w W:World} {k K:Nat} {x z c:Int} {acc:List UInt8} {v:Value} (hkl:k<p.length) (hx:bvA (p.getD k (0,0)).1=x) (hz:bvZ (p.getD k (0,0)).1=z) (hc:(p.getD k (0,0)).2=c)
  (hT:TB w (w.heap.size+1) K x z c acc W) (hL:(yc3 n1 n2 p k).length<=k*3000) (hn1:n1.length<=1000) (hn2:n2.length<=1000)
  (hr:(-4611686018427387904<=x/\x<=4611686018427387904)/\(-4611686018427387904<=z/\z<=4611686018427387904)/\ -4611686018427387904<=c/\c<=4611686018427387904) (hacc:acc=yc3 n1 n2 p k++ycg n1 n2 k x z c) (hv:v= .int .i64 ((k:Int)+1)):
  ∃k:Nat,k<=p.length/\v= .int .i64 k/\Lib.IsBuilderF 73 5 w.heap.size (w.heap.size+1) (Lib.byteCells (yc3 n1 n2 p k)) W/\Below w.heap.size w W/\(yc3 n1 n2 p k).length<=k*3000/\w.heap.size+1<W.heap.size:=by
 have e1:yc3 n1 n2 p (k+1)=acc:=by rw [hacc];show yc3 n1 n2 p k++ycg n1 n2 k (bvA (p.getD k (0,0)).1) (bvZ (p.getD k (0,0)).1) (p.getD k (0,0)).2=_;rw [hx,hz,hc]
 have hlt:w.heap.size+1<W.heap.size:=by
  rcases hT.bld with h|h
  ·exact h.lt
  ·exact h.lt
 refine ⟨k+1,by omega,?_,by rw [e1];exact hT.bld,hT.bel,?_,hlt⟩
 ·rw [hv];simp
 ·rw [e1,hacc,List.length_append]
  have:=yyv (k:=k) hn1 hn2 hr
  omega
theorem yvc (p:List (Int×Int)) (n1 n2:ByteArray) (a:Addr) (cap:Nat) (w:World) (hp0:0<p.length) (hg:Good w) (ha:a.block<w.heap.size)
  (hc: ∀k,k<p.length->w.cell? (a.add (k*3))=some (.int .i64 (bvA (p.getD k (0,0)).1))/\w.cell? (a.add (k*3+1))=some (.int .i64 (bvZ (p.getD k (0,0)).1))/\w.cell? (a.add (k*3+2))=some (.int .i64 (p.getD k (0,0)).2))
  (hr: ∀k,k<p.length->(-4611686018427387904<=bvA (p.getD k (0,0)).1/\bvA (p.getD k (0,0)).1<=4611686018427387904)/\(-4611686018427387904<=bvZ (p.getD k (0,0)).1/\bvZ (p.getD k (0,0)).1<=4611686018427387904)/\ -4611686018427387904<=(p.getD k (0,0)).2/\(p.getD k (0,0)).2<=4611686018427387904)
  (hn1:n1.size<=1000) (hn2:n2.size<=1000) (hpl:p.length<=1000000):
  Calls Tryz.prog 15 #[.agg #[.bool false, .slice (some a) p.length cap], .string n1, .string n2] w fun e w'=>e= .returned (.string ⟨(yc3 n1.data.toList n2.data.toList p p.length).toArray⟩)/\Below w.heap.size w w':=by
 have hl0:((p.length:Int)==0)=false:=by simp;intro h;rw [h] at hp0;simp at hp0
 have hnl1:n1.data.toList.length<=1000:=hn1
 have hnl2:n2.data.toList.length<=1000:=hn2
 have HC:=Lib.hid hc
 have HR:=Lib.hid hr
 clear hc hr
 go_enter Tryz.func15,Tryz.ntmps15
 go_wp2
 go_loopw [24] (fun i wr=> ∃k:Nat,k<=p.length/\i= .int .i64 k/\Lib.IsBuilderF 73 5 w.heap.size (w.heap.size+1) (Lib.byteCells (yc3 n1.data.toList n2.data.toList p k)) wr/\Below w.heap.size w wr/\(yc3 n1.data.toList n2.data.toList p k).length<=k*3000/\w.heap.size+1<wr.heap.size) (fun i _=>p.length-(intOf i).toNat)
 case atStart=>
  have h:=yvb w (.cells #[.bool false, .slice (some a) p.length cap] 26)
  exact ⟨0,Nat.zero_le _,rfl,h.1,h.2.1,Nat.zero_le _,h.2.2⟩
 case round=>
  obtain ⟨k,hk,rfl,hI,hb,hL,hz⟩:=hrel
  by_cases hkl:k<p.length
  ·have hce:=HC.out k hkl
   have hre:=HR.out k hkl
   obtain ⟨x,hx⟩: ∃x,bvA (p.getD k (0,0)).1=x:=⟨_,rfl⟩
   obtain ⟨z,hz'⟩: ∃z,bvZ (p.getD k (0,0)).1=z:=⟨_,rfl⟩
   obtain ⟨c,hcv⟩: ∃c,(p.getD k (0,0)).2=c:=⟨_,rfl⟩
   rw [hx,hz',hcv] at hre hce
   have HX:=Lib.hid hx
   have HZ:=Lib.hid hz'
   have HV:=Lib.hid hcv
   clear hx hz' hcv
   have g0:wr.cell? (a.add (k*3))=some (.int .i64 x):=by rw [hb.cell (by rw [addB];exact ha)];exact hce.1
   have g1:wr.cell? ⟨(a.add (k*3)).block,(a.add (k*3)).off+1,none⟩=some (.int .i64 z):=by
    show wr.cell? ((a.add (k*3)).add 1)=_
    rw [hb.cell (by rw [addB,addB];exact ha),adds];exact hce.2.1
   have g2:wr.cell? ⟨(a.add (k*3)).block,(a.add (k*3)).off+2,none⟩=some (.int .i64 c):=by
    show wr.cell? ((a.add (k*3)).add 2)=_
    rw [hb.cell (by rw [addB,addB];exact ha),adds];exact hce.2.2
   clear hce
   have hT0:TB w (w.heap.size+1) wr.heap.size x z c (yc3 n1.data.toList n2.data.toList p k) (wr.alloc (.cells #[.int .i64 x, .int .i64 z, .int .i64 c] 50)):=⟨hI.alloc _,yq6 wr _,by omega,hb.alloc (by omega) _⟩
   have c00:=hT0.c0
   have c10:=hT0.c1
   have c20:=hT0.c2
   have ic:=ydd (n:=c) (by omega) (by omega)
   have id:=ydd (n:= -c) (by omega) (by omega)
   have i1:=ydd (n:=1) (by omega) (by omega)
   have lx:=yh3 hnl1 hre.1.1 hre.1.2
   have lz:=yh3 hnl2 hre.2.1.1 hre.2.1.2
   by_cases hneg:c<0
   ·have hk0:True:=trivial
    by_cases hone:c= -1
    ·subst hone
     by_cases hx0:x=0
     ·by_cases hz0:z=0
      ·subst hx0 hz0
       go_wp2_with (go_at_call 39;refine (hT0.byte 45 45 rfl (by first|omega|(simp only [List.length_append,List.length_cons,List.length_nil];omega))).mono ?_)
       intro r1 W1 hq
       first|(intro hT1;subst hq)|(obtain ⟨hq,hT1⟩:=hq;subst hq)
       have c01:=hT1.c0
       have c11:=hT1.c1
       have c21:=hT1.c2
       clear c00 c10 c20
       go_wp2_with (go_at_call 40;refine (hT1.itoa hg 1 (by omega) (by omega)).mono ?_)
       intro r2 W2 hq
       first|(intro hT2;subst hq)|(obtain ⟨hq,hT2⟩:=hq;subst hq)
       have c02:=hT2.c0
       have c12:=hT2.c1
       have c22:=hT2.c2
       clear c01 c11 c21
       go_wp2_with (go_at_call 38;refine (hT2.str ⟨(Lib.itoa 1).toArray⟩ (by first|omega|(simp only [List.length_append,List.length_cons,List.length_nil];omega)) (yeo (by omega) (by omega))).mono ?_)
       intro r3 W3 hq
       first|(intro hT3;subst hq)|(obtain ⟨hq,hT3⟩:=hq;subst hq)
       have c03:=hT3.c0
       have c13:=hT3.c1
       have c23:=hT3.c2
       clear c02 c12 c22
       go_wp2_with (go_at_call 37;refine (hT3.pow hg n1 0 hn1 (by first|omega|(simp only [List.length_append,List.length_cons,List.length_nil];omega)) hre.1.1 hre.1.2).mono ?_)
       intro r4 W4 hq
       first|(intro hT4;subst hq)|(obtain ⟨hq,hT4⟩:=hq;subst hq)
       have c04:=hT4.c0
       have c14:=hT4.c1
       have c24:=hT4.c2
       clear c03 c13 c23
       go_wp2_with (go_at_call 37;refine (hT4.pow hg n2 0 hn2 (by first|omega|(simp only [List.length_append,List.length_cons,List.length_nil];omega)) hre.2.1.1 hre.2.1.2).mono ?_)
       intro r5 W5 hq
       first|(intro hT5;subst hq)|(obtain ⟨hq,hT5⟩:=hq;subst hq)
       have c05:=hT5.c0
       have c15:=hT5.c1
       have c25:=hT5.c2
       clear c04 c14 c24
       go_wp2
       go_roundw
       case rel=>exact yby hkl HX.out HZ.out HV.out hT5 hL hnl1 hnl2 hre (by simp [ycg]) rfl
       case measure=>simp [intOf];omega
      ·have bz:(z==0)=false:=by simpa using hz0
       subst hx0
       have hxz:z≠0:=hz0
       go_wp2_with (go_at_call 39;refine (hT0.byte 45 45 rfl (by first|omega|(simp only [List.length_append,List.length_cons,List.length_nil];omega))).mono ?_)
       intro r1 W1 hq
       first|(intro hT1;subst hq)|(obtain ⟨hq,hT1⟩:=hq;subst hq)
       have c01:=hT1.c0
       have c11:=hT1.c1
       have c21:=hT1.c2
       clear c00 c10 c20
       go_wp2_with (go_at_call 37;refine (hT1.pow hg n1 0 hn1 (by first|omega|(simp only [List.length_append,List.length_cons,List.length_nil];omega)) hre.1.1 hre.1.2).mono ?_)
       intro r2 W2 hq
       first|(intro hT2;subst hq)|(obtain ⟨hq,hT2⟩:=hq;subst hq)
       have c02:=hT2.c0
       have c12:=hT2.c1
       have c22:=hT2.c2
       clear c01 c11 c21
       go_wp2_with (go_at_call 37;refine (hT2.pow hg n2 z hn2 (by first|omega|(simp only [List.length_append,List.length_cons,List.length_nil];omega)) hre.2.1.1 hre.2.1.2).mono ?_)
       intro r3 W3 hq
       first|(intro hT3;subst hq)|(obtain ⟨hq,hT3⟩:=hq;subst hq)
       have c03:=hT3.c0
       have c13:=hT3.c1
       have c23:=hT3.c2
       clear c02 c12 c22
       go_wp2
       go_roundw
       case rel=>exact yby hkl HX.out HZ.out HV.out hT3 hL hnl1 hnl2 hre (by simp [ycg,hxz]) rfl
       case measure=>simp [intOf];omega
     ·have bx:(x==0)=false:=by simpa using hx0
      have hxz:x≠0:=hx0
      go_wp2_with (go_at_call 39;refine (hT0.byte 45 45 rfl (by first|omega|(simp only [List.length_append,List.length_cons,List.length_nil];omega))).mono ?_)
      intro r1 W1 hq
      first|(intro hT1;subst hq)|(obtain ⟨hq,hT1⟩:=hq;subst hq)
      have c01:=hT1.c0
      have c11:=hT1.c1
      have c21:=hT1.c2
      clear c00 c10 c20
      go_wp2_with (go_at_call 37;refine (hT1.pow hg n1 x hn1 (by first|omega|(simp only [List.length_append,List.length_cons,List.length_nil];omega)) hre.1.1 hre.1.2).mono ?_)
      intro r2 W2 hq
      first|(intro hT2;subst hq)|(obtain ⟨hq,hT2⟩:=hq;subst hq)
      have c02:=hT2.c0
      have c12:=hT2.c1
      have c22:=hT2.c2
      clear c01 c11 c21
      go_wp2_with (go_at_call 37;refine (hT2.pow hg n2 z hn2 (by first|omega|(simp only [List.length_append,List.length_cons,List.length_nil];omega)) hre.2.1.1 hre.2.1.2).mono ?_)
      intro r3 W3 hq
      first|(intro hT3;subst hq)|(obtain ⟨hq,hT3⟩:=hq;subst hq)
      have c03:=hT3.c0
      have c13:=hT3.c1
      have c23:=hT3.c2
      clear c02 c12 c22
      go_wp2
      go_roundw
      case rel=>exact yby hkl HX.out HZ.out HV.out hT3 hL hnl1 hnl2 hre (by simp [ycg,hxz]) rfl
      case measure=>simp [intOf];omega
    ·have hone: ¬ -c=1:=by omega
     go_wp2_with (go_at_call 39;refine (hT0.byte 45 45 rfl (by first|omega|(simp only [List.length_append,List.length_cons,List.length_nil];omega))).mono ?_)
     intro r1 W1 hq
     first|(intro hT1;subst hq)|(obtain ⟨hq,hT1⟩:=hq;subst hq)
     have c01:=hT1.c0
     have c11:=hT1.c1
     have c21:=hT1.c2
     clear c00 c10 c20
     go_wp2_with (go_at_call 40;refine (hT1.itoa hg (-c) (by omega) (by omega)).mono ?_)
     intro r2 W2 hq
     first|(intro hT2;subst hq)|(obtain ⟨hq,hT2⟩:=hq;subst hq)
     have c02:=hT2.c0
     have c12:=hT2.c1
     have c22:=hT2.c2
     clear c01 c11 c21
     go_wp2_with (go_at_call 38;refine (hT2.str ⟨(Lib.itoa (-c)).toArray⟩ (by first|omega|(simp only [List.length_append,List.length_cons,List.length_nil];omega)) (yeo (by omega) (by omega))).mono ?_)
     intro r3 W3 hq
     first|(intro hT3;subst hq)|(obtain ⟨hq,hT3⟩:=hq;subst hq)
     have c03:=hT3.c0
     have c13:=hT3.c1
     have c23:=hT3.c2
     clear c02 c12 c22
     go_wp2_with (go_at_call 37;refine (hT3.pow hg n1 x hn1 (by first|omega|(simp only [List.length_append,List.length_cons,List.length_nil];omega)) hre.1.1 hre.1.2).mono ?_)
     intro r4 W4 hq
     first|(intro hT4;subst hq)|(obtain ⟨hq,hT4⟩:=hq;subst hq)
     have c04:=hT4.c0
     have c14:=hT4.c1
     have c24:=hT4.c2
     clear c03 c13 c23
     go_wp2_with (go_at_call 37;refine (hT4.pow hg n2 z hn2 (by first|omega|(simp only [List.length_append,List.length_cons,List.length_nil];omega)) hre.2.1.1 hre.2.1.2).mono ?_)
     intro r5 W5 hq
     first|(intro hT5;subst hq)|(obtain ⟨hq,hT5⟩:=hq;subst hq)
     have c05:=hT5.c0
     have c15:=hT5.c1
     have c25:=hT5.c2
     clear c04 c14 c24
     go_wp2
     go_roundw
     case rel=>exact yby hkl HX.out HZ.out HV.out hT5 hL hnl1 hnl2 hre (by simp [ycg,show c<0 by omega,show¬(-c=1) by omega]) rfl
     case measure=>simp [intOf];omega
   ·by_cases hk0:0<k
    ·have bk0:decide ((0:Int)<(k:Int))=true:=by simp;omega
     by_cases hone:c=1
     ·subst hone
      by_cases hx0:x=0
      ·by_cases hz0:z=0
       ·subst hx0 hz0
        go_wp2_with (go_at_call 39;refine (hT0.byte 43 43 rfl (by first|omega|(simp only [List.length_append,List.length_cons,List.length_nil];omega))).mono ?_)
        intro r1 W1 hq
        first|(intro hT1;subst hq)|(obtain ⟨hq,hT1⟩:=hq;subst hq)
        have c01:=hT1.c0
        have c11:=hT1.c1
        have c21:=hT1.c2
        clear c00 c10 c20
        go_wp2_with (go_at_call 40;refine (hT1.itoa hg 1 (by omega) (by omega)).mono ?_)
        intro r2 W2 hq
        first|(intro hT2;subst hq)|(obtain ⟨hq,hT2⟩:=hq;subst hq)
        have c02:=hT2.c0
        have c12:=hT2.c1
        have c22:=hT2.c2
        clear c01 c11 c21
        go_wp2_with (go_at_call 38;refine (hT2.str ⟨(Lib.itoa 1).toArray⟩ (by first|omega|(simp only [List.length_append,List.length_cons,List.length_nil];omega)) (yeo (by omega) (by omega))).mono ?_)
        intro r3 W3 hq
        first|(intro hT3;subst hq)|(obtain ⟨hq,hT3⟩:=hq;subst hq)
        have c03:=hT3.c0
        have c13:=hT3.c1
        have c23:=hT3.c2
        clear c02 c12 c22
        go_wp2_with (go_at_call 37;refine (hT3.pow hg n1 0 hn1 (by first|omega|(simp only [List.length_append,List.length_cons,List.length_nil];omega)) hre.1.1 hre.1.2).mono ?_)
        intro r4 W4 hq
        first|(intro hT4;subst hq)|(obtain ⟨hq,hT4⟩:=hq;subst hq)
        have c04:=hT4.c0
        have c14:=hT4.c1
        have c24:=hT4.c2
        clear c03 c13 c23
        go_wp2_with (go_at_call 37;refine (hT4.pow hg n2 0 hn2 (by first|omega|(simp only [List.length_append,List.length_cons,List.length_nil];omega)) hre.2.1.1 hre.2.1.2).mono ?_)
        intro r5 W5 hq
        first|(intro hT5;subst hq)|(obtain ⟨hq,hT5⟩:=hq;subst hq)
        have c05:=hT5.c0
        have c15:=hT5.c1
        have c25:=hT5.c2
        clear c04 c14 c24
        go_wp2
        go_roundw
        case rel=>exact yby hkl HX.out HZ.out HV.out hT5 hL hnl1 hnl2 hre (by simp [ycg,show 0<k by omega]) rfl
        case measure=>simp [intOf];omega
       ·have bz:(z==0)=false:=by simpa using hz0
        subst hx0
        have hxz:z≠0:=hz0
        go_wp2_with (go_at_call 39;refine (hT0.byte 43 43 rfl (by first|omega|(simp only [List.length_append,List.length_cons,List.length_nil];omega))).mono ?_)
        intro r1 W1 hq
        first|(intro hT1;subst hq)|(obtain ⟨hq,hT1⟩:=hq;subst hq)
        have c01:=hT1.c0
        have c11:=hT1.c1
        have c21:=hT1.c2
        clear c00 c10 c20
        go_wp2_with (go_at_call 37;refine (hT1.pow hg n1 0 hn1 (by first|omega|(simp only [List.length_append,List.length_cons,List.length_nil];omega)) hre.1.1 hre.1.2).mono ?_)
        intro r2 W2 hq
        first|(intro hT2;subst hq)|(obtain ⟨hq,hT2⟩:=hq;subst hq)
        have c02:=hT2.c0
        have c12:=hT2.c1
        have c22:=hT2.c2
        clear c01 c11 c21
        go_wp2_with (go_at_call 37;refine (hT2.pow hg n2 z hn2 (by first|omega|(simp only [List.length_append,List.length_cons,List.length_nil];omega)) hre.2.1.1 hre.2.1.2).mono ?_)
        intro r3 W3 hq
        first|(intro hT3;subst hq)|(obtain ⟨hq,hT3⟩:=hq;subst hq)
        have c03:=hT3.c0
        have c13:=hT3.c1
        have c23:=hT3.c2
        clear c02 c12 c22
        go_wp2
        go_roundw
        case rel=>exact yby hkl HX.out HZ.out HV.out hT3 hL hnl1 hnl2 hre (by simp [ycg,show 0<k by omega,hxz]) rfl
        case measure=>simp [intOf];omega
      ·have bx:(x==0)=false:=by simpa using hx0
       have hxz:x≠0:=hx0
       go_wp2_with (go_at_call 39;refine (hT0.byte 43 43 rfl (by first|omega|(simp only [List.length_append,List.length_cons,List.length_nil];omega))).mono ?_)
       intro r1 W1 hq
       first|(intro hT1;subst hq)|(obtain ⟨hq,hT1⟩:=hq;subst hq)
       have c01:=hT1.c0
       have c11:=hT1.c1
       have c21:=hT1.c2
       clear c00 c10 c20
       go_wp2_with (go_at_call 37;refine (hT1.pow hg n1 x hn1 (by first|omega|(simp only [List.length_append,List.length_cons,List.length_nil];omega)) hre.1.1 hre.1.2).mono ?_)
       intro r2 W2 hq
       first|(intro hT2;subst hq)|(obtain ⟨hq,hT2⟩:=hq;subst hq)
       have c02:=hT2.c0
       have c12:=hT2.c1
       have c22:=hT2.c2
       clear c01 c11 c21
       go_wp2_with (go_at_call 37;refine (hT2.pow hg n2 z hn2 (by first|omega|(simp only [List.length_append,List.length_cons,List.length_nil];omega)) hre.2.1.1 hre.2.1.2).mono ?_)
       intro r3 W3 hq
       first|(intro hT3;subst hq)|(obtain ⟨hq,hT3⟩:=hq;subst hq)
       have c03:=hT3.c0
       have c13:=hT3.c1
       have c23:=hT3.c2
       clear c02 c12 c22
       go_wp2
       go_roundw
       case rel=>exact yby hkl HX.out HZ.out HV.out hT3 hL hnl1 hnl2 hre (by simp [ycg,show 0<k by omega,hxz]) rfl
       case measure=>simp [intOf];omega
     ·have bone:(c==1)=false:=by simpa using hone
      go_wp2_with (go_at_call 39;refine (hT0.byte 43 43 rfl (by first|omega|(simp only [List.length_append,List.length_cons,List.length_nil];omega))).mono ?_)
      intro r1 W1 hq
      first|(intro hT1;subst hq)|(obtain ⟨hq,hT1⟩:=hq;subst hq)
      have c01:=hT1.c0
      have c11:=hT1.c1
      have c21:=hT1.c2
      clear c00 c10 c20
      go_wp2_with (go_at_call 40;refine (hT1.itoa hg c (by omega) (by omega)).mono ?_)
      intro r2 W2 hq
      first|(intro hT2;subst hq)|(obtain ⟨hq,hT2⟩:=hq;subst hq)
      have c02:=hT2.c0
      have c12:=hT2.c1
      have c22:=hT2.c2
      clear c01 c11 c21
      go_wp2_with (go_at_call 38;refine (hT2.str ⟨(Lib.itoa c).toArray⟩ (by first|omega|(simp only [List.length_append,List.length_cons,List.length_nil];omega)) (yeo (by omega) (by omega))).mono ?_)
      intro r3 W3 hq
      first|(intro hT3;subst hq)|(obtain ⟨hq,hT3⟩:=hq;subst hq)
      have c03:=hT3.c0
      have c13:=hT3.c1
      have c23:=hT3.c2
      clear c02 c12 c22
      go_wp2_with (go_at_call 37;refine (hT3.pow hg n1 x hn1 (by first|omega|(simp only [List.length_append,List.length_cons,List.length_nil];omega)) hre.1.1 hre.1.2).mono ?_)
      intro r4 W4 hq
      first|(intro hT4;subst hq)|(obtain ⟨hq,hT4⟩:=hq;subst hq)
      have c04:=hT4.c0
      have c14:=hT4.c1
      have c24:=hT4.c2
      clear c03 c13 c23
      go_wp2_with (go_at_call 37;refine (hT4.pow hg n2 z hn2 (by first|omega|(simp only [List.length_append,List.length_cons,List.length_nil];omega)) hre.2.1.1 hre.2.1.2).mono ?_)
      intro r5 W5 hq
      first|(intro hT5;subst hq)|(obtain ⟨hq,hT5⟩:=hq;subst hq)
      have c05:=hT5.c0
      have c15:=hT5.c1
      have c25:=hT5.c2
      clear c04 c14 c24
      go_wp2
      go_roundw
      case rel=>exact yby hkl HX.out HZ.out HV.out hT5 hL hnl1 hnl2 hre (by simp [ycg,show¬(c<0) by omega,show¬(c=1) by omega,show 0<k by omega]) rfl
      case measure=>simp [intOf];omega
    ·have bk0:decide ((0:Int)<(k:Int))=false:=by simp;omega
     by_cases hone:c=1
     ·subst hone
      by_cases hx0:x=0
      ·by_cases hz0:z=0
       ·subst hx0 hz0
        go_wp2_with (go_at_call 40;refine (hT0.itoa hg 1 (by omega) (by omega)).mono ?_)
        intro r1 W1 hq
        first|(intro hT1;subst hq)|(obtain ⟨hq,hT1⟩:=hq;subst hq)
        have c01:=hT1.c0
        have c11:=hT1.c1
        have c21:=hT1.c2
        clear c00 c10 c20
        go_wp2_with (go_at_call 38;refine (hT1.str ⟨(Lib.itoa 1).toArray⟩ (by first|omega|(simp only [List.length_append,List.length_cons,List.length_nil];omega)) (yeo (by omega) (by omega))).mono ?_)
        intro r2 W2 hq
        first|(intro hT2;subst hq)|(obtain ⟨hq,hT2⟩:=hq;subst hq)
        have c02:=hT2.c0
        have c12:=hT2.c1
        have c22:=hT2.c2
        clear c01 c11 c21
        go_wp2_with (go_at_call 37;refine (hT2.pow hg n1 0 hn1 (by first|omega|(simp only [List.length_append,List.length_cons,List.length_nil];omega)) hre.1.1 hre.1.2).mono ?_)
        intro r3 W3 hq
        first|(intro hT3;subst hq)|(obtain ⟨hq,hT3⟩:=hq;subst hq)
        have c03:=hT3.c0
        have c13:=hT3.c1
        have c23:=hT3.c2
        clear c02 c12 c22
        go_wp2_with (go_at_call 37;refine (hT3.pow hg n2 0 hn2 (by first|omega|(simp only [List.length_append,List.length_cons,List.length_nil];omega)) hre.2.1.1 hre.2.1.2).mono ?_)
        intro r4 W4 hq
        first|(intro hT4;subst hq)|(obtain ⟨hq,hT4⟩:=hq;subst hq)
        have c04:=hT4.c0
        have c14:=hT4.c1
        have c24:=hT4.c2
        clear c03 c13 c23
        go_wp2
        go_roundw
        case rel=>exact yby hkl HX.out HZ.out HV.out hT4 hL hnl1 hnl2 hre (by simp [ycg,show¬(0<k) by omega]) rfl
        case measure=>simp [intOf];omega
       ·have bz:(z==0)=false:=by simpa using hz0
        subst hx0
        have hxz:z≠0:=hz0
        go_wp2_with (go_at_call 37;refine (hT0.pow hg n1 0 hn1 (by first|omega|(simp only [List.length_append,List.length_cons,List.length_nil];omega)) hre.1.1 hre.1.2).mono ?_)
        intro r1 W1 hq
        first|(intro hT1;subst hq)|(obtain ⟨hq,hT1⟩:=hq;subst hq)
        have c01:=hT1.c0
        have c11:=hT1.c1
        have c21:=hT1.c2
        clear c00 c10 c20
        go_wp2_with (go_at_call 37;refine (hT1.pow hg n2 z hn2 (by first|omega|(simp only [List.length_append,List.length_cons,List.length_nil];omega)) hre.2.1.1 hre.2.1.2).mono ?_)
        intro r2 W2 hq
        first|(intro hT2;subst hq)|(obtain ⟨hq,hT2⟩:=hq;subst hq)
        have c02:=hT2.c0
        have c12:=hT2.c1
        have c22:=hT2.c2
        clear c01 c11 c21
        go_wp2
        go_roundw
        case rel=>exact yby hkl HX.out HZ.out HV.out hT2 hL hnl1 hnl2 hre (by simp [ycg,show¬(0<k) by omega,hxz]) rfl
        case measure=>simp [intOf];omega
      ·have bx:(x==0)=false:=by simpa using hx0
       have hxz:x≠0:=hx0
       go_wp2_with (go_at_call 37;refine (hT0.pow hg n1 x hn1 (by first|omega|(simp only [List.length_append,List.length_cons,List.length_nil];omega)) hre.1.1 hre.1.2).mono ?_)
       intro r1 W1 hq
       first|(intro hT1;subst hq)|(obtain ⟨hq,hT1⟩:=hq;subst hq)
       have c01:=hT1.c0
       have c11:=hT1.c1
       have c21:=hT1.c2
       clear c00 c10 c20
       go_wp2_with (go_at_call 37;refine (hT1.pow hg n2 z hn2 (by first|omega|(simp only [List.length_append,List.length_cons,List.length_nil];omega)) hre.2.1.1 hre.2.1.2).mono ?_)
       intro r2 W2 hq
       first|(intro hT2;subst hq)|(obtain ⟨hq,hT2⟩:=hq;subst hq)
       have c02:=hT2.c0
       have c12:=hT2.c1
       have c22:=hT2.c2
       clear c01 c11 c21
       go_wp2
       go_roundw
       case rel=>exact yby hkl HX.out HZ.out HV.out hT2 hL hnl1 hnl2 hre (by simp [ycg,show¬(0<k) by omega,hxz]) rfl
       case measure=>simp [intOf];omega
     ·have bone:(c==1)=false:=by simpa using hone
      go_wp2_with (go_at_call 40;refine (hT0.itoa hg c (by omega) (by omega)).mono ?_)
      intro r1 W1 hq
      first|(intro hT1;subst hq)|(obtain ⟨hq,hT1⟩:=hq;subst hq)
      have c01:=hT1.c0
      have c11:=hT1.c1
      have c21:=hT1.c2
      clear c00 c10 c20
      go_wp2_with (go_at_call 38;refine (hT1.str ⟨(Lib.itoa c).toArray⟩ (by first|omega|(simp only [List.length_append,List.length_cons,List.length_nil];omega)) (yeo (by omega) (by omega))).mono ?_)
      intro r2 W2 hq
      first|(intro hT2;subst hq)|(obtain ⟨hq,hT2⟩:=hq;subst hq)
      have c02:=hT2.c0
      have c12:=hT2.c1
      have c22:=hT2.c2
      clear c01 c11 c21
      go_wp2_with (go_at_call 37;refine (hT2.pow hg n1 x hn1 (by first|omega|(simp only [List.length_append,List.length_cons,List.length_nil];omega)) hre.1.1 hre.1.2).mono ?_)
      intro r3 W3 hq
      first|(intro hT3;subst hq)|(obtain ⟨hq,hT3⟩:=hq;subst hq)
      have c03:=hT3.c0
      have c13:=hT3.c1
      have c23:=hT3.c2
      clear c02 c12 c22
      go_wp2_with (go_at_call 37;refine (hT3.pow hg n2 z hn2 (by first|omega|(simp only [List.length_append,List.length_cons,List.length_nil];omega)) hre.2.1.1 hre.2.1.2).mono ?_)
      intro r4 W4 hq
      first|(intro hT4;subst hq)|(obtain ⟨hq,hT4⟩:=hq;subst hq)
      have c04:=hT4.c0
      have c14:=hT4.c1
      have c24:=hT4.c2
      clear c03 c13 c23
      go_wp2
      go_roundw
      case rel=>exact yby hkl HX.out HZ.out HV.out hT4 hL hnl1 hnl2 hre (by simp [ycg,show¬(c<0) by omega,show¬(c=1) by omega,show¬(0<k) by omega]) rfl
      case measure=>simp [intOf];omega
  ·obtain rfl:k=p.length:=by omega
   go_wp2_with (go_at_call 41;refine (TS.string hI hb).mono ?_)
   rintro r W1 ⟨rfl,h1⟩
   go_wp2
   go_ret
   exact ⟨rfl,h1⟩
end Go.Proofs.YtfgbnalnbdhimaaGreatDoor
set_option linter.unusedSimpArgs false
set_option linter.unusedVariables false
namespace Go.Proofs.YtfgbnalnbdhimaaGreatDoor
open Go Go.RowKit
set_option maxRecDepth 100000
set_option maxHeartbeats 4000000
def cok2 (p:List (Int×Int)):Prop:= ∀k,k<p.length->(-4611686018427387904<=bvA (p.getD k (0,0)).1/\bvA (p.getD k (0,0)).1<=4611686018427387904)/\(-4611686018427387904<=bvZ (p.getD k (0,0)).1/\bvZ (p.getD k (0,0)).1<=4611686018427387904)/\ -4611686018427387904<=(p.getD k (0,0)).2/\(p.getD k (0,0)).2<=4611686018427387904
theorem yob (p:List (Int×Int)) (n1 n2:ByteArray) (hp0:0<p.length) (hr:cok2 p) (hn1:n1.size<=1000) (hn2:n2.size<=1000) (hpl:p.length<=1000000):
  Fn Tryz.prog 15 [bvP false p, .str n1, .str n2] (.str ⟨(yc3 n1.data.toList n2.data.toList p p.length).toArray⟩):=by
 refine ⟨⟨_,Tryz.func15,rfl,by decide⟩,fun w Mx vs hMx hl hv=>?_⟩
 match vs,hl with
 |[v0,v1,v2],_=>
  have h0:=hv 0 v0 _ rfl rfl
  have h1:=(hv 1 v1 _ rfl rfl).str_inv
  have h2:=(hv 2 v2 _ rfl rfl).str_inv
  subst h1 h2
  obtain ⟨us,rfl,hul,hu⟩:=h0.agg_inv
  match us,hul with
  |[u0,u1],_=>
   have k0:=(hu 0 u0 _ rfl rfl).bool_inv
   have k1:=hu 1 u1 _ rfl rfl
   subst k0
   cases k1 with
   |ro _ _ _ ad cap x hlen hcap _ hcell hx=>
    obtain ⟨a,rfl,hb,_,hj⟩:=hcell hp0
    have hcl:(Cs.lst (bvC p)).len=3*p.length:=ybf p
    refine (yvc p n1 n2 a cap w hp0 hMx.1 hb (fun k hk=>?_) hr hn1 hn2 hpl).mono ?_
    ·have e0:=hx (k*3) (by omega)
     have e1:=hx (k*3+1) (by omega)
     have e2:=hx (k*3+2) (by omega)
     obtain ⟨g0,g1,g2⟩:=yco p k hk
     rw [show (Cs.lst (bvC p)).get (k*3)=(bvC p).getD (k*3) .any from rfl,g0] at e0
     rw [show (Cs.lst (bvC p)).get (k*3+1)=(bvC p).getD (k*3+1) .any from rfl,g1] at e1
     rw [show (Cs.lst (bvC p)).get (k*3+2)=(bvC p).getD (k*3+2) .any from rfl,g2] at e2
     refine ⟨?_,?_,?_⟩
     ·rw [hj _ (by omega),e0.int_inv]
     ·rw [hj _ (by omega),e1.int_inv]
     ·rw [hj _ (by omega),e2.int_inv]
    ·rintro e w' ⟨rfl,hb'⟩
     exact ⟨_,rfl,hb', .str _⟩
end Go.Proofs.YtfgbnalnbdhimaaGreatDoor
set_option linter.unusedSimpArgs false
set_option linter.unusedVariables false
namespace Go.Proofs.YtfgbnalnbdhimaaGreatDoor
open Go Go.RowKit
theorem Fn.args {P:Program} {f:Nat} {xs ys:List AV} {r:AV} (h:Fn P f ys r) (hl:LeL xs ys):Fn P f xs r:=
 ⟨h.1,fun w Mx vs hm hlen hv=>h.2 w Mx vs hm (hlen.trans hl.len) fun i v y hi hy=>by
  obtain ⟨x,hx⟩: ∃x,xs[i]?=some x:=by
   have:i<ys.length:=(List.getElem?_eq_some_iff.1 hy).1
   exact ⟨_,List.getElem?_eq_getElem (by rw [hl.len];exact this)⟩
  exact (hl.get i x y hx hy).out _ _ _ _ v (hv i v x hi hx)⟩
end Go.Proofs.YtfgbnalnbdhimaaGreatDoor
namespace Go.Proofs.YtfgbnalnbdhimaaGreatDoor
open Go Go.RowKit
set_option maxRecDepth 100000
set_option maxHeartbeats 8000000
set_option linter.unusedVariables false
set_option linter.unusedSimpArgs false
theorem yq7:Fn Tryz.prog 14 [] (dgA [1,1,1] [9,4,7,10,1,8,11,2,5,0,3,6] ((0:Nat):Int)):=by
 refine Fn.introL [.cell 0 45] Tryz.func14 rfl rfl (by decide) (by simp [Tryz.ntmps14]) ?_;rw [Tryz.ntmps14]
 repeat' (first|omega|(try apply yaa);simp only [go_sem]|apply yab<;>(intro h_;(try simp only [h_]);revert h_)|apply And.intro|with_reducible intro h_|trivial)
 all_goals exact LeA.refl _
theorem y41:Fn Tryz.prog 15 [bvP false [(bvE 2 0,2),(bvE 2 2,1),(bvE 4 0,-1)], .str ⟨#[97]⟩, .str ⟨#[122]⟩] (.str ⟨#[50,97,94,50,43,97,94,50,122,94,50,45,97,94,52]⟩):=by
 have h:=yob [(bvE 2 0,2),(bvE 2 2,1),(bvE 4 0,-1)] ⟨#[97]⟩ ⟨#[122]⟩ (by decide) (fun k hk=>by
  match k,hk with
  |0,_=>decide
  |1,_=>decide
  |2,_=>decide) (by decide) (by decide) (by decide)
 rw [show (yc3 (⟨#[97]⟩:ByteArray).data.toList (⟨#[122]⟩:ByteArray).data.toList [(bvE 2 0,2),(bvE 2 2,1),(bvE 4 0,-1)] [(bvE 2 0,(2:Int)),(bvE 2 2,1),(bvE 4 0,-1)].length)=[50,97,94,50,43,97,94,50,122,94,50,45,97,94,52] by decide+kernel] at h
 exact h
theorem y42:Fn Tryz.prog 15 [bvP false [(bvE (-1) (-1),1),(bvE 1 (-1),-1)], .str ⟨#[97]⟩, .str ⟨#[122]⟩] (.str ⟨#[97,94,45,49,122,94,45,49,45,97,122,94,45,49]⟩):=by
 have h:=yob [(bvE (-1) (-1),1),(bvE 1 (-1),-1)] ⟨#[97]⟩ ⟨#[122]⟩ (by decide) (fun k hk=>by
  match k,hk with
  |0,_=>decide
  |1,_=>decide) (by decide) (by decide) (by decide)
 rw [show (yc3 (⟨#[97]⟩:ByteArray).data.toList (⟨#[122]⟩:ByteArray).data.toList [(bvE (-1) (-1),1),(bvE 1 (-1),-1)] [(bvE (-1) (-1),(1:Int)),(bvE 1 (-1),-1)].length)=[97,94,45,49,122,94,45,49,45,97,122,94,45,49] by decide+kernel] at h
 exact h
theorem yvd:Fn Tryz.prog 4 [] (.bool true):=by
 have h1:=yq7
 have h2:=yq3 y1w ⟨by decide+kernel,by decide,by decide,by decide⟩ (by decide) y4h
 have h3:Fn Tryz.prog 13 [.agg [.nils, .nils,I 2]] (.tup [bvP false [(bvE (-1) (-1),1),(bvE 1 (-1),-1)],I 0]):=
  Fn.args (yq3 y1w ⟨by decide+kernel,by decide,by decide,by decide⟩ (by decide) y6g) (.cons (LeA.aggL (.cons (LeA.nils (by decide) rfl) (.cons (LeA.nils (by decide) rfl) (.cons (LeA.refl _) .nil)))) .nil)
 have h4:=y41
 have h5:=y42
 refine Fn.introL [.tmp 0] Tryz.func4 rfl rfl (by decide) (by simp [Tryz.ntmps4]) ?_;rw [Tryz.ntmps4]
 repeat' (first|omega|(try apply yaa);simp only [go_sem,yad]|refine cgL ?_|refine cgD ?_|apply yab<;>(intro h_;(try simp only [h_]);revert h_)|apply And.intro|with_reducible intro h_|trivial)
 all_goals exact LeA.refl _
end Go.Proofs.YtfgbnalnbdhimaaGreatDoor
set_option linter.unusedSimpArgs false
set_option linter.unusedVariables false
namespace Go.Proofs.YtfgbnalnbdhimaaGreatDoor
open Go Go.RowKit
set_option maxRecDepth 100000
set_option maxHeartbeats 4000000
def y6x:TbA:=[(6,[[17,20,21,22,23],[16,20,21,22,23],[20,21,22,23],[20,21,22,23],[16,17,18,19,21],[16,17,18,19,20],[16,17,18,19],[16,17,18,19],[]],[[],[0],[],[],[0,1,2,3],[0,1,2,3,4],[0,1,2,3],[0,1,2,3],[]])]
theorem yq8:eq2 Tryz.prog 57=true:=by decide+kernel
theorem y6y (p:List (Int×Int)) (hl:p.length<=1000000):Fn Tryz.prog 28 [.ro 2 p.length (.lst (tmC p)), .ro 2 p.length (.lst (tmC p))] (.bool true):=by
 have hlen:=ya9 p
 have b0:((p.length:Int)!=p.length)=false:=by simp
 refine Fn.intro [.tmp 4] Tryz.func28 rfl rfl (by decide) (by simp [Tryz.ntmps28]) ?_;rw [Tryz.ntmps28]
 repeat' (first|omega|(try apply yaa);simp only [go_sem,b0]|apply yab<;>(intro h_;(try simp only [h_]);revert h_)|apply And.intro|with_reducible intro h_|trivial)
 refine yai.intro (fun n fr H=> ∃k:Nat,k<=p.length/\n=p.length-k/\fr=[(13,I k),(12,I p.length),(1, .ro 2 p.length (.lst (tmC p))),(0, .ro 2 p.length (.lst (tmC p)))]/\H=[]) ?_ ?_
 ·refine ⟨_,_,_,?_,0,by omega,rfl,rfl,rfl⟩
  refine Wk.sub ?_ ?_<;>(simp only [go_sem,yac])
 rintro n fr H ⟨k,hk,rfl,rfl,rfl⟩
 by_cases hkl:k<p.length
 ·have g0:=ybr p k hkl
  have g1:=yb5 p k hkl
  have b1:((p.getD k (0,0)).1==(p.getD k (0,0)).1)=true:=by simp
  have b2:((p.getD k (0,0)).2==(p.getD k (0,0)).2)=true:=by simp
  repeat' (first|omega|(first|apply yaa|refine tbN y6x ?_|skip);simp only [go_sem,g0,g1,hlen,b1,b2,yq8]|apply yab<;>(intro h_;(try simp only [h_]);revert h_)|apply And.intro|with_reducible intro h_|trivial)
  all_goals (first|exact yq8|skip)
  refine ⟨_,_,_,?_,?_,⟨k+1,by omega,rfl,rfl,rfl⟩⟩
  ·omega
  ·refine Wk.sub ?_ ?_<;>(simp only [go_sem,yac])
 ·obtain rfl:k=p.length:=by omega
  repeat' (first|omega|(try apply yaa);simp only [go_sem]|apply yab<;>(intro h_;(try simp only [h_]);revert h_)|apply And.intro|with_reducible intro h_|trivial)
theorem yq9 (p:List (Int×Int)) (hl:p.length<=1000000):Fn Tryz.prog 12 [plA false p,plA false p] (.bool true):=by
 have hS:=y6y p hl
 refine Fn.intro [.tmp 4] Tryz.func12 rfl rfl (by decide) (by simp [Tryz.ntmps12]) ?_;rw [Tryz.ntmps12]
 repeat' (first|omega|(try apply yaa);simp only [go_sem,yac]|apply yab<;>(intro h_;(try simp only [h_]);revert h_)|apply And.intro|with_reducible intro h_|trivial)
 refine ⟨yae.fn rfl hS ?_⟩
 repeat' (first|omega|(try apply yaa);simp only [go_sem]|apply yab<;>(intro h_;(try simp only [h_]);revert h_)|apply And.intro|with_reducible intro h_|trivial)
end Go.Proofs.YtfgbnalnbdhimaaGreatDoor
namespace Go.Proofs.YtfgbnalnbdhimaaGreatDoor
open Go Go.RowKit
set_option maxRecDepth 100000
set_option maxHeartbeats 8000000
set_option linter.unusedVariables false
set_option linter.unusedSimpArgs false
def ymk:TbA:=[(9,[[26,30,31,32,33,34],[25,30,31,32,33,34],[30,31,32,33,34],[30,31,32,33,34],[30,31,32,33,34],[25,26,27,28,29,31],[25,26,27,28,29,30],[25,26,27,28,29],[25,26,27,28,29],[25,26,27,28,29],[],[],[],[39,43,44,45,46,47],[38,43,44,45,46,47],[43,44,45,46,47],[43,44,45,46,47],[43,44,45,46,47],[38,39,40,41,42,44],[38,39,40,41,42,43],[38,39,40,41,42],[38,39,40,41,42],[38,39,40,41,42],[],[],[]],[[],[0],[],[],[],[0,1,2,3,4],[0,1,2,3,4,5],[0,1,2,3,4],[0,1,2,3,4],[0,1,2,3,4],[],[],[],[],[13],[],[],[],[13,14,15,16,17],[13,14,15,16,17,18],[13,14,15,16,17],[13,14,15,16,17],[13,14,15,16,17],[],[],[]]),(11,[[52,53,54,55,56,57,58,59,60,61,62,63,64,65,66,67],[51,53,57,58,59,60,61,62,63,64,65,66],[51,52,57,58,59,60,61,62,63,64,65,66],[51,57,58,59,60,61,62,63,64,65,66],[51,57,58,59,60,61,62,63,64,65,66],[51,57,58,59,60,61,62,63,64,65,66],[51,52,53,54,55,56,58,62,63,64,65,66],[51,52,53,54,55,56,57,62,63,64,65,66],[51,52,53,54,55,56,62,63,64,65,66],[51,52,53,54,55,56,62,63,64,65,66],[51,52,53,54,55,56,62,63,64,65,66],[51,52,53,54,55,56,57,58,59,60,61,63],[51,52,53,54,55,56,57,58,59,60,61,62],[51,52,53,54,55,56,57,58,59,60,61],[51,52,53,54,55,56,57,58,59,60,61],[51,52,53,54,55,56,57,58,59,60,61],[51],[],[]],[[],[0],[0,1],[0],[0],[0],[0,1,2,3,4,5],[0,1,2,3,4,5,6],[0,1,2,3,4,5],[0,1,2,3,4,5],[0,1,2,3,4,5],[0,1,2,3,4,5,6,7,8,9,10],[0,1,2,3,4,5,6,7,8,9,10,11],[0,1,2,3,4,5,6,7,8,9,10],[0,1,2,3,4,5,6,7,8,9,10],[0,1,2,3,4,5,6,7,8,9,10],[0],[],[]]),(14,[[81,82,9],[80,9],[80,9],[9],[9],[85,9],[84,9],[80,81,82,83,79,84,85],[85],[]],[[],[0],[0],[],[],[],[5],[0,1,2,3,4,5,6],[6],[]]),(15,[[88,89,90,91,11],[87,11],[87,11],[87,11],[87,11],[11],[11],[94,11],[93,11],[87,88,89,90,91,92,86,93,94],[94],[]],[[],[0],[0],[0],[0],[],[],[],[7],[0,1,2,3,4,5,6,7,8],[8],[]])]
theorem yi2 (m:Option (List (Int×Int))):bvO m=bvP m.isNone (m.getD []):=by cases m<;>rfl
def sumZ (zs:List Int):Nat->Option (List (Int×Int))
 |0=>some []
 |i+1=>adBO (sumZ zs i) (trmO (zs.getD (i*3+2) 0) (zs.getD (i*3) 0) (zs.getD (i*3+1) 0))
theorem yol (n:Nat) (zs:List Int) (hzs:zs.length=n*3):Fn Tryz.prog 3 [.ro 3 n (.ints zs)] (.bool true):=by
 have hA:=yvd
 by_cases h6:6<n
 ·have b6:decide ((6:Int)<n)=true:=by rw [decide_eq_true_iff];omega
  refine Fn.intro [.tmp 2] Tryz.func3 rfl rfl (by decide) (by simp [Tryz.ntmps3]) ?_;rw [Tryz.ntmps3]
  repeat' (first|omega|(try apply yaa);simp only [go_sem,b6]|refine cgL ?_|refine cgD ?_|apply yab<;>(intro h_;(try simp only [h_]);revert h_)|apply And.intro|with_reducible intro h_|trivial)
 have b6:decide ((6:Int)<n)=false:=by rw [decide_eq_false_iff_not];omega
 have hT0:=yn7 0 0 0 (by decide) (by decide)
 rw [show bvO (trmO 0 0 0)=bvP false [] from rfl] at hT0
 refine Fn.intro [.tmp 2] Tryz.func3 rfl rfl (by decide) (by simp [Tryz.ntmps3]) ?_;rw [Tryz.ntmps3]
 repeat' (first|omega|(try apply yaa);simp only [go_sem,b6,yad]|refine cgL ?_|refine cgD ?_|apply yab<;>(intro h_;(try simp only [h_]);revert h_)|apply And.intro|with_reducible intro h_|trivial)
 refine yai.intro (fun m fr H=> ∃i:Nat,i<=n/\m=n-i/\(∀q,sumZ zs i=some q->OkB q)/\fr=[(4,I i),(3, .ptr 0 0),(0, .ro 3 n (.ints zs))]/\H=[(0, .cells 26 (.lst [.bool (sumZ zs i).isNone,bvT ((sumZ zs i).getD [])]))]) ?_ ?_
 ·refine ⟨_,_,_,Wk.sub ?_ ?_,0,by omega,rfl,(fun q h=>by cases h;exact OkB.nil),rfl,rfl⟩
  ·simp only [go_sem,yad]
  ·simp only [go_sem,yad,sumZ,Option.isNone_some,Option.getD_some]
 rintro m fr H ⟨i,hi,rfl,hok,rfl,rfl⟩
 by_cases hin:i<n
 ·have bi:decide ((i:Int)<n)=true:=by rw [decide_eq_true_iff];omega
  have hstep:sumZ zs (i+1)=adBO (sumZ zs i) (trmO (zs.getD (i*3+2) 0) (zs.getD (i*3) 0) (zs.getD (i*3+1) 0)):=rfl
  generalize sumZ zs i=P at*
  obtain ⟨x,hx⟩: ∃x,zs.getD (i*3) 0=x:=⟨_,rfl⟩
  obtain ⟨y,hy⟩: ∃y,zs.getD (i*3+1) 0=y:=⟨_,rfl⟩
  obtain ⟨c,hc⟩: ∃c,zs.getD (i*3+2) 0=c:=⟨_,rfl⟩
  rw [hx,hy,hc] at hstep
  by_cases h1:20<(if x<y then y else x)
  ·have b1:decide (20<(if x<y then y else x))=true:=by rw [decide_eq_true_iff];exact h1
   repeat' (first|omega|(first|apply yaa|refine tbN ymk ?_|skip);simp only [go_sem,bi,hx,hy,hc,b1,hzs]|refine cgL ?_|refine cgD ?_|apply yab<;>(intro h_;(try simp only [h_]);revert h_)|apply And.intro|with_reducible intro h_|trivial)
   all_goals skip
  have b1:decide (20<(if x<y then y else x))=false:=by rw [decide_eq_false_iff_not];exact h1
  by_cases h2:(if y<x then y else x)< -20
  ·have b2:decide ((if y<x then y else x)< -20)=true:=by rw [decide_eq_true_iff];exact h2
   repeat' (first|omega|(first|apply yaa|refine tbN ymk ?_|skip);simp only [go_sem,bi,hx,hy,hc,b1,b2,hzs]|refine cgL ?_|refine cgD ?_|apply yab<;>(intro h_;(try simp only [h_]);revert h_)|apply And.intro|with_reducible intro h_|trivial)
  have b2:decide ((if y<x then y else x)< -20)=false:=by rw [decide_eq_false_iff_not];exact h2
  have hxy:(-20<=x/\x<=20)/\ -20<=y/\y<=20:=by
   split at h1<;>split at h2<;>omega
  have hT:=yn7 c x y hxy.1 hxy.2
  have hAd:=y1e (P:=P) (Q:=trmO c x y) hok (fun q hq=>OkB.trm hxy.1 hxy.2 hq)
  have hok':=OkB.add (P:=P) (Q:=trmO c x y) hok (fun q hq=>OkB.trm hxy.1 hxy.2 hq)
  rw [←hstep] at hAd hok'
  rw [yi2] at hT
  rw [yi2,yi2,yi2] at hAd
  clear hstep
  generalize hP1:sumZ zs (i+1)=P1 at*
  generalize hb1:P1.isNone=q1 at*
  generalize hl1:P1.getD []=l1 at*
  generalize P.isNone=q0 at*
  generalize P.getD []=l0 at*
  generalize (trmO c x y).isNone=q2 at*
  generalize (trmO c x y).getD []=l2 at*
  repeat' (first|omega|(first|apply yaa|refine tbN ymk ?_|skip);simp only [go_sem,bi,hx,hy,hc,b1,b2,hzs,yad]|refine cgL ?_|refine cgD ?_|apply yab<;>(intro h_;(try simp only [h_]);revert h_)|apply And.intro|with_reducible intro h_|trivial)
  refine ⟨_,_,_,?_,Wk.sub ?_ ?_,i+1,by omega,rfl,(by rw [hP1];exact hok'),rfl,by rw [hP1,hb1,hl1]⟩
  ·omega
  ·simp only [go_sem,yad]
  ·simp only [go_sem,yad]
 obtain rfl:i=n:=by omega
 have bi:decide ((i:Int)<i)=false:=by simp
 generalize sumZ zs i=P at*
 obtain ⟨R1,er1,r1,h1⟩:=y1f hok
 obtain ⟨R2,er2,r2,h2⟩:=y1g hok
 rw [yi2] at h1 h2
 generalize P.isNone=q0 at*
 generalize P.getD []=l0 at*
 have hC:=yrs h1
 have hJ:=yu8 h2
 have t1:=ycc 1 0 (by decide) (by decide)
 have t2:=ycc 1 1 (by decide) (by decide)
 have t3:=ycc 1 (-4) (by decide) (by decide)
 have t4:=ycc 1 (-2) (by decide) (by decide)
 have t5:=ycc 1 2 (by decide) (by decide)
 rw [show trm 1 0=[(0,1)] from rfl] at t1
 rw [show trm 1 1=[(1,1)] from rfl] at t2
 rw [show trm 1 (-4)=[(-4,1)] from rfl] at t3
 rw [show trm 1 (-2)=[(-2,1)] from rfl] at t4
 rw [show trm 1 2=[(2,1)] from rfl] at t5
 have hS:=y4s
 have e1:=yq9 R1 (by omega)
 have e2:=yq9 R2 (by omega)
 have c1:(er1==er1)=true:=by simp
 have c2:(er2==er2)=true:=by simp
 repeat' (first|omega|(first|apply yaa|refine tbN ymk ?_|skip);simp only [go_sem,bi,c1,c2,yac,yad]|refine cgL ?_|refine cgD ?_|apply yab<;>(intro h_;(try simp only [h_]);revert h_)|apply And.intro|with_reducible intro h_|trivial)
end Go.Proofs.YtfgbnalnbdhimaaGreatDoor
