/- strings.Builder and strconv.Itoa: what the texts of polynomials share. -/
import Derived.Test.YtjpbeacamoijhaaGreatDoorZn
import Derived.Test.YtjpbeacamoijhaaGreatDoorSh
import Derived.Test.YtjpbeacamoijhaaGreatDoorGa
import Derived.Lib.ItoaLen
import Derived.Lib.AppendIntMem
import Derived.Test.YtjpbeacamoijhaaGreatDoorZa
import Derived.Lib.Hide
import Derived.Test.YtjpbeacamoijhaaGreatDoorZc
import Derived.Test.YtjpbeacamoijhaaGreatDoorZl
set_option linter.unusedSimpArgs false
set_option linter.unusedVariables false
namespace Go.Proofs.YtjpbeacamoijhaaGreatDoor
open Go Go.RowKit Go.Shelf
set_option maxHeartbeats 4000000
set_option maxRecDepth 100000
theorem A3 {n:Int} (h0: -9223372036854775808<=n) (h1:n<=9223372036854775807):(Lib.itoa n).length<=21:=Lib.itoa_length_le n h0 h1
theorem y2p {B b:Nat} {bs:List Value} {W W':World} (h:Lib.IsBuilderF 82 5 B b bs W) (hb:Below W.heap.size W W'):Lib.IsBuilderF 82 5 B b bs W':=by
 have key: ∀p,Lib.BuilderAtF 82 5 B b p bs W->Lib.BuilderAtF 82 5 B b p bs W':=by
  rintro p ⟨h1,v,h2,h3,h4⟩;refine ⟨h1,v,?_,?_,h4⟩
  ·rw [hb.block b (Array.getElem?_eq_some_iff.1 h2).1];exact h2
  ·refine ⟨h3.1,?_⟩;rcases h3.2 with hn|⟨g,cap,cur,fz,rfl,g1,g2,rest⟩
   ·exact .inl hn
   ·exact .inr ⟨g,cap,cur,fz,rfl,g1,by rw [hb.block g (Array.getElem?_eq_some_iff.1 g2).1];exact g2,rest⟩
 exact h.imp (key _) (key _)
section
variable {w W:World} {b:Nat} {acc:List UInt8}
theorem TS.string (h:Lib.IsBuilderF 82 5 w.heap.size b (Lib.byteCells acc) W) (hb:Below w.heap.size w W):
  Calls Tryz.prog 53 #[.pointer (some ⟨b,0,none⟩)] W fun r W'=>r= .returned (.string ⟨acc.toArray⟩)/\Below w.heap.size w W':=by
 refine (Tryz.Builder_String_any_k w.heap.size b acc W h hb.size).mono ?_;rintro r W' ⟨rfl,_,h2,_⟩;exact ⟨rfl,hb.trans h2⟩
end
theorem Ip (a:Addr) (i j:Nat):(a.add i).add j=a.add (i+j):=by
 unfold Addr.add;by_cases hi:i=0<;>by_cases hj:j=0<;>simp [hi,hj,Nat.add_assoc]
theorem x7 (a:Addr) (i:Nat):(a.add i).block=a.block:=by unfold Addr.add;split<;>rfl
theorem Tq (w:World) (o:Obj):(w.alloc o).heap[w.heap.size]?=some o:=by
 show (w.heap.push o)[w.heap.size]?=some o;simp
theorem B6 {n:Int} (h0: -9223372036854775808<=n) (h1:n<=9223372036854775807):(⟨(Lib.itoa n).toArray⟩:ByteArray).size<=100000:=by
 have:=A3 h0 h1
 show (Lib.itoa n).toArray.size<=100000;simp;omega
theorem ZN (w:World) (o:Obj):Lib.IsBuilderF 82 5 w.heap.size (w.heap.size+1) (Lib.byteCells []) ((w.alloc o).alloc (.cells #[.pointer none, .slice none 0 0] 82))/\
  Below w.heap.size w ((w.alloc o).alloc (.cells #[.pointer none, .slice none 0 0] 82))/\w.heap.size+1<((w.alloc o).alloc (.cells #[.pointer none, .slice none 0 0] 82)).heap.size:=by
 have e1:(w.alloc o).heap.size=w.heap.size+1:=by show (w.heap.push o).size=_;simp
 have e2:=Tq (w.alloc o) (.cells #[.pointer none, .slice none 0 0] 82);rw [e1] at e2;refine ⟨.inl ⟨by omega, .slice none 0 0,e2,⟨rfl, .inl ⟨rfl,rfl⟩⟩,by simp [Value.ownBlock]⟩,((Below.refl _ w).alloc (zzA _) _).alloc (by omega) _,?_⟩;exact (Array.getElem?_eq_some_iff.1 e2).1
structure TB (w:World) (b K:Nat) (x z c:Int) (acc:List UInt8) (W:World):Prop where
 bld:Lib.IsBuilderF 82 5 w.heap.size b (Lib.byteCells acc) W
 row:W.heap[K]?=some (.cells #[.int .i64 x, .int .i64 z, .int .i64 c] 74 (0,0))
 ne:K≠b
 bel:Below w.heap.size w W
section
variable {w W:World} {b K:Nat} {x z c:Int} {acc:List UInt8}
theorem TB.c0 (h:TB w b K x z c acc W):W.cell? ⟨K,0,none⟩=some (.int .i64 x):=by rw [Lib.cell_of_heap h.row];rfl
theorem TB.c1 (h:TB w b K x z c acc W):W.cell? ⟨K,1,none⟩=some (.int .i64 z):=by rw [Lib.cell_of_heap h.row];rfl
theorem TB.c2 (h:TB w b K x z c acc W):W.cell? ⟨K,2,none⟩=some (.int .i64 c):=by rw [Lib.cell_of_heap h.row];rfl
theorem TB.Gy (h:TB w b K x z c acc W) {W':World} (hk:Lib.OthersKept 5 (some b) W W'):W'.heap[K]?=some (.cells #[.int .i64 x, .int .i64 z, .int .i64 c] 74 (0,0)):=
 hk K _ h.row (fun q=>h.ne (Option.some.inj q)) (fun x fz q=>by simp at q)
theorem TB.byte (h:TB w b K x z c acc W) (u:UInt8) (n:Int) (hx:(u.toNat:Int)=n) (hl:acc.length<=100000000000):
  Calls Tryz.prog 51 #[.pointer (some ⟨b,0,none⟩), .int .u8 n] W fun r W'=>r= .returned .nilIface/\TB w b K x z c (acc++[u]) W':=by
 subst hx;refine (y5p w.heap.size b _ u.toNat W h.bld (by rw [Lib.byteCells_length];omega) h.bel.size).mono ?_;rintro r W' ⟨rfl,h1,h2,h3⟩;exact ⟨rfl,by rw [Lib.byteCells_append];exact .inr h1,h.Gy h3,h.ne,h.bel.trans h2⟩
theorem TB.str (h:TB w b K x z c acc W) (s:ByteArray) (hl:acc.length<=100000000000) (hs:s.size<=100000):
  Calls Tryz.prog 50 #[.pointer (some ⟨b,0,none⟩), .string s] W fun r W'=>r= .returned (.tuple #[.int .i64 s.size, .nilIface])/\TB w b K x z c (acc++s.data.toList) W':=by
 refine (y9m w.heap.size b _ s W h.bld (by rw [Lib.byteCells_length];omega) h.bel.size).mono ?_;rintro r W' ⟨rfl,h1,h2,h3⟩;exact ⟨rfl,by rw [Lib.byteCells_append];exact .inr h1,h.Gy h3,h.ne,h.bel.trans h2⟩
theorem TB.itoa (h:TB w b K x z c acc W) (hg:Good w) (n:Int) (h0: -9223372036854775808<=n) (h1:n<=9223372036854775807):
  Calls Tryz.prog 52 #[.int .i64 n] W fun r W'=>r= .returned (.string ⟨(Lib.itoa n).toArray⟩)/\TB w b K x z c acc W':=by
 refine (Tryz.strconv_Itoa n h0 h1 W (hg.later h.bel)).mono ?_;rintro r W' ⟨rfl,k,os,rfl⟩;have hb:=Lib.below_grow W.heap.size W (zzA _) k os;exact ⟨rfl,y2p h.bld hb,by rw [hb.block K (Array.getElem?_eq_some_iff.1 h.row).1];exact h.row,h.ne,h.bel.trans ⟨hb.os,hb.tape,hb.output,hb.size,fun j hj=>hb.block j (by have:=h.bel.size;omega)⟩⟩
end
def oO (name:List UInt8) (e:Int):List UInt8:=(if e=0 then [] else name)++(if e=0\/e=1 then [] else 94::Lib.itoa e)
def rJ (n1 n2:List UInt8) (i:Nat) (x z c:Int):List UInt8:=
 (if c<0 then [45] else if 0<i then [43] else [])++((if (if c<0 then 0-c else c)=1/\ ¬(x=0/\z=0) then [] else Lib.itoa (if c<0 then 0-c else c))++(oO n1 x++oO n2 z))
def um (n1 n2:List UInt8) (p:List (Int×Int)):Nat->List UInt8
 |0=>[]
 |k+1=>um n1 n2 p k++rJ n1 n2 k (aJ (p.getD k (0,0)).1) (aB (p.getD k (0,0)).1) (p.getD k (0,0)).2
set_option maxHeartbeats 8000000
theorem JK {nm:List UInt8} {e:Int} (hn:nm.length<=1000) (h0: -4611686018427387904<=e) (h1:e<=4611686018427387904):(oO nm e).length<=1022:=by
 have h2:=A3 (n:=e) (by omega) (by omega);have l3:(if e=0 then ([]:List UInt8) else nm).length<=1000:=by
  split
  ·simp
  ·exact hn
 have l4:(if e=0\/e=1 then ([]:List UInt8) else 94::Lib.itoa e).length<=22:=by
  split
  ·simp
  ·simp;omega
 unfold oO;rw [zzF];omega
theorem y2q {n1 n2:List UInt8} {k:Nat} {x z c:Int} (jS:n1.length<=1000) (ju:n2.length<=1000) (hr:(-4611686018427387904<=x/\x<=4611686018427387904)/\(-4611686018427387904<=z/\z<=4611686018427387904)/\ -4611686018427387904<=c/\c<=4611686018427387904):(rJ n1 n2 k x z c).length<=3000:=by
 have h2:=A3 (n:=c) (by omega) (by omega);have h3:=A3 (n:=0-c) (by omega) (by omega);have h4:=JK jS hr.1.1 hr.1.2;have h5:=JK ju hr.2.1.1 hr.2.1.2;have l1:(if c<0 then [45] else if 0<k then [43] else ([]:List UInt8)).length<=1:=by
  split
  ·simp
  ·split<;>simp
 have l2:(if (if c<0 then 0-c else c)=1/\ ¬(x=0/\z=0) then ([]:List UInt8) else Lib.itoa (if c<0 then 0-c else c)).length<=21:=by
  by_cases wv:c<0
  ·rw [zzJ wv]
   split
   ·simp
   ·exact h3
  ·rw [zzI wv]
   split
   ·simp
   ·exact h2
 unfold rJ;rw [zzF,zzF,zzF];omega
theorem TB.pow {w W:World} {b K:Nat} {x z c:Int} {acc:List UInt8} (h:TB w b K x z c acc W) (hg:Good w) (nm:ByteArray) (e:Int) (hn:nm.size<=1000) (hl:acc.length<=10000000000) (h0: -4611686018427387904<=e) (h1:e<=4611686018427387904):
  Calls Tryz.prog 49 #[.string nm, .int .i64 e, .pointer (some ⟨b,0,none⟩)] W fun r W'=>r= .returned (.tuple #[])/\TB w b K x z c (acc++oO nm.data.toList e) W':=by
 have zo:nm.data.toList.length<=1000:=hn;have ie:=A3 (n:=e) (by omega) (by omega);by_cases Ql:e=0
 ·subst Ql;have e1:acc++oO nm.data.toList 0=acc:=by simp [oO]
  rw [e1]
  go_enter Tryz.func49,Tryz.ntmps49
  go_wp2
  (try simp only [Exit.inBlock,Exit.then])
  refine bodyPost_ret (results_none rfl _ _ _) rfl ?_;exact ⟨rfl,h⟩
 ·have be0:(e==0)=false:=by simpa using Ql
  by_cases Qk:e=1
  ·subst Qk;have e1:oO nm.data.toList 1=nm.data.toList:=by simp [oO]
   rw [e1]
   go_enter Tryz.func49,Tryz.ntmps49
   go_wp2_with (go_at_call 50;refine (h.str nm (by omega) (by omega)).mono ?_)
   intro r1 W1 hq
   first|(intro h1;subst hq)|(obtain ⟨hq,h1⟩:=hq;subst hq)
   go_wp2
   first|go_ret|go_end0|go_ret2
   exact ⟨rfl,h1⟩
  ·have be1:(e==1)=false:=by simpa using Qk
   have e1:acc++oO nm.data.toList e=((acc++nm.data.toList)++[94])++(⟨(Lib.itoa e).toArray⟩:ByteArray).data.toList:=by simp [oO,Ql,Qk]
   rw [e1]
   go_enter Tryz.func49,Tryz.ntmps49
   go_wp2_with (go_at_call 50;refine (h.str nm (by omega) (by omega)).mono ?_)
   intro r1 W1 hq
   first|(intro h1;subst hq)|(obtain ⟨hq,h1⟩:=hq;subst hq)
   go_wp2_with (go_at_call 51;refine (h1.byte 94 94 rfl (by simp only [zzF];omega)).mono ?_)
   intro r2 W2 hq
   first|(intro h2;subst hq)|(obtain ⟨hq,h2⟩:=hq;subst hq)
   go_wp2_with (go_at_call 52;refine (h2.itoa hg e (by omega) (by omega)).mono ?_)
   intro r3 W3 hq
   first|(intro h3;subst hq)|(obtain ⟨hq,h3⟩:=hq;subst hq)
   go_wp2_with (go_at_call 50;refine (h3.str ⟨(Lib.itoa e).toArray⟩ (by simp only [zzF,zzG,List.length_nil];omega) (B6 (by omega) (by omega))).mono ?_)
   intro r4 W4 hq
   first|(intro h4;subst hq)|(obtain ⟨hq,h4⟩:=hq;subst hq)
   go_wp2
   first|go_ret|go_end0|go_ret2
   exact ⟨rfl,by simpa using h4⟩
theorem vY {p:List (Int×Int)} {n1 n2:List UInt8} {w W:World} {k K:Nat} {x z c:Int} {acc:List UInt8} {v:Value} (cJ:k<p.length) (hx:aJ (p.getD k (0,0)).1=x) (hz:aB (p.getD k (0,0)).1=z) (hc:(p.getD k (0,0)).2=c)
  (hT:TB w (w.heap.size+1) K x z c acc W) (hL:(um n1 n2 p k).length<=k*3000) (jS:n1.length<=1000) (ju:n2.length<=1000)
  (hr:(-4611686018427387904<=x/\x<=4611686018427387904)/\(-4611686018427387904<=z/\z<=4611686018427387904)/\ -4611686018427387904<=c/\c<=4611686018427387904) (sH:acc=um n1 n2 p k++rJ n1 n2 k x z c) (hv:v= .int .i64 ((k:Int)+1)):
  ∃k:Nat,k<=p.length/\v= .int .i64 k/\Lib.IsBuilderF 82 5 w.heap.size (w.heap.size+1) (Lib.byteCells (um n1 n2 p k)) W/\Below w.heap.size w W/\(um n1 n2 p k).length<=k*3000/\w.heap.size+1<W.heap.size:=by
 have e1:um n1 n2 p (k+1)=acc:=by rw [sH];show um n1 n2 p k++rJ n1 n2 k (aJ (p.getD k (0,0)).1) (aB (p.getD k (0,0)).1) (p.getD k (0,0)).2=_;rw [hx,hz,hc]
 have aD:w.heap.size+1<W.heap.size:=by
  rcases hT.bld with h|h
  ·exact h.lt
  ·exact h.lt
 refine ⟨k+1,by omega,?_,by rw [e1];exact hT.bld,hT.bel,?_,aD⟩
 ·rw [hv];simp
 ·rw [e1,sH,zzF]
  have:=y2q (k:=k) jS ju hr
  omega
theorem ZM (p:List (Int×Int)) (n1 n2:ByteArray) (a:Addr) (cap:Nat) (w:World) (rD:0<p.length) (hg:Good w) (ha:a.block<w.heap.size)
  (hc: ∀k,k<p.length->w.cell? (a.add (k*3))=some (.int .i64 (aJ (p.getD k (0,0)).1))/\w.cell? (a.add (k*3+1))=some (.int .i64 (aB (p.getD k (0,0)).1))/\w.cell? (a.add (k*3+2))=some (.int .i64 (p.getD k (0,0)).2))
  (hr: ∀k,k<p.length->(-4611686018427387904<=aJ (p.getD k (0,0)).1/\aJ (p.getD k (0,0)).1<=4611686018427387904)/\(-4611686018427387904<=aB (p.getD k (0,0)).1/\aB (p.getD k (0,0)).1<=4611686018427387904)/\ -4611686018427387904<=(p.getD k (0,0)).2/\(p.getD k (0,0)).2<=4611686018427387904)
  (jS:n1.size<=1000) (ju:n2.size<=1000) (og:p.length<=1000000):
  Calls Tryz.prog 14 #[.agg #[.bool false, .slice (some a) p.length cap], .string n1, .string n2] w fun e w'=>e= .returned (.string ⟨(um n1.data.toList n2.data.toList p p.length).toArray⟩)/\Below w.heap.size w w':=by
 have C3:((p.length:Int)==0)=false:=by simp;intro h;rw [h] at rD;simp at rD
 have nt:n1.data.toList.length<=1000:=jS;have ns:n2.data.toList.length<=1000:=ju;have HC:=Lib.hid hc;have HR:=Lib.hid hr;clear hc hr
 go_enter Tryz.func14,Tryz.ntmps14
 go_wp2
 go_loopw [24] (fun i wr=> ∃k:Nat,k<=p.length/\i= .int .i64 k/\Lib.IsBuilderF 82 5 w.heap.size (w.heap.size+1) (Lib.byteCells (um n1.data.toList n2.data.toList p k)) wr/\Below w.heap.size w wr/\(um n1.data.toList n2.data.toList p k).length<=k*3000/\w.heap.size+1<wr.heap.size) (fun i _=>p.length-(intOf i).toNat)
 case atStart=>
  have h:=ZN w (.cells #[.bool false, .slice (some a) p.length cap] 29);exact ⟨0,Nat.zero_le _,rfl,h.1,h.2.1,Nat.zero_le _,h.2.2⟩
 case round=>
  obtain ⟨k,hk,rfl,hI,hb,hL,hz⟩:=hrel;by_cases cJ:k<p.length
  ·have Hx:=HC.out k cJ;have cI:=HR.out k cJ;obtain ⟨x,hx⟩: ∃x,aJ (p.getD k (0,0)).1=x:=⟨_,rfl⟩;obtain ⟨z,wb⟩: ∃z,aB (p.getD k (0,0)).1=z:=⟨_,rfl⟩;obtain ⟨c,rE⟩: ∃c,(p.getD k (0,0)).2=c:=⟨_,rfl⟩;rw [hx,wb,rE] at cI Hx;have HX:=Lib.hid hx;have HZ:=Lib.hid wb;have HV:=Lib.hid rE;clear hx wb rE
   have g0:wr.cell? (a.add (k*3))=some (.int .i64 x):=by rw [hb.cell (by rw [x7];exact ha)];exact Hx.1
   have g1:wr.cell? ⟨(a.add (k*3)).block,(a.add (k*3)).off+1,none⟩=some (.int .i64 z):=by
    show wr.cell? ((a.add (k*3)).add 1)=_;rw [hb.cell (by rw [x7,x7];exact ha),Ip];exact Hx.2.1
   have g2:wr.cell? ⟨(a.add (k*3)).block,(a.add (k*3)).off+2,none⟩=some (.int .i64 c):=by
    show wr.cell? ((a.add (k*3)).add 2)=_;rw [hb.cell (by rw [x7,x7];exact ha),Ip];exact Hx.2.2
   clear Hx;have tJ:TB w (w.heap.size+1) wr.heap.size x z c (um n1.data.toList n2.data.toList p k) (wr.alloc (.cells #[.int .i64 x, .int .i64 z, .int .i64 c] 74)):=⟨hI.alloc _,Tq wr _,by omega,hb.alloc (by omega) _⟩;have wF:=tJ.c0;have wE:=tJ.c1;have wD:=tJ.c2;have ic:=A3 (n:=c) (by omega) (by omega);have id:=A3 (n:= -c) (by omega) (by omega);have i1:=A3 (n:=1) (by omega) (by omega)
   have lx:=JK nt cI.1.1 cI.1.2;have lz:=JK ns cI.2.1.1 cI.2.1.2;by_cases tz:c<0
   ·have xE:True:=trivial;by_cases p9:c= -1
    ·subst p9;by_cases oU:x=0
     ·by_cases rC:z=0
      ·subst oU rC
       go_wp2_with (go_at_call 51;refine (tJ.byte 45 45 rfl (by first|omega|(simp only [zzF,zzG,List.length_nil];omega))).mono ?_)
       intro r1 W1 hq
       first|(intro bM;subst hq)|(obtain ⟨hq,bM⟩:=hq;subst hq)
       have pC:=bM.c0;have pB:=bM.c1;have pA:=bM.c2;clear wF wE wD
       go_wp2_with (go_at_call 52;refine (bM.itoa hg 1 (by omega) (by omega)).mono ?_)
       intro r2 W2 hq
       first|(intro cu;subst hq)|(obtain ⟨hq,cu⟩:=hq;subst hq)
       have qh:=cu.c0;have qg:=cu.c1;have qf:=cu.c2;clear pC pB pA
       go_wp2_with (go_at_call 50;refine (cu.str ⟨(Lib.itoa 1).toArray⟩ (by first|omega|(simp only [zzF,zzG,List.length_nil];omega)) (B6 (by omega) (by omega))).mono ?_)
       intro r3 W3 hq
       first|(intro dy;subst hq)|(obtain ⟨hq,dy⟩:=hq;subst hq)
       have tP:=dy.c0;have tO:=dy.c1;have tN:=dy.c2;clear qh qg qf
       go_wp2_with (go_at_call 49;refine (dy.pow hg n1 0 jS (by first|omega|(simp only [zzF,zzG,List.length_nil];omega)) cI.1.1 cI.1.2).mono ?_)
       intro r4 W4 hq
       first|(intro jU;subst hq)|(obtain ⟨hq,jU⟩:=hq;subst hq)
       have AL:=jU.c0;have AK:=jU.c1;have AJ:=jU.c2;clear tP tO tN
       go_wp2_with (go_at_call 49;refine (jU.pow hg n2 0 ju (by first|omega|(simp only [zzF,zzG,List.length_nil];omega)) cI.2.1.1 cI.2.1.2).mono ?_)
       intro r5 W5 hq
       first|(intro nC;subst hq)|(obtain ⟨hq,nC⟩:=hq;subst hq)
       have Q5:=nC.c0;have Q4:=nC.c1;have Q3:=nC.c2;clear AL AK AJ
       go_wp2
       go_roundw
       case rel=>exact vY cJ HX.out HZ.out HV.out nC hL nt ns cI (by simp [rJ]) rfl
       case measure=>simp [intOf];omega
      ·have bz:(z==0)=false:=by simpa using rC
       subst oU;have xf:z≠0:=rC
       go_wp2_with (go_at_call 51;refine (tJ.byte 45 45 rfl (by first|omega|(simp only [zzF,zzG,List.length_nil];omega))).mono ?_)
       intro r1 W1 hq
       first|(intro bM;subst hq)|(obtain ⟨hq,bM⟩:=hq;subst hq)
       have pC:=bM.c0;have pB:=bM.c1;have pA:=bM.c2;clear wF wE wD
       go_wp2_with (go_at_call 49;refine (bM.pow hg n1 0 jS (by first|omega|(simp only [zzF,zzG,List.length_nil];omega)) cI.1.1 cI.1.2).mono ?_)
       intro r2 W2 hq
       first|(intro cu;subst hq)|(obtain ⟨hq,cu⟩:=hq;subst hq)
       have qh:=cu.c0;have qg:=cu.c1;have qf:=cu.c2;clear pC pB pA
       go_wp2_with (go_at_call 49;refine (cu.pow hg n2 z ju (by first|omega|(simp only [zzF,zzG,List.length_nil];omega)) cI.2.1.1 cI.2.1.2).mono ?_)
       intro r3 W3 hq
       first|(intro dy;subst hq)|(obtain ⟨hq,dy⟩:=hq;subst hq)
       have tP:=dy.c0;have tO:=dy.c1;have tN:=dy.c2;clear qh qg qf
       go_wp2
       go_roundw
       case rel=>exact vY cJ HX.out HZ.out HV.out dy hL nt ns cI (by simp [rJ,xf]) rfl
       case measure=>simp [intOf];omega
     ·have bx:(x==0)=false:=by simpa using oU
      have xf:x≠0:=oU
      go_wp2_with (go_at_call 51;refine (tJ.byte 45 45 rfl (by first|omega|(simp only [zzF,zzG,List.length_nil];omega))).mono ?_)
      intro r1 W1 hq
      first|(intro bM;subst hq)|(obtain ⟨hq,bM⟩:=hq;subst hq)
      have pC:=bM.c0;have pB:=bM.c1;have pA:=bM.c2;clear wF wE wD
      go_wp2_with (go_at_call 49;refine (bM.pow hg n1 x jS (by first|omega|(simp only [zzF,zzG,List.length_nil];omega)) cI.1.1 cI.1.2).mono ?_)
      intro r2 W2 hq
      first|(intro cu;subst hq)|(obtain ⟨hq,cu⟩:=hq;subst hq)
      have qh:=cu.c0;have qg:=cu.c1;have qf:=cu.c2;clear pC pB pA
      go_wp2_with (go_at_call 49;refine (cu.pow hg n2 z ju (by first|omega|(simp only [zzF,zzG,List.length_nil];omega)) cI.2.1.1 cI.2.1.2).mono ?_)
      intro r3 W3 hq
      first|(intro dy;subst hq)|(obtain ⟨hq,dy⟩:=hq;subst hq)
      have tP:=dy.c0;have tO:=dy.c1;have tN:=dy.c2;clear qh qg qf
      go_wp2
      go_roundw
      case rel=>exact vY cJ HX.out HZ.out HV.out dy hL nt ns cI (by simp [rJ,xf]) rfl
      case measure=>simp [intOf];omega
    ·have p9: ¬ -c=1:=by omega
     go_wp2_with (go_at_call 51;refine (tJ.byte 45 45 rfl (by first|omega|(simp only [zzF,zzG,List.length_nil];omega))).mono ?_)
     intro r1 W1 hq
     first|(intro bM;subst hq)|(obtain ⟨hq,bM⟩:=hq;subst hq)
     have pC:=bM.c0;have pB:=bM.c1;have pA:=bM.c2;clear wF wE wD
     go_wp2_with (go_at_call 52;refine (bM.itoa hg (-c) (by omega) (by omega)).mono ?_)
     intro r2 W2 hq
     first|(intro cu;subst hq)|(obtain ⟨hq,cu⟩:=hq;subst hq)
     have qh:=cu.c0;have qg:=cu.c1;have qf:=cu.c2;clear pC pB pA
     go_wp2_with (go_at_call 50;refine (cu.str ⟨(Lib.itoa (-c)).toArray⟩ (by first|omega|(simp only [zzF,zzG,List.length_nil];omega)) (B6 (by omega) (by omega))).mono ?_)
     intro r3 W3 hq
     first|(intro dy;subst hq)|(obtain ⟨hq,dy⟩:=hq;subst hq)
     have tP:=dy.c0;have tO:=dy.c1;have tN:=dy.c2;clear qh qg qf
     go_wp2_with (go_at_call 49;refine (dy.pow hg n1 x jS (by first|omega|(simp only [zzF,zzG,List.length_nil];omega)) cI.1.1 cI.1.2).mono ?_)
     intro r4 W4 hq
     first|(intro jU;subst hq)|(obtain ⟨hq,jU⟩:=hq;subst hq)
     have AL:=jU.c0;have AK:=jU.c1;have AJ:=jU.c2;clear tP tO tN
     go_wp2_with (go_at_call 49;refine (jU.pow hg n2 z ju (by first|omega|(simp only [zzF,zzG,List.length_nil];omega)) cI.2.1.1 cI.2.1.2).mono ?_)
     intro r5 W5 hq
     first|(intro nC;subst hq)|(obtain ⟨hq,nC⟩:=hq;subst hq)
     have Q5:=nC.c0;have Q4:=nC.c1;have Q3:=nC.c2;clear AL AK AJ
     go_wp2
     go_roundw
     case rel=>exact vY cJ HX.out HZ.out HV.out nC hL nt ns cI (by simp [rJ,show c<0 by omega,show¬(-c=1) by omega]) rfl
     case measure=>simp [intOf];omega
   ·by_cases xE:0<k
    ·have bk0:decide ((0:Int)<(k:Int))=true:=by simp;omega
     by_cases p9:c=1
     ·subst p9;by_cases oU:x=0
      ·by_cases rC:z=0
       ·subst oU rC
        go_wp2_with (go_at_call 51;refine (tJ.byte 43 43 rfl (by first|omega|(simp only [zzF,zzG,List.length_nil];omega))).mono ?_)
        intro r1 W1 hq
        first|(intro bM;subst hq)|(obtain ⟨hq,bM⟩:=hq;subst hq)
        have pC:=bM.c0;have pB:=bM.c1;have pA:=bM.c2;clear wF wE wD
        go_wp2_with (go_at_call 52;refine (bM.itoa hg 1 (by omega) (by omega)).mono ?_)
        intro r2 W2 hq
        first|(intro cu;subst hq)|(obtain ⟨hq,cu⟩:=hq;subst hq)
        have qh:=cu.c0;have qg:=cu.c1;have qf:=cu.c2;clear pC pB pA
        go_wp2_with (go_at_call 50;refine (cu.str ⟨(Lib.itoa 1).toArray⟩ (by first|omega|(simp only [zzF,zzG,List.length_nil];omega)) (B6 (by omega) (by omega))).mono ?_)
        intro r3 W3 hq
        first|(intro dy;subst hq)|(obtain ⟨hq,dy⟩:=hq;subst hq)
        have tP:=dy.c0;have tO:=dy.c1;have tN:=dy.c2;clear qh qg qf
        go_wp2_with (go_at_call 49;refine (dy.pow hg n1 0 jS (by first|omega|(simp only [zzF,zzG,List.length_nil];omega)) cI.1.1 cI.1.2).mono ?_)
        intro r4 W4 hq
        first|(intro jU;subst hq)|(obtain ⟨hq,jU⟩:=hq;subst hq)
        have AL:=jU.c0;have AK:=jU.c1;have AJ:=jU.c2;clear tP tO tN
        go_wp2_with (go_at_call 49;refine (jU.pow hg n2 0 ju (by first|omega|(simp only [zzF,zzG,List.length_nil];omega)) cI.2.1.1 cI.2.1.2).mono ?_)
        intro r5 W5 hq
        first|(intro nC;subst hq)|(obtain ⟨hq,nC⟩:=hq;subst hq)
        have Q5:=nC.c0;have Q4:=nC.c1;have Q3:=nC.c2;clear AL AK AJ
        go_wp2
        go_roundw
        case rel=>exact vY cJ HX.out HZ.out HV.out nC hL nt ns cI (by simp [rJ,show 0<k by omega]) rfl
        case measure=>simp [intOf];omega
       ·have bz:(z==0)=false:=by simpa using rC
        subst oU;have xf:z≠0:=rC
        go_wp2_with (go_at_call 51;refine (tJ.byte 43 43 rfl (by first|omega|(simp only [zzF,zzG,List.length_nil];omega))).mono ?_)
        intro r1 W1 hq
        first|(intro bM;subst hq)|(obtain ⟨hq,bM⟩:=hq;subst hq)
        have pC:=bM.c0;have pB:=bM.c1;have pA:=bM.c2;clear wF wE wD
        go_wp2_with (go_at_call 49;refine (bM.pow hg n1 0 jS (by first|omega|(simp only [zzF,zzG,List.length_nil];omega)) cI.1.1 cI.1.2).mono ?_)
        intro r2 W2 hq
        first|(intro cu;subst hq)|(obtain ⟨hq,cu⟩:=hq;subst hq)
        have qh:=cu.c0;have qg:=cu.c1;have qf:=cu.c2;clear pC pB pA
        go_wp2_with (go_at_call 49;refine (cu.pow hg n2 z ju (by first|omega|(simp only [zzF,zzG,List.length_nil];omega)) cI.2.1.1 cI.2.1.2).mono ?_)
        intro r3 W3 hq
        first|(intro dy;subst hq)|(obtain ⟨hq,dy⟩:=hq;subst hq)
        have tP:=dy.c0;have tO:=dy.c1;have tN:=dy.c2;clear qh qg qf
        go_wp2
        go_roundw
        case rel=>exact vY cJ HX.out HZ.out HV.out dy hL nt ns cI (by simp [rJ,show 0<k by omega,xf]) rfl
        case measure=>simp [intOf];omega
      ·have bx:(x==0)=false:=by simpa using oU
       have xf:x≠0:=oU
       go_wp2_with (go_at_call 51;refine (tJ.byte 43 43 rfl (by first|omega|(simp only [zzF,zzG,List.length_nil];omega))).mono ?_)
       intro r1 W1 hq
       first|(intro bM;subst hq)|(obtain ⟨hq,bM⟩:=hq;subst hq)
       have pC:=bM.c0;have pB:=bM.c1;have pA:=bM.c2;clear wF wE wD
       go_wp2_with (go_at_call 49;refine (bM.pow hg n1 x jS (by first|omega|(simp only [zzF,zzG,List.length_nil];omega)) cI.1.1 cI.1.2).mono ?_)
       intro r2 W2 hq
       first|(intro cu;subst hq)|(obtain ⟨hq,cu⟩:=hq;subst hq)
       have qh:=cu.c0;have qg:=cu.c1;have qf:=cu.c2;clear pC pB pA
       go_wp2_with (go_at_call 49;refine (cu.pow hg n2 z ju (by first|omega|(simp only [zzF,zzG,List.length_nil];omega)) cI.2.1.1 cI.2.1.2).mono ?_)
       intro r3 W3 hq
       first|(intro dy;subst hq)|(obtain ⟨hq,dy⟩:=hq;subst hq)
       have tP:=dy.c0;have tO:=dy.c1;have tN:=dy.c2;clear qh qg qf
       go_wp2
       go_roundw
       case rel=>exact vY cJ HX.out HZ.out HV.out dy hL nt ns cI (by simp [rJ,show 0<k by omega,xf]) rfl
       case measure=>simp [intOf];omega
     ·have Q7:(c==1)=false:=by simpa using p9
      go_wp2_with (go_at_call 51;refine (tJ.byte 43 43 rfl (by first|omega|(simp only [zzF,zzG,List.length_nil];omega))).mono ?_)
      intro r1 W1 hq
      first|(intro bM;subst hq)|(obtain ⟨hq,bM⟩:=hq;subst hq)
      have pC:=bM.c0;have pB:=bM.c1;have pA:=bM.c2;clear wF wE wD
      go_wp2_with (go_at_call 52;refine (bM.itoa hg c (by omega) (by omega)).mono ?_)
      intro r2 W2 hq
      first|(intro cu;subst hq)|(obtain ⟨hq,cu⟩:=hq;subst hq)
      have qh:=cu.c0;have qg:=cu.c1;have qf:=cu.c2;clear pC pB pA
      go_wp2_with (go_at_call 50;refine (cu.str ⟨(Lib.itoa c).toArray⟩ (by first|omega|(simp only [zzF,zzG,List.length_nil];omega)) (B6 (by omega) (by omega))).mono ?_)
      intro r3 W3 hq
      first|(intro dy;subst hq)|(obtain ⟨hq,dy⟩:=hq;subst hq)
      have tP:=dy.c0;have tO:=dy.c1;have tN:=dy.c2;clear qh qg qf
      go_wp2_with (go_at_call 49;refine (dy.pow hg n1 x jS (by first|omega|(simp only [zzF,zzG,List.length_nil];omega)) cI.1.1 cI.1.2).mono ?_)
      intro r4 W4 hq
      first|(intro jU;subst hq)|(obtain ⟨hq,jU⟩:=hq;subst hq)
      have AL:=jU.c0;have AK:=jU.c1;have AJ:=jU.c2;clear tP tO tN
      go_wp2_with (go_at_call 49;refine (jU.pow hg n2 z ju (by first|omega|(simp only [zzF,zzG,List.length_nil];omega)) cI.2.1.1 cI.2.1.2).mono ?_)
      intro r5 W5 hq
      first|(intro nC;subst hq)|(obtain ⟨hq,nC⟩:=hq;subst hq)
      have Q5:=nC.c0;have Q4:=nC.c1;have Q3:=nC.c2;clear AL AK AJ
      go_wp2
      go_roundw
      case rel=>exact vY cJ HX.out HZ.out HV.out nC hL nt ns cI (by simp [rJ,show¬(c<0) by omega,show¬(c=1) by omega,show 0<k by omega]) rfl
      case measure=>simp [intOf];omega
    ·have bk0:decide ((0:Int)<(k:Int))=false:=by simp;omega
     by_cases p9:c=1
     ·subst p9;by_cases oU:x=0
      ·by_cases rC:z=0
       ·subst oU rC
        go_wp2_with (go_at_call 52;refine (tJ.itoa hg 1 (by omega) (by omega)).mono ?_)
        intro r1 W1 hq
        first|(intro bM;subst hq)|(obtain ⟨hq,bM⟩:=hq;subst hq)
        have pC:=bM.c0;have pB:=bM.c1;have pA:=bM.c2;clear wF wE wD
        go_wp2_with (go_at_call 50;refine (bM.str ⟨(Lib.itoa 1).toArray⟩ (by first|omega|(simp only [zzF,zzG,List.length_nil];omega)) (B6 (by omega) (by omega))).mono ?_)
        intro r2 W2 hq
        first|(intro cu;subst hq)|(obtain ⟨hq,cu⟩:=hq;subst hq)
        have qh:=cu.c0;have qg:=cu.c1;have qf:=cu.c2;clear pC pB pA
        go_wp2_with (go_at_call 49;refine (cu.pow hg n1 0 jS (by first|omega|(simp only [zzF,zzG,List.length_nil];omega)) cI.1.1 cI.1.2).mono ?_)
        intro r3 W3 hq
        first|(intro dy;subst hq)|(obtain ⟨hq,dy⟩:=hq;subst hq)
        have tP:=dy.c0;have tO:=dy.c1;have tN:=dy.c2;clear qh qg qf
        go_wp2_with (go_at_call 49;refine (dy.pow hg n2 0 ju (by first|omega|(simp only [zzF,zzG,List.length_nil];omega)) cI.2.1.1 cI.2.1.2).mono ?_)
        intro r4 W4 hq
        first|(intro jU;subst hq)|(obtain ⟨hq,jU⟩:=hq;subst hq)
        have AL:=jU.c0;have AK:=jU.c1;have AJ:=jU.c2;clear tP tO tN
        go_wp2
        go_roundw
        case rel=>exact vY cJ HX.out HZ.out HV.out jU hL nt ns cI (by simp [rJ,show¬(0<k) by omega]) rfl
        case measure=>simp [intOf];omega
       ·have bz:(z==0)=false:=by simpa using rC
        subst oU;have xf:z≠0:=rC
        go_wp2_with (go_at_call 49;refine (tJ.pow hg n1 0 jS (by first|omega|(simp only [zzF,zzG,List.length_nil];omega)) cI.1.1 cI.1.2).mono ?_)
        intro r1 W1 hq
        first|(intro bM;subst hq)|(obtain ⟨hq,bM⟩:=hq;subst hq)
        have pC:=bM.c0;have pB:=bM.c1;have pA:=bM.c2;clear wF wE wD
        go_wp2_with (go_at_call 49;refine (bM.pow hg n2 z ju (by first|omega|(simp only [zzF,zzG,List.length_nil];omega)) cI.2.1.1 cI.2.1.2).mono ?_)
        intro r2 W2 hq
        first|(intro cu;subst hq)|(obtain ⟨hq,cu⟩:=hq;subst hq)
        have qh:=cu.c0;have qg:=cu.c1;have qf:=cu.c2;clear pC pB pA
        go_wp2
        go_roundw
        case rel=>exact vY cJ HX.out HZ.out HV.out cu hL nt ns cI (by simp [rJ,show¬(0<k) by omega,xf]) rfl
        case measure=>simp [intOf];omega
      ·have bx:(x==0)=false:=by simpa using oU
       have xf:x≠0:=oU
       go_wp2_with (go_at_call 49;refine (tJ.pow hg n1 x jS (by first|omega|(simp only [zzF,zzG,List.length_nil];omega)) cI.1.1 cI.1.2).mono ?_)
       intro r1 W1 hq
       first|(intro bM;subst hq)|(obtain ⟨hq,bM⟩:=hq;subst hq)
       have pC:=bM.c0;have pB:=bM.c1;have pA:=bM.c2;clear wF wE wD
       go_wp2_with (go_at_call 49;refine (bM.pow hg n2 z ju (by first|omega|(simp only [zzF,zzG,List.length_nil];omega)) cI.2.1.1 cI.2.1.2).mono ?_)
       intro r2 W2 hq
       first|(intro cu;subst hq)|(obtain ⟨hq,cu⟩:=hq;subst hq)
       have qh:=cu.c0;have qg:=cu.c1;have qf:=cu.c2;clear pC pB pA
       go_wp2
       go_roundw
       case rel=>exact vY cJ HX.out HZ.out HV.out cu hL nt ns cI (by simp [rJ,show¬(0<k) by omega,xf]) rfl
       case measure=>simp [intOf];omega
     ·have Q7:(c==1)=false:=by simpa using p9
      go_wp2_with (go_at_call 52;refine (tJ.itoa hg c (by omega) (by omega)).mono ?_)
      intro r1 W1 hq
      first|(intro bM;subst hq)|(obtain ⟨hq,bM⟩:=hq;subst hq)
      have pC:=bM.c0;have pB:=bM.c1;have pA:=bM.c2;clear wF wE wD
      go_wp2_with (go_at_call 50;refine (bM.str ⟨(Lib.itoa c).toArray⟩ (by first|omega|(simp only [zzF,zzG,List.length_nil];omega)) (B6 (by omega) (by omega))).mono ?_)
      intro r2 W2 hq
      first|(intro cu;subst hq)|(obtain ⟨hq,cu⟩:=hq;subst hq)
      have qh:=cu.c0;have qg:=cu.c1;have qf:=cu.c2;clear pC pB pA
      go_wp2_with (go_at_call 49;refine (cu.pow hg n1 x jS (by first|omega|(simp only [zzF,zzG,List.length_nil];omega)) cI.1.1 cI.1.2).mono ?_)
      intro r3 W3 hq
      first|(intro dy;subst hq)|(obtain ⟨hq,dy⟩:=hq;subst hq)
      have tP:=dy.c0;have tO:=dy.c1;have tN:=dy.c2;clear qh qg qf
      go_wp2_with (go_at_call 49;refine (dy.pow hg n2 z ju (by first|omega|(simp only [zzF,zzG,List.length_nil];omega)) cI.2.1.1 cI.2.1.2).mono ?_)
      intro r4 W4 hq
      first|(intro jU;subst hq)|(obtain ⟨hq,jU⟩:=hq;subst hq)
      have AL:=jU.c0;have AK:=jU.c1;have AJ:=jU.c2;clear tP tO tN
      go_wp2
      go_roundw
      case rel=>exact vY cJ HX.out HZ.out HV.out jU hL nt ns cI (by simp [rJ,show¬(c<0) by omega,show¬(c=1) by omega,show¬(0<k) by omega]) rfl
      case measure=>simp [intOf];omega
  ·obtain rfl:k=p.length:=by omega
   go_wp2_with (go_at_call 53;refine (TS.string hI hb).mono ?_)
   rintro r W1 ⟨rfl,h1⟩
   go_wp2
   go_ret
   exact ⟨rfl,h1⟩
end Go.Proofs.YtjpbeacamoijhaaGreatDoor
namespace Go.Proofs.YtjpbeacamoijhaaGreatDoor
open Go Go.RowKit
set_option maxRecDepth 100000
set_option maxHeartbeats 4000000
def QZ (p:List (Int×Int)):Prop:= ∀k,k<p.length->(-4611686018427387904<=aJ (p.getD k (0,0)).1/\aJ (p.getD k (0,0)).1<=4611686018427387904)/\(-4611686018427387904<=aB (p.getD k (0,0)).1/\aB (p.getD k (0,0)).1<=4611686018427387904)/\ -4611686018427387904<=(p.getD k (0,0)).2/\(p.getD k (0,0)).2<=4611686018427387904
theorem Un (p:List (Int×Int)) (n1 n2:ByteArray) (rD:0<p.length) (hr:QZ p) (jS:n1.size<=1000) (ju:n2.size<=1000) (og:p.length<=1000000):
  Fn Tryz.prog 14 [iy false p, .str n1, .str n2] (.str ⟨(um n1.data.toList n2.data.toList p p.length).toArray⟩):=by
 refine ⟨⟨_,Tryz.func14,rfl,by decide⟩,fun w Mx vs pQ hl hv=>?_⟩
 match vs,hl with
 |[v0,v1,v2],_=>
  have h0:=hv 0 v0 _ rfl rfl;have h1:=(hv 1 v1 _ rfl rfl).dt;have h2:=(hv 2 v2 _ rfl rfl).dt;subst h1 h2;obtain ⟨us,rfl,Yd,hu⟩:=h0.bI
  match us,Yd with
  |[u0,u1],_=>
   have k0:=(hu 0 u0 _ rfl rfl).bool_inv;have k1:=hu 1 u1 _ rfl rfl;subst k0;cases k1 with
   |ro _ _ _ ad cap x hlen qc _ jv hx=>
    obtain ⟨a,rfl,hb,_,hj⟩:=jv rD;have bF:(Cs.lst (bvC p)).len=3*p.length:=pU p;refine (ZM p n1 n2 a cap w rD pQ.1 hb (fun k hk=>?_) hr jS ju og).mono ?_
    ·have e0:=hx (k*3) (by omega);have e1:=hx (k*3+1) (by omega);have e2:=hx (k*3+2) (by omega);obtain ⟨g0,g1,g2⟩:=A2 p k hk;rw [show (Cs.lst (bvC p)).get (k*3)=(bvC p).getD (k*3) .any from rfl,g0] at e0;rw [show (Cs.lst (bvC p)).get (k*3+1)=(bvC p).getD (k*3+1) .any from rfl,g1] at e1;rw [show (Cs.lst (bvC p)).get (k*3+2)=(bvC p).getD (k*3+2) .any from rfl,g2] at e2;refine ⟨?_,?_,?_⟩
     ·rw [hj _ (by omega),e0.aq]
     ·rw [hj _ (by omega),e1.aq]
     ·rw [hj _ (by omega),e2.aq]
    ·rintro e w' ⟨rfl,nW⟩;exact ⟨_,rfl,nW, .str _⟩
theorem Fn.args {P:Program} {f:Nat} {xs ys:List AV} {r:AV} (h:Fn P f ys r) (hl:zy xs ys):Fn P f xs r:=
 ⟨h.1,fun w Mx vs hm hlen hv=>h.2 w Mx vs hm (hlen.trans hl.len) fun i v y hi hy=>by
  obtain ⟨x,hx⟩: ∃x,xs[i]?=some x:=by
   have:i<ys.length:=(List.getElem?_eq_some_iff.1 hy).1
   exact ⟨_,zzH (by rw [hl.len];exact this)⟩
  exact (hl.get i x y hx hy).out _ _ _ _ v (hv i v x hi hx)⟩
set_option maxHeartbeats 8000000
theorem yt7:Fn Tryz.prog 38 [] (dgA [1,1,1] [9,4,7,10,1,8,11,2,5,0,3,6] ((0:Nat):Int)):=by
 refine Fn.aG [.cell 0 24] Tryz.func38 rfl rfl (by decide) (by simp [Tryz.ntmps38]) ?_;rw [Tryz.ntmps38]
 repeat' (first|omega|(try apply ah);simp only [go_sem,sevalprocAttr]|apply ag<;>(intro h_;(try simp only [h_]);revert h_)|apply zzL|with_reducible intro h_|trivial|simp only [go_sem,ai];omega)
 all_goals exact bE.refl _
theorem y9n:Fn Tryz.prog 14 [iy false [(bA 2 0,2),(bA 2 2,1),(bA 4 0,-1)], .str ⟨#[97]⟩, .str ⟨#[122]⟩] (.str ⟨#[50,97,94,50,43,97,94,50,122,94,50,45,97,94,52]⟩):=by
 have h:=Un [(bA 2 0,2),(bA 2 2,1),(bA 4 0,-1)] ⟨#[97]⟩ ⟨#[122]⟩ (by decide) (fun k hk=>by
  match k,hk with
  |0,_=>decide
  |1,_=>decide
  |2,_=>decide) (by decide) (by decide) (by decide)
 rw [show (um (⟨#[97]⟩:ByteArray).data.toList (⟨#[122]⟩:ByteArray).data.toList [(bA 2 0,2),(bA 2 2,1),(bA 4 0,-1)] [(bA 2 0,(2:Int)),(bA 2 2,1),(bA 4 0,-1)].length)=[50,97,94,50,43,97,94,50,122,94,50,45,97,94,52] by decide+kernel] at h;exact h
theorem y9o:Fn Tryz.prog 14 [iy false [(bA (-1) (-1),1),(bA 1 (-1),-1)], .str ⟨#[97]⟩, .str ⟨#[122]⟩] (.str ⟨#[97,94,45,49,122,94,45,49,45,97,122,94,45,49]⟩):=by
 have h:=Un [(bA (-1) (-1),1),(bA 1 (-1),-1)] ⟨#[97]⟩ ⟨#[122]⟩ (by decide) (fun k hk=>by
  match k,hk with
  |0,_=>decide
  |1,_=>decide) (by decide) (by decide) (by decide)
 rw [show (um (⟨#[97]⟩:ByteArray).data.toList (⟨#[122]⟩:ByteArray).data.toList [(bA (-1) (-1),1),(bA 1 (-1),-1)] [(bA (-1) (-1),(1:Int)),(bA 1 (-1),-1)].length)=[97,94,45,49,122,94,45,49,45,97,122,94,45,49] by decide+kernel] at h;exact h
theorem ZL:Fn Tryz.prog 8 [] (.bool true):=by
 have h1:=yt7;have h2:=Nf ⟨by decide+kernel,by decide,by decide,by decide⟩ y9k
 have h3:Fn Tryz.prog 10 [.agg [.nils, .nils,I 2]] (.tup [iy false [(bA (-1) (-1),1),(bA 1 (-1),-1)],I 0]):=
  Fn.args (Nf ⟨by decide+kernel,by decide,by decide,by decide⟩ NR) (.cons (bE.sK (.cons (bE.nils (by decide) rfl) (.cons (bE.nils (by decide) rfl) (.cons (bE.refl _) .nil)))) .nil)
 have h4:=y9n;have h5:=y9o;refine Fn.aG [.tmp 0] Tryz.func8 rfl rfl (by decide) (by simp [Tryz.ntmps8]) ?_;rw [Tryz.ntmps8]
 repeat' (first|omega|(try apply ah);simp only [go_sem,sevalprocAttr,eG]|(refine ⟨aL.fn (r:=?_) rfl ?_ ?_⟩;rotate_left;assumption)|(refine ⟨bS.fn (r:=?_) rfl ?_ ?_⟩;rotate_left;assumption)|apply ag<;>(intro h_;(try simp only [h_]);revert h_)|apply zzL|with_reducible intro h_|trivial|simp only [go_sem,ai];omega)
 all_goals exact bE.refl _
theorem Fl {s m:List Int} {L:Nat} (h:rM s m L) {p:List (Int×Int)} (hp:cM p (Hs.dO s m L)):Fn Tryz.prog 21 [dgA s m L] (.tup [iy false p, .bool true]):=by
 have h1:=Nf h hp;refine Fn.aG [.cell 2 29, .tmp 3] Tryz.func21 rfl rfl (by decide) (by simp [Tryz.ntmps21]) ?_;rw [Tryz.ntmps21]
 repeat' (first|omega|(try apply ah);simp only [go_sem,sevalprocAttr,eG]|(refine ⟨aL.fn (r:=?_) rfl ?_ ?_⟩;rotate_left;assumption)|(refine ⟨bS.fn (r:=?_) rfl ?_ ?_⟩;rotate_left;assumption)|apply ag<;>(intro h_;(try simp only [h_]);revert h_)|apply zzL|with_reducible intro h_|trivial|simp only [go_sem,ai];omega)
 all_goals exact bE.refl _
def IV:Tr:= .node [(0, .node [(1,trD [2,3,4,5]),(2,trD [1,3,4,5])]),(2,trD [0,1,3,4,5])]
def DQ:List (List Nat):=[[63,64,65,66,67,68,69,70,71,72],[62,64,65,66,67,68,69,70,71,72],[62,63,65,67,68,69,70,71],[62,63,64,67,68,69,70,71],[62,63,67,68,69,70,71],[62,63,64,65,66,69,70],[62,63,64,65,66,69,70],[62,63,64,65,66,67,68],[62,63,64,65,66,67,68],[62,63,64,65,66],[62,63],[]]
def DP:List (List Nat):=[[],[0],[0,1],[0,1,2],[0,1],[0,1,2,3,4],[0,1,2,3,4],[0,1,2,3,4,5,6],[0,1,2,3,4,5,6],[0,1,2,3,4],[0,1],[]]
theorem y2r (q:List (Int×Int)) (hq:q.length<=100000):Fn Tryz.prog 25 [iy false [],iy false q] (iy false []):=by
 have cq:=pU q;refine Fn.aG [.cell 4 29] Tryz.func25 rfl rfl (by decide) (by simp [Tryz.ntmps25]) ?_;rw [Tryz.ntmps25]
 repeat' (first|omega|(first|apply ah|(refine ba.intro (id:=5) [[31],[31],[29,30],[],[],[]] [[],[],[0,1],[],[],[]] (by decide+kernel) mixed ?_)|(refine ba.bR (id:=5) (IV) (by decide+kernel) mixed ?_)|(refine ba.aG (id:=15) DQ DP (by decide+kernel) mixed ?_)|(refine ba.intro (id:=15) DQ DP (by decide+kernel) mixed ?_)|skip);simp only [go_sem,sevalprocAttr,eG,↓reduceIte,reduceCtorEq,IV,DQ,DP]|(refine ⟨aL.fn (r:=?_) rfl ?_ ?_⟩;rotate_left;assumption)|(refine ⟨bS.fn (r:=?_) rfl ?_ ?_⟩;rotate_left;assumption)|apply ag<;>(intro h_;(try simp only [h_]);revert h_)|apply zzL|with_reducible intro h_|trivial|simp only [go_sem,ai];omega)
 all_goals exact bE.sK (.cons (bE.refl _) (.cons (bE.nils (by omega) rfl) .nil))
theorem y2s (p:List (Int×Int)) (hp:p.length<=100000) (h0:p≠[]):Fn Tryz.prog 25 [iy false p,iy false []] (iy false []):=by
 have cp:=pU p;have p0:0<p.length:=List.length_pos_iff.2 h0;have Q6:((p.length:Int)==0)=false:=by rw [zzU];omega
 refine Fn.aG [.cell 4 29] Tryz.func25 rfl rfl (by decide) (by simp [Tryz.ntmps25]) ?_;rw [Tryz.ntmps25]
 repeat' (first|omega|(first|apply ah|(refine ba.intro (id:=5) [[31],[31],[29,30],[],[],[]] [[],[],[0,1],[],[],[]] (by decide+kernel) mixed ?_)|(refine ba.bR (id:=5) (IV) (by decide+kernel) mixed ?_)|(refine ba.aG (id:=15) DQ DP (by decide+kernel) mixed ?_)|(refine ba.intro (id:=15) DQ DP (by decide+kernel) mixed ?_)|skip);simp only [go_sem,sevalprocAttr,Q6,eG,↓reduceIte,reduceCtorEq,IV,DQ,DP]|(refine ⟨aL.fn (r:=?_) rfl ?_ ?_⟩;rotate_left;assumption)|(refine ⟨bS.fn (r:=?_) rfl ?_ ?_⟩;rotate_left;assumption)|apply ag<;>(intro h_;(try simp only [h_]);revert h_)|apply zzL|with_reducible intro h_|trivial|simp only [go_sem,ai];omega)
 all_goals exact bE.sK (.cons (bE.refl _) (.cons (bE.nils (by omega) rfl) .nil))
theorem Nd {p q r:List (Int×Int)} {f g:Int->Int} {N:Int} {A B:Int} (hp:cM p f) (hq:cM q g) (sp:cb f N) (sq:cb g N) (hN:N<=150)
  (hA: ∀e,-A<=f e/\f e<=A) (hB: ∀e,-B<=g e/\g e<=B) (Y7:A*B<=1125899906842624) (K6:A<=1125899906842624) (QO:1<=B/\B<=1125899906842624) (hr:cM r (fun e=>cvL p g e)) (br:nL fun e=>cvL p g e) (sr:cb (fun e=>cvL p g e) 1000000):
  Fn Tryz.prog 25 [iy false p,iy false q] (iy false r):=by
 by_cases rD:p=[]
 ·subst rD;obtain rfl:[]=r:=fi.ext cM.nil.asc hr.asc fun e=>by rw [hr.cf];rfl
  exact y2r q (hq.kL sq hN)
 by_cases Bu:q=[]
 ·subst Bu;obtain rfl:[]=r:=fi.ext cM.nil.asc hr.asc fun e=>by
   rw [hr.cf];exact (TP fun t _=>(hq.cf _).symm).symm
  exact y2s p (hp.kL sp hN) rD
 exact RV hp hq rD Bu sp sq hN hA hB Y7 K6 QO hr br sr
def Wi:List (List Nat):=[[17,20,21,22,23],[16,20,21,22,23],[20,21,22,23],[20,21,22,23],[16,17,18,19,21],[16,17,18,19,20],[16,17,18,19],[16,17,18,19],[]]
theorem Tp:eq3 Tryz.prog 74=true:=by decide+kernel
theorem y9p (p:List (Int×Int)) (hl:p.length<=1000000):Fn Tryz.prog 70 [pD p,pD p] (.bool true):=by
 have hlen:=pU p;have b0:((p.length:Int)!=p.length)=false:=by simp
 refine Fn.intro [.tmp 4] Tryz.func70 rfl rfl (by decide) (by simp [Tryz.ntmps70]) ?_;rw [Tryz.ntmps70]
 repeat' (first|omega|(try apply ah);simp only [go_sem,sevalprocAttr,b0,eG]|apply ag<;>(intro h_;(try simp only [h_]);revert h_)|apply zzL|with_reducible intro h_|trivial|simp only [go_sem,ai];omega)
 refine cN.intro (fun n fr H=> ∃k:Nat,k<=p.length/\n=p.length-k/\fr=[(13,I k),(12,I p.length),(1,pD p),(0,pD p)]/\H=[]) ?_ ?_
 ·refine ⟨_,_,_,?_,0,by omega,rfl,rfl,rfl⟩;refine Wk.sub ?_ ?_<;>(simp only [go_sem,sevalprocAttr,eG])
 rintro n fr H ⟨k,hk,rfl,rfl,rfl⟩;by_cases cJ:k<p.length
 ·obtain ⟨g0,g1,g2⟩:=A2 p k cJ;have bk:decide ((k:Int)<p.length)=true:=by simp;omega
  generalize aJ (p.getD k (0,0)).1=x at*;generalize aB (p.getD k (0,0)).1=y at*;generalize (p.getD k (0,0)).2=v at*
  repeat' (first|omega|(first|apply ah|(refine ba.intro (id:=6) Wi [[],[0],[],[],[0,1,2,3],[0,1,2,3,4],[0,1,2,3],[0,1,2,3],[]] (by decide+kernel) mixed ?_)|skip);simp only [go_sem,sevalprocAttr,bk,g0,g1,g2,hlen,Tp,↓reduceIte,reduceCtorEq,Wi]|apply ag<;>(intro h_;(try simp only [h_]);revert h_)|apply zzL|with_reducible intro h_|trivial|simp only [go_sem,ai];omega)
  all_goals (first|exact Tp|skip)
  all_goals
   refine ⟨_,_,_,?_,?_,⟨k+1,by omega,rfl,rfl,rfl⟩⟩
   ·omega
   ·refine Wk.sub ?_ ?_<;>(simp only [go_sem,sevalprocAttr,eG])
 ·obtain rfl:k=p.length:=by omega
  have bk:decide ((p.length:Int)<p.length)=false:=by simp
  repeat' (first|omega|(try apply ah);simp only [go_sem,sevalprocAttr,bk]|apply ag<;>(intro h_;(try simp only [h_]);revert h_)|apply zzL|with_reducible intro h_|trivial|simp only [go_sem,ai];omega)
theorem Np (p:List (Int×Int)) (hl:p.length<=1000000):Fn Tryz.prog 22 [iy false p,iy false p] (.bool true):=by
 have hS:=y9p p hl;refine Fn.intro [.tmp 4] Tryz.func22 rfl rfl (by decide) (by simp [Tryz.ntmps22]) ?_;rw [Tryz.ntmps22]
 repeat' (first|omega|(try apply ah);simp only [go_sem,sevalprocAttr,eG]|apply ag<;>(intro h_;(try simp only [h_]);revert h_)|apply zzL|with_reducible intro h_|trivial|simp only [go_sem,ai];omega)
 refine ⟨aL.fn rfl hS ?_⟩
 repeat' (first|omega|(try apply ah);simp only [go_sem,sevalprocAttr]|apply ag<;>(intro h_;(try simp only [h_]);revert h_)|apply zzL|with_reducible intro h_|trivial|simp only [go_sem,ai];omega)
end Go.Proofs.YtjpbeacamoijhaaGreatDoor
namespace Go.Proofs.YtjpbeacamoijhaaGreatDoor
namespace Hs
section
variable {s m:List Int} {l:Nat}
theorem Gs (hv:iV s m l) (hn:s.length+l<=300) (h0:0<s.length\/0<l) (e:Int):dO s m ((l:Int)+1) e=dO s m l (e-bA (-1) (-1))-dO s m l (e-bA 1 (-1)):=by
 rw [D9 hv (by omega) (by rw [nM (by omega)];omega),D9 hv (by omega) (by rw [nM (by omega)];omega)];rw [rn (by omega),nM (by omega),rn (by omega),nM (by omega)];unfold dO;rw [y87 h0];unfold Dl;rw [show aJ e- -1=aJ e+1 by omega,show aB e- -1=aB e+1 by omega]
end
section
variable {s1 m1 s2 m2:List Int} {l1 l2:Nat}
theorem OQ (h1:bf s1 m1 l1=true) (h2:bf s2 m2 l2=true) (jS:s1.length+l1<=300) (ju:s2.length+l2<=300) (hn:s1.length+s2.length<=64) (hL:(l1:Int)+l2<=64) {x y:Nat} (hx:x<4*s1.length) (hy:y<4*s2.length) (ox:aj s1 (x:Int)=true) (oy:aj s2 (y:Int)=true)
  {P:List (Int×Int)} (hP:cM P (dO s1 m1 l1)) (e:Int):dO (s1++s2) (iO m1 m2 x y) ((l1:Int)+l2) e=cvL P (dO s2 m2 l2) e:=by
 rw [L9 (bV h2) (by omega) e P fun t ht=>by have:=hP.oc (e8 (bV h1)) ht;omega];unfold dO;exact NW h1 h2 hn hL hx hy ox oy (Lv (bV h1) (by omega) hP.cf) _ _
theorem OL (h1:bf s1 m1 l1=true) (h2:bf s2 m2 l2=true) (jS:s1.length+l1<=300) (ju:s2.length+l2<=300) (hl:0<l1+l2) (hv:bf (s1++s2) (Sp.bZ m1 m2) ((l1:Int)+l2-1)=true) (n1:0<s1.length\/0<l1) (n2:0<s2.length\/0<l2)
  {P:List (Int×Int)} (hP:cM P (dO s1 m1 l1)) (e:Int):dO (s1++s2) (Sp.bZ m1 m2) ((l1:Int)+l2-1) e=cvL P (dO s2 m2 l2) e:=by
 rw [L9 (bV h2) (by omega) e P fun t ht=>by have:=hP.oc (e8 (bV h1)) ht;omega];unfold dO;exact NV h1 h2 hl hv n1 n2 (Lv (bV h1) (by omega) hP.cf) _ _
end
end Hs
theorem cb.cv {P:List (Int×Int)} {g:Int->Int} {N M:Int} (hP: ∀t∈P,(-N<=aJ t.1/\aJ t.1<=N)/\ -N<=aB t.1/\aB t.1<=N) (hg:cb g M) (hN:N<=1000) (hM:M<=1000):cb (fun e=>cvL P g e) (M+N):=fun e he=>by
 apply zzT;intro aA;refine he (TP fun t ht=>?_);apply zzT;intro h1;have h2:=hP t ht;have h3:=hg _ h1;have h4:=WA h3 (M:=N) h2.2 (by omega) (by omega);omega
theorem Gq {x y A B:Int} (hx: -A<=x/\x<=A) (hy: -B<=y/\y<=B): -(A*B)<=x*y/\x*y<=A*B:=by
 have h1:x.natAbs<=A.toNat:=by omega
 have h2:y.natAbs<=B.toNat:=by omega
 have h3:=Nat.mul_le_mul h1 h2;rw [<-Int.natAbs_mul] at h3;have h4:((A.toNat*B.toNat:Nat):Int)=A*B:=by
  rw [Int.natCast_mul,Int.toNat_of_nonneg (by omega),Int.toNat_of_nonneg (by omega)]
 omega
theorem Sd {A B:Int} {g:Int->Int} (hB: ∀e,-B<=g e/\g e<=B) (e:Int): ∀{P:List (Int×Int)},(∀t∈P,-A<=t.2/\t.2<=A)-> -(P.length*(A*B))<=cvL P g e/\cvL P g e<=P.length*(A*B)
 |[],_=>by simp [cvL]
 |t::P,h=>by
  have h1:=Sd hB e fun u hu=>h u (.tail _ hu);have h2:=Gq (h t (.head _)) (hB (e-t.1));simp only [cvL,zzG];rw [Int.natCast_add,Int.add_mul];omega
namespace Hs
section
variable {s1 m1 s2 m2:List Int} {l1 l2:Nat}
theorem LZ {s m:List Int} {l:Nat} (v:iV s m l) (hn:s.length+l<=1000) (e d:Int) (hd:(-2<=aJ d/\aJ d<=2)/\ -2<=aB d/\aB d<=2): ∀P:List (Int×Int),(∀t∈P,(-1000<=aJ t.1/\aJ t.1<=1000)/\ -1000<=aB t.1/\aB t.1<=1000)->cvL P (dO s m l) (e-d)=ks (zS P) (iC s m l) (aJ e-aJ d) (aB e-aB d)
 |[],_=>rfl
 |t::P,h=>by
  have ih:=LZ v hn e d hd P fun u hu=>h u (.tail _ hu);have ht:=h t (.head _);have ha:=ME (e:=d) (e':=t.1) (by unfold re;omega) (by unfold re;omega);show t.2*dO s m l (e-d-t.1)+cvL P (dO s m l) (e-d)=t.2*iC s m l (aJ e-aJ d-aJ t.1) (aB e-aB d-aB t.1)+ks (zS P) (iC s m l) (aJ e-aJ d) (aB e-aB d)
  rw [ih,show e-d-t.1=e-(d+t.1) by omega,D9 v hn (by omega),ha.1,ha.2,Int.sub_sub,Int.sub_sub]
theorem unE (h1:bf s1 m1 l1=true) (h2:bf s2 m2 l2=true) (jS:s1.length+l1<=100) (ju:s2.length+l2<=100) (hv:bf (s1++s2) (Sp.bZ m1 m2) ((l1:Int)+l2)=true) (n1:0<s1.length\/0<l1) (n2:0<s2.length\/0<l2)
  {P:List (Int×Int)} (hP:cM P (dO s1 m1 l1)) (e:Int):dO (s1++s2) (Sp.bZ m1 m2) ((l1:Int)+l2) e=cvL P (dO s2 m2 l2) (e-bA (-1) (-1))-cvL P (dO s2 m2 l2) (e-bA 1 (-1)):=by
 have hb: ∀t∈P,(-1000<=aJ t.1/\aJ t.1<=1000)/\ -1000<=aB t.1/\aB t.1<=1000:=fun t ht=>by have:=hP.oc (e8 (bV h1)) ht;omega
 have a1:aJ (bA (-1) (-1))= -1:=rn (by omega);have z1:aB (bA (-1) (-1))= -1:=nM (by omega);have a2:aJ (bA 1 (-1))=1:=rn (by omega);have z2:aB (bA 1 (-1))= -1:=nM (by omega);rw [LZ (bV h2) (by omega) e _ (by rw [a1,z1];omega) P hb,LZ (bV h2) (by omega) e _ (by rw [a2,z2];omega) P hb,a1,z1,a2,z2];unfold dO;rw [y5d h1 h2 hv n1 n2 (Lv (bV h1) (by omega) hP.cf)];unfold Dl
 rw [show aJ e- -1=aJ e+1 by omega,show aB e- -1=aB e+1 by omega]
end
end Hs
open Go Go.RowKit
set_option maxRecDepth 100000
set_option maxHeartbeats 8000000
theorem y9q (s m:List Int) (L h:Int) (hv:bf s m L=true) (h0:0<=h) (h1:h<m.length):Fn Tryz.prog 77 [dgA s m L,I h] (.bool (aj s h)):=by
 have v1:=bV hv;have hV:=vd s m L;rw [hv] at hV;have l1:=v1.len;have Az:=v1.s64;have hO:=Kn s m L h h0 (by omega) (by omega);have b2:decide (0<=h)=true:=by rw [decide_eq_true_iff];omega
 have b3:decide (h<m.length)=true:=by rw [decide_eq_true_iff];omega
 refine Fn.intro [.tmp 4] Tryz.func77 rfl rfl (by decide) (by simp [Tryz.ntmps77]) ?_;rw [Tryz.ntmps77]
 repeat' (first|omega|(try apply ah);simp only [go_sem,sevalprocAttr,b2,b3]|(refine ⟨aL.fn (r:=?_) rfl ?_ ?_⟩;rotate_left;assumption)|(refine ⟨bS.fn (r:=?_) rfl ?_ ?_⟩;rotate_left;assumption)|apply ag<;>(intro h_;(try simp only [h_]);revert h_)|apply zzL|with_reducible intro h_|trivial|simp only [go_sem,ai];omega)
def lY (s:List Int) (k:Nat):List Int:=((List.range k).filter fun i:Nat=>aj s (i:Int)).map fun i:Nat=>(i:Int)
theorem y5q (s:List Int) (k:Nat):lY s (k+1)=if aj s (k:Int) then lY s k++[(k:Int)] else lY s k:=by
 unfold lY;rw [List.range_succ,List.filter_append,List.map_append];cases h:aj s (k:Int)<;>simp [h]
theorem y9r {s:List Int} {k:Nat} {x:Int} (h:x∈lY s k): ∃i:Nat,x=i/\i<k/\aj s (i:Int)=true:=by
 unfold lY at h;obtain ⟨i,h1,rfl⟩:=List.mem_map.1 h;obtain ⟨h2,h3⟩:=List.mem_filter.1 h1;exact ⟨i,rfl,List.mem_range.1 h2,h3⟩
theorem Sc (s:List Int) (k:Nat):(lY s k).length<=k:=by
 unfold lY;rw [List.length_map];exact Nat.le_trans (List.length_filter_le _ _) (by simp)
theorem Wh (s m:List Int) (L z:Int) (hz:0<=z/\z<=255) (hv:bf s m L=true): ∃x:Int,Fn Tryz.prog 28 [dgA s m L, .int .u8 z] (I x)/\(s.length=0/\x= -1\/ ∃i:Nat,x=i/\i<m.length/\aj s (i:Int)=true):=by
 have v1:=bV hv;have ml:=v1.len;have Az:=v1.s64;have w1:IntKind.i64.wrap z=z:=IntWalk.i64_in _ (by omega);obtain ⟨x,hx⟩: ∃x:Int,x=if (lY s m.length).length=0 then-1 else (lY s m.length).getD (z.toNat %(lY s m.length).length) 0:=⟨_,rfl⟩;refine ⟨x,?_,?_⟩
 ·refine Fn.aG [.tmp 4] Tryz.func28 rfl rfl (by decide) (by simp [Tryz.ntmps28]) ?_;rw [Tryz.ntmps28]
  repeat' (first|omega|(try apply ah);simp only [go_sem,sevalprocAttr]|apply ag<;>(intro h_;(try simp only [h_]);revert h_)|apply zzL|with_reducible intro h_|trivial|simp only [go_sem,ai];omega)
  refine cN.intro (fun n fr H=> ∃k:Nat,k<=m.length/\n=m.length-k/\fr=[(6,I k),(5,if (lY s k).length=0 then .nils else .sl 1 2 0 (lY s k).length),(2, .ptr 0 0),(1, .int .u8 z)]/\
   H=if (lY s k).length=0 then [(0, .cells 24 (.lst [roI s,roI m,I L]))] else [(2, .cells 3 (.ints (lY s k))),(0, .cells 24 (.lst [roI s,roI m,I L]))]) ?_ ?_
  ·refine ⟨_,_,_,Wk.sub (fr':=[(6,I ((0:Nat):Int)),(5, .nils),(2, .ptr 0 0),(1, .int .u8 z)]) (H':=[(0, .cells 24 (.lst [roI s,roI m,I L]))]) ?_ ?_,0,by omega,rfl,rfl,rfl⟩
   ·simp only [go_sem,sevalprocAttr]
   ·simp only [go_sem,sevalprocAttr]
  rintro n fr H ⟨k,hk,rfl,rfl,rfl⟩;by_cases cJ:k<m.length
  ·have bk:decide ((k:Int)<m.length)=true:=by simp;omega
   have hO:=y9q s m L k hv (by omega) (by omega);have es:=y5q s k;have lk:=Sc s k;cases ho:aj s (k:Int) with
   |false=>
    rw [ho] at hO es;rw [zzI (by decide)] at es;by_cases h0:(lY s k).length=0
    ·rw [zzJ h0,zzJ h0]
     repeat' (first|omega|(try apply ah);simp only [go_sem,sevalprocAttr,bk]|(refine ⟨aL.fn (r:=?_) rfl ?_ ?_⟩;rotate_left;assumption)|(refine ⟨bS.fn (r:=?_) rfl ?_ ?_⟩;rotate_left;assumption)|apply ag<;>(intro h_;(try simp only [h_]);revert h_)|apply zzL|with_reducible intro h_|trivial|simp only [go_sem,ai];omega)
     refine ⟨_,_,_,?_,Wk.sub (fr':=[(6,I ((k+1:Nat):Int)),(5, .nils),(2, .ptr 0 0),(1, .int .u8 z)]) (H':=[(0, .cells 24 (.lst [roI s,roI m,I L]))]) ?_ ?_,k+1,by omega,rfl,by rw [es,zzJ h0],by rw [es,zzJ h0]⟩
     ·omega
     ·simp only [go_sem,sevalprocAttr]
     ·simp only [go_sem,sevalprocAttr]
    ·rw [zzI h0,zzI h0]
     repeat' (first|omega|(try apply ah);simp only [go_sem,sevalprocAttr,bk]|(refine ⟨aL.fn (r:=?_) rfl ?_ ?_⟩;rotate_left;assumption)|(refine ⟨bS.fn (r:=?_) rfl ?_ ?_⟩;rotate_left;assumption)|apply ag<;>(intro h_;(try simp only [h_]);revert h_)|apply zzL|with_reducible intro h_|trivial|simp only [go_sem,ai];omega)
     refine ⟨_,_,_,?_,Wk.sub (fr':=[(6,I ((k+1:Nat):Int)),(5, .sl 1 2 0 (lY s k).length),(2, .ptr 0 0),(1, .int .u8 z)]) (H':=[(2, .cells 3 (.ints (lY s k))),(0, .cells 24 (.lst [roI s,roI m,I L]))]) ?_ ?_,k+1,by omega,rfl,by rw [es,zzI h0],by rw [es,zzI h0]⟩
     ·omega
     ·simp only [go_sem,sevalprocAttr]
     ·simp only [go_sem,sevalprocAttr]
   |true=>
    rw [ho] at hO es;rw [zzJ rfl] at es;have e0: ¬(lY s (k+1)).length=0:=by rw [es];simp
    have e1:(lY s (k+1)).length=(lY s k).length+1:=by rw [es];simp
    by_cases h0:(lY s k).length=0
    ·have hn:=zzQ h0;rw [hn] at es e1;rw [zzJ h0,zzJ h0]
     repeat' (first|omega|(try apply ah);simp only [go_sem,sevalprocAttr,bk]|(refine ⟨aL.fn (r:=?_) rfl ?_ ?_⟩;rotate_left;assumption)|(refine ⟨bS.fn (r:=?_) rfl ?_ ?_⟩;rotate_left;assumption)|apply ag<;>(intro h_;(try simp only [h_]);revert h_)|apply zzL|with_reducible intro h_|trivial|simp only [go_sem,ai];omega)
     refine ⟨_,_,_,?_,Wk.sub (fr':=[(6,I ((k+1:Nat):Int)),(5, .sl 1 2 0 1),(2, .ptr 0 0),(1, .int .u8 z)]) (H':=[(2, .cells 3 (.ints [(k:Int)])),(0, .cells 24 (.lst [roI s,roI m,I L]))]) ?_ ?_,k+1,by omega,rfl,by rw [zzI e0,e1];rfl,by rw [zzI e0,es];rfl⟩
     ·omega
     ·simp only [go_sem,sevalprocAttr]
     ·simp only [go_sem,sevalprocAttr]
    ·rw [zzI h0,zzI h0];generalize lY s k=ol at*
     repeat' (first|omega|(try apply ah);simp only [go_sem,sevalprocAttr,bk]|(refine ⟨aL.fn (r:=?_) rfl ?_ ?_⟩;rotate_left;assumption)|(refine ⟨bS.fn (r:=?_) rfl ?_ ?_⟩;rotate_left;assumption)|apply ag<;>(intro h_;(try simp only [h_]);revert h_)|apply zzL|with_reducible intro h_|trivial|simp only [go_sem,ai];omega)
     refine ⟨_,_,_,?_,Wk.sub (fr':=[(6,I ((k+1:Nat):Int)),(5, .sl 1 2 0 (ol.length+1)),(2, .ptr 0 0),(1, .int .u8 z)]) (H':=[(2, .cells 3 (.ints (ol++[(k:Int)]))),(0, .cells 24 (.lst [roI s,roI m,I L]))]) ?_ ?_,k+1,by omega,rfl,by rw [zzI e0,e1],by rw [zzI e0,es]⟩
     ·omega
     ·simp only [go_sem,sevalprocAttr]
     ·simp only [go_sem,sevalprocAttr]
  ·obtain rfl:k=m.length:=by omega
   have bk:decide ((m.length:Int)<m.length)=false:=by simp
   have lk:=Sc s m.length;by_cases h0:(lY s m.length).length=0
   ·rw [zzJ h0] at hx⊢;rw [zzJ h0];subst hx
    repeat' (first|omega|(try apply ah);simp only [go_sem,sevalprocAttr,bk]|(refine ⟨aL.fn (r:=?_) rfl ?_ ?_⟩;rotate_left;assumption)|(refine ⟨bS.fn (r:=?_) rfl ?_ ?_⟩;rotate_left;assumption)|apply ag<;>(intro h_;(try simp only [h_]);revert h_)|apply zzL|with_reducible intro h_|trivial|simp only [go_sem,ai];omega)
    all_goals exact bE.refl _
   ·rw [zzI h0] at hx⊢;rw [zzI h0];have b0:(((lY s m.length).length:Int)==0)=false:=by rw [zzU];omega
    generalize lY s m.length=ol at*;obtain ⟨zn,rfl⟩: ∃zn:Nat,z=zn:=⟨z.toNat,by omega⟩;have n0:((ol.length:Int)=0)=False:=zzK (by omega);have ht:(zn:Int).tmod ol.length=((zn % ol.length:Nat):Int):=by rw [Int.tmod_eq_emod_of_nonneg (by omega)];rfl
    have aD:=Nat.mod_lt zn (show 0<ol.length by omega);rw [zzC] at hx;generalize zn % ol.length=w at*;subst hx
    repeat' (first|omega|(try apply ah);simp only [go_sem,sevalprocAttr,bk,b0,w1,n0,ht]|(refine ⟨aL.fn (r:=?_) rfl ?_ ?_⟩;rotate_left;assumption)|(refine ⟨bS.fn (r:=?_) rfl ?_ ?_⟩;rotate_left;assumption)|apply ag<;>(intro h_;(try simp only [h_]);revert h_)|apply zzL|with_reducible intro h_|trivial|simp only [go_sem,ai];omega)
    all_goals exact bE.refl _
 ·by_cases h0:(lY s m.length).length=0
  ·rw [zzJ h0] at hx;by_cases hs:s.length=0
   ·exact .inl ⟨hs,hx⟩
   ·exfalso;have h2:(2:Int)∈lY s m.length:=by
     unfold lY;exact List.mem_map.2 ⟨2,List.mem_filter.2 ⟨List.mem_range.2 (by omega),by rfl⟩,rfl⟩
    rw [zzQ h0] at h2;cases h2
  ·rw [zzI h0] at hx;right;refine y9r (k:=m.length) (hx▸?_);have aD:=Nat.mod_lt z.toNat (show 0<(lY s m.length).length by omega);rw [zzB,zzH aD];exact List.getElem_mem _
end Go.Proofs.YtjpbeacamoijhaaGreatDoor
