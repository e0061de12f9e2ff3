/- Plain: the bracket's list, by a test of all exponents. -/
import Derived.Test.YthohfoombimbeaaGreatDoorBr8
import Derived.Shelf.Strings.BuilderK
import Derived.WalkKit
import Derived.BigCall
import Derived.Lib.ItoaLen
import Derived.Lib.AppendIntMem
set_option linter.unusedSimpArgs false
set_option linter.unusedVariables false
namespace Go.Proofs.YthohfoombimbeaaGreatDoor
set_option maxRecDepth 99999
theorem Ve{s m:List Int}{L:Nat}(hv:bG s m L=true)(hs:s.length<=9)(hL:L<=20){p:List (Int×Int)}(ha:dA p)(N:Nat)(hN:5*s.length+2*L<=N+2)(hp:∀t∈p,-(N:Int)<=t.1/\t.1<=N)
  (h:((List.range (2*N+1)).all fun i=>decide (bM p ((i:Int)-N)=dF m s.length L 1 ((i:Int)-N)))=true):pD m s.length L=p:=by
 have hq:=x8 hv
 have:fe p (dF m s.length L 1):=⟨ha,fun e=>by
  by_cases he: -(N:Int)<=e/\e<=N
  ·have:=zZ.1 h (e+N).toNat (zK.2 (by omega))
   rw[decide_eq_true_iff,show (((e+(N:Int)).toNat:Nat):Int)-N=e by omega]at this;exact this
  ·rw[uz fun t ht=>by have:=hp t ht;omega];by_cases h0:dF m s.length L 1 e=0
   ·exact h0.symm
   ·have:=CZ hq h0
    omega⟩
 exact(this.eq fun e he=>xa hq hs hL (by omega) he).symm
open Go Go.RowKit
theorem ZJ:Fn Tryz.prog 7 [dgA [1] [1,0,3,2] 0] (.tup [plA false [(3,-1)],I 0]):=by
 have hv:bG [1] [1,0,3,2] 0=true:=by decide+kernel
 have h:=EX [1] [1,0,3,2] 0 hv (by decide) (by decide) (by decide);rw[Ve (s:=[1]) (m:=[1,0,3,2]) (L:=0) hv (by decide) (by decide) (p:=[(3,-1)]) ⟨by decide,by decide⟩ 4 (by decide) (by decide) (by decide+kernel)]at h;exact h
theorem ZI:Fn Tryz.prog 7 [dgA [1,1,1] [9,4,7,10,1,8,11,2,5,0,3,6] 0] (.tup [plA false [(-7,1),(-3,-1),(5,-1)],I 0]):=by
 have hv:bG [1,1,1] [9,4,7,10,1,8,11,2,5,0,3,6] 0=true:=by decide+kernel
 have h:=EX [1,1,1] [9,4,7,10,1,8,11,2,5,0,3,6] 0 hv (by decide) (by decide) (by decide);rw[Ve (s:=[1,1,1]) (m:=[9,4,7,10,1,8,11,2,5,0,3,6]) (L:=0) hv (by decide) (by decide) (p:=[(-7,1),(-3,-1),(5,-1)]) ⟨by decide,by decide⟩ 14 (by decide) (by decide) (by decide+kernel)]at h;exact h
end Go.Proofs.YthohfoombimbeaaGreatDoor
namespace Go.Proofs.YthohfoombimbeaaGreatDoor
open Go Go.RowKit Go.Shelf
set_option maxHeartbeats 4000000
set_option maxRecDepth 99999
theorem Rm:(Tryz.prog.info? 66).map (·.size)=some 2:=by kernel_rfl
theorem y7p:liesAt Tryz.prog Tryz.prog.depth 66 (2/Tryz.prog.cellsOf 66) 0 66 1=true:=by kernel_rfl
theorem K7:Tryz.prog.underlying 63=some (.pointer 66):=by kernel_rfl
theorem Vd:Tryz.prog.underlying 135=some .unsafePointer:=by kernel_rfl
theorem St:(Tryz.prog.info? 5).map (fun i=>(i.zero,i.size,i.bytes))=some (some (.int .u8 0),1,1):=by kernel_rfl
theorem Rl:Tryz.prog.underlying 64=some (.slice 5):=by kernel_rfl
theorem Fg:Tryz.prog.underlying 9=some .string:=by kernel_rfl
theorem y35(b:Nat)(w:World)(h0:w.cell? ⟨b,0,none⟩=some (.pointer (some ⟨b,0,none⟩))):
  Calls Tryz.prog 71 #[.pointer (some ⟨b,0,none⟩)] w fun e w'=>e= .returned (.tuple #[])/\w'=w:=by
 obtain⟨j,hj,_⟩:=zzB.1 Rm
 go_enter Tryz.func71,Tryz.ntmps71
 go_wp2
 rw[Lib.run_neq_ptr_same w _ K7 hj]
 go_wp2
 go_end0
 exact⟨rfl,rfl⟩
theorem y0q(b:Nat)(w:World)(h0:w.cell? ⟨b,0,none⟩=some (.pointer none))(Ga:w.shape? b=some (66,2))(hfz:w.frozen? ⟨b,0,none⟩=false):
  Calls Tryz.prog 71 #[.pointer (some ⟨b,0,none⟩)] w fun e w'=>e= .returned (.tuple #[])/\w'=w.setCell ⟨b,0,none⟩ (.pointer (some ⟨b,0,none⟩)):=by
 obtain⟨j,hj,hjs⟩:=zzB.1 Rm
 go_enter Tryz.func71,Tryz.ntmps71
 go_wp2
 rw[Lib.run_to_unsafe w ⟨b,0,none⟩ K7 Vd hj (by rw[hjs];decide) Ga (Nat.zero_lt_succ 1)];simp only[Result.andThen];rw[Oper.upon_value]
 go_wp2
 rw[run_callFunc_extern Tryz.func93 (by kernel_rfl) (by kernel_rfl) (by kernel_rfl) (e:=Extern.AbiNoEscape.same) (by kernel_rfl)];rw[Lib.run_noEscape];simp only[Result.andThen];rw[Oper.upon_value]
 go_wp2
 rw[Lib.run_from_unsafe w ⟨b,0,none⟩ Vd K7 hj Ga y7p];simp only[Result.andThen];rw[Oper.upon_value]
 go_wp2
 go_end0
 exact⟨rfl,rfl⟩
theorem TW(B b:Nat)(bs:List Value)(w:World)(h:Lib.IsBuilderF 66 5 B b bs w):
  Calls Tryz.prog 71 #[.pointer (some ⟨b,0,none⟩)] w fun e w'=>e= .returned (.tuple #[])/\(Lib.BuilderAtF 66 5 B b (.pointer (some ⟨b,0,none⟩)) bs w'/\Below B w w'/\Lib.OthersKept 5 (some b) w w'):=by
 rcases h with h|h
 ·refine(y0q b w h.cell0 h.shape h.frozen0).mono ?_;rintro e w' ⟨rfl,rfl⟩;exact⟨rfl,h.used _,(Below.refl B w).setCell (p:=⟨b,0,none⟩) h.1 _,(Lib.OthersKept.refl _ _ w).setCell ⟨b,0,none⟩ rfl _⟩
 ·refine(y35 b w h.cell0).mono ?_;rintro e w' ⟨rfl,rfl⟩;exact⟨rfl,h,Below.refl B _,Lib.OthersKept.refl _ _ _⟩
theorem y36(B b:Nat)(bs:List Value)(c:Int)(w:World)(h:Lib.IsBuilderF 66 5 B b bs w)(hlen:bs.length+1<=140737488355328)(hBw:B<=w.heap.size):
  Calls Tryz.prog 33 #[.pointer (some ⟨b,0,none⟩),.int .u8 c] w fun e w'=>e= .returned .nilIface/\(Lib.BuilderAtF 66 5 B b (.pointer (some ⟨b,0,none⟩)) (bs++[.int .u8 c]) w'/\Below B w w'/\Lib.OthersKept 5 (some b) w w'):=by
 obtain⟨i0,hi,uH,nq,iE⟩:=info_parts St
 go_enter Tryz.func33,Tryz.ntmps33
 go_wp2_with (go_at_call 71;refine(TW B b bs _ h).mono ?_)
 rintro e w1 ⟨rfl,h1,tY,p7⟩;obtain⟨hB,v,s8,jc,aJ⟩:=h1;have c0:w1.cell? ⟨b,0,none⟩=some (.pointer (some ⟨b,0,none⟩)):=by rw[Lib.cell_of_heap s8];rfl
 have c1:w1.cell? ⟨b,1,none⟩=some v:=by rw[Lib.cell_of_heap s8];rfl
 go_wp2_with (at_builtin;refine wpList_append_ownF _ rfl _ _ 64 rfl B 5 i0 (.int .u8 0) 1 1 Rl hi uH nq iE rfl (by decide) _ _ _ rfl (jc.alloc _) ⟨w1.heap.size,0,none⟩ 1 1 [.int .u8 c] rfl rfl ?c1 ?c2 ?c3 ?c4 ?c5 ?_)
 case c1=>
  intro j u hj
  match j,hj with
  |0,hj=>simp at hj;subst hj;simp[Addr.add]
 case c2=>intro u hu;simp at hu;subst hu;rfl
 case c3=>unfold maxLen;omega
 case c4=>omega
 case c5=>have:=tY.size;simp;omega
 intro v' w2 qM mK _;have aC:b<w1.heap.size:=by
  rcases zY b w1.heap.size with h'|h'
  ·exact h'
  ·simp[Array.getElem?_eq_none h']at s8
 have oz:w2.heap[b]?=some (.cells #[.pointer (some ⟨b,0,none⟩),v] 66 (0,0)):=by
  rw[mK.block b (by simp;omega) (fun e=>aJ e.symm),Lib.alloc_old w1 _ b aC];exact s8
 have d0:w2.cell? ⟨b,0,none⟩=some (.pointer (some ⟨b,0,none⟩)):=by rw[Lib.cell_of_heap oz];rfl
 have d1:w2.cell? ⟨b,1,none⟩=some v:=by rw[Lib.cell_of_heap oz];rfl
 have f1:w2.frozen? ⟨b,1,none⟩=false:=Lib.frozen_of_heap oz 1;obtain⟨g,cap,rfl⟩:∃g cap,v'= .slice (some ⟨g,0,none⟩) (bs.length+1) cap:=by
  rcases qM.2 with ⟨_,h0⟩|⟨g,cap,cur,fz,hv,_⟩
  ·omega
  ·exact⟨g,cap,hv⟩
 go_wp2
 go_ret
 refine⟨rfl,?_,?_,((p7.alloc _).grown mK (Lib.ownsRowF_kind (jc.alloc _))).setCell ⟨b,1,none⟩ rfl _⟩
 ·exact Lib.BuilderAtF.put (T:=66) (e:=5) hB oz (bs':=bs++[.int .u8 c]) (by simpa using qM) (by decide)
 ·exact((tY.alloc (by have:=tY.size;omega) _).grown mK (by have:=tY.size;simp;omega) (fun k hk=>(jc.lt k hk).1)).setCell (p:=⟨b,1,none⟩) hB _
theorem y7q(B b:Nat)(bs:List Value)(s:ByteArray)(w:World)(h:Lib.IsBuilderF 66 5 B b bs w)(hlen:bs.length+s.size<=140737488355328)(hBw:B<=w.heap.size):
  Calls Tryz.prog 34 #[.pointer (some ⟨b,0,none⟩),.string s] w fun e w'=>e= .returned (.tuple #[.int .i64 s.size,.nilIface])/\(Lib.BuilderAtF 66 5 B b (.pointer (some ⟨b,0,none⟩)) (bs++Lib.strCells s) w'/\Below B w w'/\Lib.OthersKept 5 (some b) w w'):=by
 obtain⟨i0,hi,uH,nq,iE⟩:=info_parts St
 go_enter Tryz.func34,Tryz.ntmps34
 go_wp2_with (go_at_call 71;refine(TW B b bs _ h).mono ?_)
 rintro e w1 ⟨rfl,h1,tY,p7⟩;obtain⟨hB,v,s8,jc,aJ⟩:=h1;have c0:w1.cell? ⟨b,0,none⟩=some (.pointer (some ⟨b,0,none⟩)):=by rw[Lib.cell_of_heap s8];rfl
 have c1:w1.cell? ⟨b,1,none⟩=some v:=by rw[Lib.cell_of_heap s8];rfl
 go_wp2_with (at_builtin;refine Lib.wpList_append_own_stringF _ rfl _ _ 64 9 rfl B 5 i0 Rl Fg hi uH nq iE _ _ _ rfl jc s rfl ?c3 ?c4 ?c5 ?_)
 case c3=>unfold maxLen;omega
 case c4=>omega
 case c5=>have:=tY.size;omega
 intro v' w2 qM mK _;have aC:b<w1.heap.size:=by
  rcases zY b w1.heap.size with h'|h'
  ·exact h'
  ·simp[Array.getElem?_eq_none h']at s8
 have oz:w2.heap[b]?=some (.cells #[.pointer (some ⟨b,0,none⟩),v] 66 (0,0)):=by
  rw[mK.block b aC (fun e=>aJ e.symm)];exact s8
 have d0:w2.cell? ⟨b,0,none⟩=some (.pointer (some ⟨b,0,none⟩)):=by rw[Lib.cell_of_heap oz];rfl
 have d1:w2.cell? ⟨b,1,none⟩=some v:=by rw[Lib.cell_of_heap oz];rfl
 have f1:w2.frozen? ⟨b,1,none⟩=false:=Lib.frozen_of_heap oz 1;obtain⟨ao,n',cap,rfl⟩:∃ao n' cap,v'= .slice ao n' cap:=by
  rcases qM.2 with ⟨hv,_⟩|⟨g,cap,cur,fz,hv,_⟩
  ·exact⟨_,_,_,hv⟩
  ·exact⟨_,_,_,hv⟩
 go_wp2
 go_ret2
 refine⟨rfl,?_,?_,(p7.grown mK (Lib.ownsRowF_kind jc)).setCell ⟨b,1,none⟩ rfl _⟩
 ·exact Lib.BuilderAtF.put (T:=66) (e:=5) hB oz (bs':=bs++Lib.strCells s) (by simpa [Lib.strCells_length] using qM) (by decide)
 ·exact(tY.grown mK (by have:=tY.size;omega) (fun k hk=>(jc.lt k hk).1)).setCell (p:=⟨b,1,none⟩) hB _
theorem zl{n:Int}(h0: -9223372036854775808<=n)(h1:n<=9223372036854775807):(Lib.itoa n).length<=21:=Lib.itoa_length_le n h0 h1
theorem y0r{B b:Nat}{bs:List Value}{W W':World}(h:Lib.IsBuilderF 66 5 B b bs W)(hb:Below W.heap.size W W'):Lib.IsBuilderF 66 5 B b bs W':=by
 have key:∀p,Lib.BuilderAtF 66 5 B b p bs W->Lib.BuilderAtF 66 5 B b p bs W':=by
  rintro p ⟨h1,v,h2,h3,h4⟩;refine⟨h1,v,?_,?_,h4⟩
  ·rw[hb.block b (Array.getElem?_eq_some_iff.1 h2).1];exact h2
  ·refine⟨h3.1,?_⟩;rcases h3.2 with hn|⟨g,cap,cur,fz,rfl,g1,g2,rest⟩
   ·exact .inl hn
   ·exact .inr ⟨g,cap,cur,fz,rfl,g1,by rw[hb.block g (Array.getElem?_eq_some_iff.1 g2).1];exact g2,rest⟩
 exact h.imp (key _) (key _)
section
variable{w W:World}{b:Nat}{acc:List UInt8}
theorem TS.string(h:Lib.IsBuilderF 66 5 w.heap.size b (Lib.byteCells acc) W)(hb:Below w.heap.size w W):
  Calls Tryz.prog 36 #[.pointer (some ⟨b,0,none⟩)] W fun r W'=>r= .returned (.string ⟨acc.toArray⟩)/\Below w.heap.size w W':=by
 refine(Tryz.Builder_String_any_k w.heap.size b acc W h hb.size).mono ?_;rintro r W' ⟨rfl,_,h2,_⟩;exact⟨rfl,hb.trans h2⟩
end
theorem Qr(a:Addr)(i j:Nat):(a.add i).add j=a.add (i+j):=by
 unfold Addr.add;by_cases hi:i=0<;>by_cases hj:j=0<;>simp[hi,hj,Nat.add_assoc]
theorem Co(a:Addr)(i:Nat):(a.add i).block=a.block:=by unfold Addr.add;split<;>rfl
theorem Ss(w:World)(o:Obj):(w.alloc o).heap[w.heap.size]?=some o:=by
 show (w.heap.push o)[w.heap.size]?=some o;simp
theorem pP{n:Int}(h0: -9223372036854775808<=n)(h1:n<=9223372036854775807):(⟨(Lib.itoa n).toArray⟩:ByteArray).size<=100000:=by
 have:=zl h0 h1
 show (Lib.itoa n).toArray.size<=100000;simp;omega
theorem Ye(w:World)(o:Obj):Lib.IsBuilderF 66 5 w.heap.size (w.heap.size+1) (Lib.byteCells []) ((w.alloc o).alloc (.cells #[.pointer none,.slice none 0 0] 66))/\
  Below w.heap.size w ((w.alloc o).alloc (.cells #[.pointer none,.slice none 0 0] 66))/\w.heap.size+1<((w.alloc o).alloc (.cells #[.pointer none,.slice none 0 0] 66)).heap.size:=by
 have e1:(w.alloc o).heap.size=w.heap.size+1:=by show (w.heap.push o).size=_;simp
 have e2:=Ss (w.alloc o) (.cells #[.pointer none,.slice none 0 0] 66);rw[e1]at e2;refine⟨.inl ⟨by omega,.slice none 0 0,e2,⟨rfl,.inl ⟨rfl,rfl⟩⟩,by simp[Value.ownBlock]⟩,((Below.refl _ w).alloc (zA _) _).alloc (by omega) _,?_⟩;exact(Array.getElem?_eq_some_iff.1 e2).1
structure TS(w:World)(b K:Nat)(e c:Int)(acc:List UInt8)(W:World):Prop where
 bld:Lib.IsBuilderF 66 5 w.heap.size b (Lib.byteCells acc) W
 row:W.heap[K]?=some (.cells #[.int .i64 e,.int .i64 c] 57 (0,0))
 ne:K≠b
 bel:Below w.heap.size w W
section
variable{w W:World}{b K:Nat}{e c:Int}{acc:List UInt8}
theorem TS.c0(h:TS w b K e c acc W):W.cell? ⟨K,0,none⟩=some (.int .i64 e):=by rw[Lib.cell_of_heap h.row];rfl
theorem TS.c1(h:TS w b K e c acc W):W.cell? ⟨K,1,none⟩=some (.int .i64 c):=by rw[Lib.cell_of_heap h.row];rfl
theorem TS.FN(h:TS w b K e c acc W){W':World}(hk:Lib.OthersKept 5 (some b) W W'):W'.heap[K]?=some (.cells #[.int .i64 e,.int .i64 c] 57 (0,0)):=
 hk K _ h.row (fun q=>h.ne (Option.some.inj q)) (fun x fz q=>by simp at q)
theorem TS.byte(h:TS w b K e c acc W)(x:UInt8)(n:Int)(hx:(x.toNat:Int)=n)(hl:acc.length<=100000000000):
  Calls Tryz.prog 33 #[.pointer (some ⟨b,0,none⟩),.int .u8 n] W fun r W'=>r= .returned .nilIface/\TS w b K e c (acc++[x]) W':=by
 subst hx;refine(y36 w.heap.size b _ x.toNat W h.bld (by rw[Lib.byteCells_length];omega) h.bel.size).mono ?_;rintro r W' ⟨rfl,h1,h2,h3⟩;exact⟨rfl,by rw[Lib.byteCells_append];exact .inr h1,h.FN h3,h.ne,h.bel.trans h2⟩
theorem TS.str(h:TS w b K e c acc W)(s:ByteArray)(hl:acc.length<=100000000000)(hs:s.size<=100000):
  Calls Tryz.prog 34 #[.pointer (some ⟨b,0,none⟩),.string s] W fun r W'=>r= .returned (.tuple #[.int .i64 s.size,.nilIface])/\TS w b K e c (acc++s.data.toList) W':=by
 refine(y7q w.heap.size b _ s W h.bld (by rw[Lib.byteCells_length];omega) h.bel.size).mono ?_;rintro r W' ⟨rfl,h1,h2,h3⟩;exact⟨rfl,by rw[Lib.byteCells_append];exact .inr h1,h.FN h3,h.ne,h.bel.trans h2⟩
theorem TS.itoa(h:TS w b K e c acc W)(hg:Good w)(n:Int)(h0: -9223372036854775808<=n)(h1:n<=9223372036854775807):
  Calls Tryz.prog 35 #[.int .i64 n] W fun r W'=>r= .returned (.string ⟨(Lib.itoa n).toArray⟩)/\TS w b K e c acc W':=by
 refine(Tryz.strconv_Itoa n h0 h1 W (hg.later h.bel)).mono ?_;rintro r W' ⟨rfl,k,os,rfl⟩;have hb:=Lib.below_grow W.heap.size W (zA _) k os;exact⟨rfl,y0r h.bld hb,by rw[hb.block K (Array.getElem?_eq_some_iff.1 h.row).1];exact h.row,h.ne,h.bel.trans ⟨hb.os,hb.tape,hb.output,hb.size,fun j hj=>hb.block j (by have:=h.bel.size;omega)⟩⟩
end
def lO(name:List UInt8)(i:Nat)(e c:Int):List UInt8:=
 (if c<0 then [45] else if 0<i then [43] else [])++((if (if c<0 then 0-c else c)=1/\e≠0 then [] else Lib.itoa (if c<0 then 0-c else c))++((if e=0 then [] else name)++(if e=0\/e=1 then [] else 94::Lib.itoa e)))
def kb(name:List UInt8)(p:List (Int×Int)):Nat->List UInt8
 |0=>[]
 |k+1=>kb name p k++lO name k (p.getD k (0,0)).1 (p.getD k (0,0)).2
end Go.Proofs.YthohfoombimbeaaGreatDoor
