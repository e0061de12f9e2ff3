/- strings.Builder at this program: the copy check, WriteByte, WriteString. -/
import Derived.Shelf.Strings.BuilderK
import Derived.WalkKit
import Derived.BigCall
import Derived.Test.YtmdjdekgakidhaaDoorProg
import Derived.Test.YtmdjdekgakidhaaDoorSh
import Derived.Test.YtmdjdekgakidhaaDoorGa
import Derived.Lib.ItoaLen
import Derived.Lib.AppendIntMem
set_option linter.unusedSimpArgs false
set_option linter.unusedVariables false
namespace Go.Proofs.YtmdjdekgakidhaaDoor
open Go Go.RowKit Go.Shelf
set_option maxHeartbeats 4000000
set_option maxRecDepth 100000
theorem ys9:(Tryd.prog.info? 56).map (·.size)=some 2:=by kernel_rfl
theorem y36:liesAt Tryd.prog Tryd.prog.depth 56 (2/Tryd.prog.cellsOf 56) 0 56 1=true:=by kernel_rfl
theorem yqz:Tryd.prog.underlying 53=some (.pointer 56):=by kernel_rfl
theorem yxb:Tryd.prog.underlying 106=some .unsafePointer:=by kernel_rfl
theorem yq0:(Tryd.prog.info? 5).map (fun i=>(i.zero,i.size,i.bytes))=some (some (.int .u8 0),1,1):=by kernel_rfl
theorem yta:Tryd.prog.underlying 54=some (.slice 5):=by kernel_rfl
theorem y64:Tryd.prog.underlying 9=some .string:=by kernel_rfl
theorem yz2 (b:Nat) (w:World) (h0:w.cell? ⟨b,0,none⟩=some (.pointer (some ⟨b,0,none⟩))):
  Calls Tryd.prog 39 #[.pointer (some ⟨b,0,none⟩)] w fun e w'=>e= .returned (.tuple #[])/\w'=w:=by
 obtain ⟨j,hj,_⟩:=Option.map_eq_some_iff.1 ys9
 go_enter Tryd.func39,Tryd.ntmps39
 go_wp2
 rw [Lib.run_neq_ptr_same w _ yqz hj]
 go_wp2
 go_end0
 exact ⟨rfl,rfl⟩
theorem yxc (b:Nat) (w:World) (h0:w.cell? ⟨b,0,none⟩=some (.pointer none)) (hsh:w.shape? b=some (56,2)) (hfz:w.frozen? ⟨b,0,none⟩=false):
  Calls Tryd.prog 39 #[.pointer (some ⟨b,0,none⟩)] w fun e w'=>e= .returned (.tuple #[])/\w'=w.setCell ⟨b,0,none⟩ (.pointer (some ⟨b,0,none⟩)):=by
 obtain ⟨j,hj,hjs⟩:=Option.map_eq_some_iff.1 ys9
 go_enter Tryd.func39,Tryd.ntmps39
 go_wp2
 rw [Lib.run_to_unsafe w ⟨b,0,none⟩ yqz yxb hj (by rw [hjs];decide) hsh (Nat.zero_lt_succ 1)]
 simp only [Result.andThen]
 rw [Oper.upon_value]
 go_wp2
 rw [run_callFunc_extern Tryd.func51 (by kernel_rfl) (by kernel_rfl) (by kernel_rfl) (e:=Extern.AbiNoEscape.same) (by kernel_rfl)]
 rw [Lib.run_noEscape]
 simp only [Result.andThen]
 rw [Oper.upon_value]
 go_wp2
 rw [Lib.run_from_unsafe w ⟨b,0,none⟩ yxb yqz hj hsh y36]
 simp only [Result.andThen]
 rw [Oper.upon_value]
 go_wp2
 go_end0
 exact ⟨rfl,rfl⟩
theorem yoa (B b:Nat) (bs:List Value) (w:World) (h:Lib.IsBuilderF 56 5 B b bs w):
  Calls Tryd.prog 39 #[.pointer (some ⟨b,0,none⟩)] w fun e w'=>e= .returned (.tuple #[])/\(Lib.BuilderAtF 56 5 B b (.pointer (some ⟨b,0,none⟩)) bs w'/\Below B w w'/\Lib.OthersKept 5 (some b) w w'):=by
 rcases h with h|h
 ·refine (yxc b w h.cell0 h.shape h.frozen0).mono ?_
  rintro e w' ⟨rfl,rfl⟩
  exact ⟨rfl,h.used _,(Below.refl B w).setCell (p:=⟨b,0,none⟩) h.1 _,(Lib.OthersKept.refl _ _ w).setCell ⟨b,0,none⟩ rfl _⟩
 ·refine (yz2 b w h.cell0).mono ?_
  rintro e w' ⟨rfl,rfl⟩
  exact ⟨rfl,h,Below.refl B _,Lib.OthersKept.refl _ _ _⟩
theorem yz3 (B b:Nat) (bs:List Value) (c:Int) (w:World) (h:Lib.IsBuilderF 56 5 B b bs w) (hlen:bs.length+1<=140737488355328) (hBw:B<=w.heap.size):
  Calls Tryd.prog 21 #[.pointer (some ⟨b,0,none⟩), .int .u8 c] w fun e w'=>e= .returned .nilIface/\(Lib.BuilderAtF 56 5 B b (.pointer (some ⟨b,0,none⟩)) (bs++[.int .u8 c]) w'/\Below B w w'/\Lib.OthersKept 5 (some b) w w'):=by
 obtain ⟨i0,hi,hz0,hz1,hz2⟩:=info_parts yq0
 go_enter Tryd.func21,Tryd.ntmps21
 go_wp2_with (go_at_call 39;refine (yoa B b bs _ h).mono ?_)
 rintro e w1 ⟨rfl,h1,hb1,hk1⟩
 obtain ⟨hB,v,hbk,hown,hne⟩:=h1
 have c0:w1.cell? ⟨b,0,none⟩=some (.pointer (some ⟨b,0,none⟩)):=by rw [Lib.cell_of_heap hbk];rfl
 have c1:w1.cell? ⟨b,1,none⟩=some v:=by rw [Lib.cell_of_heap hbk];rfl
 go_wp2_with (at_builtin;refine wpList_append_ownF _ rfl _ _ 54 rfl B 5 i0 (.int .u8 0) 1 1 yta hi hz0 hz1 hz2 rfl (by decide) _ _ _ rfl (hown.alloc _) ⟨w1.heap.size,0,none⟩ 1 1 [.int .u8 c] rfl rfl ?c1 ?c2 ?c3 ?c4 ?c5 ?_)
 case c1=>
  intro j u hj
  match j,hj with
  |0,hj=>simp at hj;subst hj;simp [Addr.add]
 case c2=>intro u hu;simp at hu;subst hu;rfl
 case c3=>unfold maxLen;omega
 case c4=>omega
 case c5=>have:=hb1.size;simp;omega
 intro v' w2 hown' hgrow _
 have hlt:b<w1.heap.size:=by
  rcases Nat.lt_or_ge b w1.heap.size with h'|h'
  ·exact h'
  ·simp [Array.getElem?_eq_none h'] at hbk
 have hb2:w2.heap[b]?=some (.cells #[.pointer (some ⟨b,0,none⟩),v] 56 (0,0)):=by
  rw [hgrow.block b (by simp;omega) (fun e=>hne e.symm),Lib.alloc_old w1 _ b hlt]
  exact hbk
 have d0:w2.cell? ⟨b,0,none⟩=some (.pointer (some ⟨b,0,none⟩)):=by rw [Lib.cell_of_heap hb2];rfl
 have d1:w2.cell? ⟨b,1,none⟩=some v:=by rw [Lib.cell_of_heap hb2];rfl
 have f1:w2.frozen? ⟨b,1,none⟩=false:=Lib.frozen_of_heap hb2 1
 obtain ⟨g,cap,rfl⟩: ∃g cap,v'= .slice (some ⟨g,0,none⟩) (bs.length+1) cap:=by
  rcases hown'.2 with ⟨_,h0⟩|⟨g,cap,cur,fz,hv,_⟩
  ·omega
  ·exact ⟨g,cap,hv⟩
 go_wp2
 go_ret
 refine ⟨rfl,?_,?_,((hk1.alloc _).grown hgrow (Lib.ownsRowF_kind (hown.alloc _))).setCell ⟨b,1,none⟩ rfl _⟩
 ·exact Lib.BuilderAtF.put (T:=56) (e:=5) hB hb2 (bs':=bs++[.int .u8 c]) (by simpa using hown') (by decide)
 ·exact ((hb1.alloc (by have:=hb1.size;omega) _).grown hgrow (by have:=hb1.size;simp;omega) (fun k hk=>(hown.lt k hk).1)).setCell (p:=⟨b,1,none⟩) hB _
theorem y37 (B b:Nat) (bs:List Value) (s:ByteArray) (w:World) (h:Lib.IsBuilderF 56 5 B b bs w) (hlen:bs.length+s.size<=140737488355328) (hBw:B<=w.heap.size):
  Calls Tryd.prog 22 #[.pointer (some ⟨b,0,none⟩), .string s] w fun e w'=>e= .returned (.tuple #[.int .i64 s.size, .nilIface])/\(Lib.BuilderAtF 56 5 B b (.pointer (some ⟨b,0,none⟩)) (bs++Lib.strCells s) w'/\Below B w w'/\Lib.OthersKept 5 (some b) w w'):=by
 obtain ⟨i0,hi,hz0,hz1,hz2⟩:=info_parts yq0
 go_enter Tryd.func22,Tryd.ntmps22
 go_wp2_with (go_at_call 39;refine (yoa B b bs _ h).mono ?_)
 rintro e w1 ⟨rfl,h1,hb1,hk1⟩
 obtain ⟨hB,v,hbk,hown,hne⟩:=h1
 have c0:w1.cell? ⟨b,0,none⟩=some (.pointer (some ⟨b,0,none⟩)):=by rw [Lib.cell_of_heap hbk];rfl
 have c1:w1.cell? ⟨b,1,none⟩=some v:=by rw [Lib.cell_of_heap hbk];rfl
 go_wp2_with (at_builtin;refine Lib.wpList_append_own_stringF _ rfl _ _ 54 9 rfl B 5 i0 yta y64 hi hz0 hz1 hz2 _ _ _ rfl hown s rfl ?c3 ?c4 ?c5 ?_)
 case c3=>unfold maxLen;omega
 case c4=>omega
 case c5=>have:=hb1.size;omega
 intro v' w2 hown' hgrow _
 have hlt:b<w1.heap.size:=by
  rcases Nat.lt_or_ge b w1.heap.size with h'|h'
  ·exact h'
  ·simp [Array.getElem?_eq_none h'] at hbk
 have hb2:w2.heap[b]?=some (.cells #[.pointer (some ⟨b,0,none⟩),v] 56 (0,0)):=by
  rw [hgrow.block b hlt (fun e=>hne e.symm)]
  exact hbk
 have d0:w2.cell? ⟨b,0,none⟩=some (.pointer (some ⟨b,0,none⟩)):=by rw [Lib.cell_of_heap hb2];rfl
 have d1:w2.cell? ⟨b,1,none⟩=some v:=by rw [Lib.cell_of_heap hb2];rfl
 have f1:w2.frozen? ⟨b,1,none⟩=false:=Lib.frozen_of_heap hb2 1
 obtain ⟨ao,n',cap,rfl⟩: ∃ao n' cap,v'= .slice ao n' cap:=by
  rcases hown'.2 with ⟨hv,_⟩|⟨g,cap,cur,fz,hv,_⟩
  ·exact ⟨_,_,_,hv⟩
  ·exact ⟨_,_,_,hv⟩
 go_wp2
 go_ret2
 refine ⟨rfl,?_,?_,(hk1.grown hgrow (Lib.ownsRowF_kind hown)).setCell ⟨b,1,none⟩ rfl _⟩
 ·exact Lib.BuilderAtF.put (T:=56) (e:=5) hB hb2 (bs':=bs++Lib.strCells s) (by simpa [Lib.strCells_length] using hown') (by decide)
 ·exact (hb1.grown hgrow (by have:=hb1.size;omega) (fun k hk=>(hown.lt k hk).1)).setCell (p:=⟨b,1,none⟩) hB _
end Go.Proofs.YtmdjdekgakidhaaDoor
set_option linter.unusedSimpArgs false
set_option linter.unusedVariables false
namespace Go.Proofs.YtmdjdekgakidhaaDoor
open Go Go.RowKit Go.Shelf
set_option maxHeartbeats 4000000
set_option maxRecDepth 100000
structure TS (w:World) (b K:Nat) (e c:Int) (acc:List UInt8) (W:World):Prop where
 bld:Lib.IsBuilderF 56 5 w.heap.size b (Lib.byteCells acc) W
 row:W.heap[K]?=some (.cells #[.int .i64 e, .int .i64 c] 50 (0,0))
 ne:K≠b
 bel:Below w.heap.size w W
section
variable {w W:World} {b K:Nat} {e c:Int} {acc:List UInt8}
theorem TS.c0 (h:TS w b K e c acc W):W.cell? ⟨K,0,none⟩=some (.int .i64 e):=by rw [Lib.cell_of_heap h.row];rfl
theorem TS.c1 (h:TS w b K e c acc W):W.cell? ⟨K,1,none⟩=some (.int .i64 c):=by rw [Lib.cell_of_heap h.row];rfl
theorem TS.keep (h:TS w b K e c acc W) {W':World} (hk:Lib.OthersKept 5 (some b) W W'):W'.heap[K]?=some (.cells #[.int .i64 e, .int .i64 c] 50 (0,0)):=
 hk K _ h.row (fun q=>h.ne (Option.some.inj q)) (fun x fz q=>by simp at q)
theorem TS.byte (h:TS w b K e c acc W) (x:UInt8) (n:Int) (hx:(x.toNat:Int)=n) (hl:acc.length<=100000000000):
  Calls Tryd.prog 21 #[.pointer (some ⟨b,0,none⟩), .int .u8 n] W fun r W'=>r= .returned .nilIface/\TS w b K e c (acc++[x]) W':=by
 subst hx
 refine (yz3 w.heap.size b _ x.toNat W h.bld (by rw [Lib.byteCells_length];omega) h.bel.size).mono ?_
 rintro r W' ⟨rfl,h1,h2,h3⟩
 exact ⟨rfl,by rw [Lib.byteCells_append];exact .inr h1,h.keep h3,h.ne,h.bel.trans h2⟩
theorem TS.str (h:TS w b K e c acc W) (s:ByteArray) (hl:acc.length<=100000000000) (hs:s.size<=100000):
  Calls Tryd.prog 22 #[.pointer (some ⟨b,0,none⟩), .string s] W fun r W'=>r= .returned (.tuple #[.int .i64 s.size, .nilIface])/\TS w b K e c (acc++s.data.toList) W':=by
 refine (y37 w.heap.size b _ s W h.bld (by rw [Lib.byteCells_length];omega) h.bel.size).mono ?_
 rintro r W' ⟨rfl,h1,h2,h3⟩
 exact ⟨rfl,by rw [Lib.byteCells_append];exact .inr h1,h.keep h3,h.ne,h.bel.trans h2⟩
theorem yxd {B b:Nat} {bs:List Value} {W W':World} (h:Lib.IsBuilderF 56 5 B b bs W) (hb:Below W.heap.size W W'):Lib.IsBuilderF 56 5 B b bs W':=by
 have key: ∀p,Lib.BuilderAtF 56 5 B b p bs W->Lib.BuilderAtF 56 5 B b p bs W':=by
  rintro p ⟨h1,v,h2,h3,h4⟩
  refine ⟨h1,v,?_,?_,h4⟩
  ·rw [hb.block b (Array.getElem?_eq_some_iff.1 h2).1];exact h2
  ·refine ⟨h3.1,?_⟩
   rcases h3.2 with hn|⟨g,cap,cur,fz,rfl,g1,g2,rest⟩
   ·exact .inl hn
   ·exact .inr ⟨g,cap,cur,fz,rfl,g1,by rw [hb.block g (Array.getElem?_eq_some_iff.1 g2).1];exact g2,rest⟩
 exact h.imp (key _) (key _)
theorem TS.itoa (h:TS w b K e c acc W) (hg:Good w) (n:Int) (h0: -9223372036854775808<=n) (h1:n<=9223372036854775807):
  Calls Tryd.prog 23 #[.int .i64 n] W fun r W'=>r= .returned (.string ⟨(Lib.itoa n).toArray⟩)/\TS w b K e c acc W':=by
 refine (Tryd.strconv_Itoa n h0 h1 W (hg.later h.bel)).mono ?_
 rintro r W' ⟨rfl,k,os,rfl⟩
 have hb:=Lib.below_grow W.heap.size W (Nat.le_refl _) k os
 exact ⟨rfl,yxd h.bld hb,by rw [hb.block K (Array.getElem?_eq_some_iff.1 h.row).1];exact h.row,h.ne,h.bel.trans ⟨hb.os,hb.tape,hb.output,hb.size,fun j hj=>hb.block j (by have:=h.bel.size;omega)⟩⟩
theorem TS.string (h:Lib.IsBuilderF 56 5 w.heap.size b (Lib.byteCells acc) W) (hb:Below w.heap.size w W):
  Calls Tryd.prog 24 #[.pointer (some ⟨b,0,none⟩)] W fun r W'=>r= .returned (.string ⟨acc.toArray⟩)/\Below w.heap.size w W':=by
 refine (Tryd.Builder_String_any_k w.heap.size b acc W h hb.size).mono ?_
 rintro r W' ⟨rfl,_,h2,_⟩
 exact ⟨rfl,hb.trans h2⟩
end
def ybm (name:List UInt8) (i:Nat) (e c:Int):List UInt8:=
 (if c<0 then [45] else if 0<i then [43] else [])++((if (if c<0 then 0-c else c)=1/\e≠0 then [] else Lib.itoa (if c<0 then 0-c else c))++((if e=0 then [] else name)++(if e=0\/e=1 then [] else 94::Lib.itoa e)))
def txtN (name:List UInt8) (p:List (Int×Int)):Nat->List UInt8
 |0=>[]
 |k+1=>txtN name p k++ybm name k (p.getD k (0,0)).1 (p.getD k (0,0)).2
theorem yc5 {n:Int} (h0: -9223372036854775808<=n) (h1:n<=9223372036854775807):(Lib.itoa n).length<=21:=Lib.itoa_length_le n h0 h1
end Go.Proofs.YtmdjdekgakidhaaDoor
