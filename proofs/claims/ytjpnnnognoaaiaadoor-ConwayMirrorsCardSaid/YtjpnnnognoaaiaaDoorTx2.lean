/- Layer 12: the text of a polynomial: what is carried from call to call. -/
import Derived.Test.YtjpnnnognoaaiaaDoorTx1
import Derived.Test.YtjpnnnognoaaiaaDoorSh
import Derived.Test.YtjpnnnognoaaiaaDoorGa
import Derived.Lib.ItoaLen
import Derived.Lib.AppendIntMem
set_option linter.unusedSimpArgs false
set_option linter.unusedVariables false
namespace Go.Proofs.YtjpnnnognoaaiaaDoor
open Go Go.RowKit Go.Shelf
set_option maxHeartbeats 4000000
set_option maxRecDepth 100000
structure TS (w:World) (b K:Nat) (e c:Int) (acc:List UInt8) (W:World):Prop where
 bld:Lib.IsBuilderF 64 5 w.heap.size b (Lib.byteCells acc) W
 row:W.heap[K]?=some (.cells #[.int .i64 e, .int .i64 c] 52 (0,0))
 ne:K≠b
 bel:Below w.heap.size w W
section
variable {w W:World} {b K:Nat} {e c:Int} {acc:List UInt8}
theorem TS.c0 (h:TS w b K e c acc W):W.cell? ⟨K,0,none⟩=some (.int .i64 e):=by rw [Lib.cell_of_heap h.row];rfl
theorem TS.c1 (h:TS w b K e c acc W):W.cell? ⟨K,1,none⟩=some (.int .i64 c):=by rw [Lib.cell_of_heap h.row];rfl
theorem TS.keep (h:TS w b K e c acc W) {W':World} (hk:Lib.OthersKept 5 (some b) W W'):W'.heap[K]?=some (.cells #[.int .i64 e, .int .i64 c] 52 (0,0)):=
 hk K _ h.row (fun q=>h.ne (Option.some.inj q)) (fun x fz q=>by simp at q)
theorem TS.byte (h:TS w b K e c acc W) (x:UInt8) (n:Int) (hx:(x.toNat:Int)=n) (hl:acc.length<=100000000000):
  Calls Tryd.prog 37 #[.pointer (some ⟨b,0,none⟩), .int .u8 n] W fun r W'=>r= .returned .nilIface/\TS w b K e c (acc++[x]) W':=by
 subst hx
 refine (y1l w.heap.size b _ x.toNat W h.bld (by rw [Lib.byteCells_length];omega) h.bel.size).mono ?_
 rintro r W' ⟨rfl,h1,h2,h3⟩
 exact ⟨rfl,by rw [Lib.byteCells_append];exact .inr h1,h.keep h3,h.ne,h.bel.trans h2⟩
theorem TS.str (h:TS w b K e c acc W) (s:ByteArray) (hl:acc.length<=100000000000) (hs:s.size<=100000):
  Calls Tryd.prog 38 #[.pointer (some ⟨b,0,none⟩), .string s] W fun r W'=>r= .returned (.tuple #[.int .i64 s.size, .nilIface])/\TS w b K e c (acc++s.data.toList) W':=by
 refine (y4x w.heap.size b _ s W h.bld (by rw [Lib.byteCells_length];omega) h.bel.size).mono ?_
 rintro r W' ⟨rfl,h1,h2,h3⟩
 exact ⟨rfl,by rw [Lib.byteCells_append];exact .inr h1,h.keep h3,h.ne,h.bel.trans h2⟩
theorem yxz {B b:Nat} {bs:List Value} {W W':World} (h:Lib.IsBuilderF 64 5 B b bs W) (hb:Below W.heap.size W W'):Lib.IsBuilderF 64 5 B b bs W':=by
 have key: ∀p,Lib.BuilderAtF 64 5 B b p bs W->Lib.BuilderAtF 64 5 B b p bs W':=by
  rintro p ⟨h1,v,h2,h3,h4⟩
  refine ⟨h1,v,?_,?_,h4⟩
  ·rw [hb.block b (Array.getElem?_eq_some_iff.1 h2).1];exact h2
  ·refine ⟨h3.1,?_⟩
   rcases h3.2 with hn|⟨g,cap,cur,fz,rfl,g1,g2,rest⟩
   ·exact .inl hn
   ·exact .inr ⟨g,cap,cur,fz,rfl,g1,by rw [hb.block g (Array.getElem?_eq_some_iff.1 g2).1];exact g2,rest⟩
 exact h.imp (key _) (key _)
theorem TS.itoa (h:TS w b K e c acc W) (hg:Good w) (n:Int) (h0: -9223372036854775808<=n) (h1:n<=9223372036854775807):
  Calls Tryd.prog 39 #[.int .i64 n] W fun r W'=>r= .returned (.string ⟨(Lib.itoa n).toArray⟩)/\TS w b K e c acc W':=by
 refine (Tryd.strconv_Itoa n h0 h1 W (hg.later h.bel)).mono ?_
 rintro r W' ⟨rfl,k,os,rfl⟩
 have hb:=Lib.below_grow W.heap.size W (Nat.le_refl _) k os
 exact ⟨rfl,yxz h.bld hb,by rw [hb.block K (Array.getElem?_eq_some_iff.1 h.row).1];exact h.row,h.ne,h.bel.trans ⟨hb.os,hb.tape,hb.output,hb.size,fun j hj=>hb.block j (by have:=h.bel.size;omega)⟩⟩
theorem TS.string (h:Lib.IsBuilderF 64 5 w.heap.size b (Lib.byteCells acc) W) (hb:Below w.heap.size w W):
  Calls Tryd.prog 40 #[.pointer (some ⟨b,0,none⟩)] W fun r W'=>r= .returned (.string ⟨acc.toArray⟩)/\Below w.heap.size w W':=by
 refine (Tryd.Builder_String_any_k w.heap.size b acc W h hb.size).mono ?_
 rintro r W' ⟨rfl,_,h2,_⟩
 exact ⟨rfl,hb.trans h2⟩
end
def yb2 (name:List UInt8) (i:Nat) (e c:Int):List UInt8:=
 (if c<0 then [45] else if 0<i then [43] else [])++((if (if c<0 then 0-c else c)=1/\e≠0 then [] else Lib.itoa (if c<0 then 0-c else c))++((if e=0 then [] else name)++(if e=0\/e=1 then [] else 94::Lib.itoa e)))
def txtN (name:List UInt8) (p:List (Int×Int)):Nat->List UInt8
 |0=>[]
 |k+1=>txtN name p k++yb2 name k (p.getD k (0,0)).1 (p.getD k (0,0)).2
theorem ydx {n:Int} (h0: -9223372036854775808<=n) (h1:n<=9223372036854775807):(Lib.itoa n).length<=21:=Lib.itoa_length_le n h0 h1
end Go.Proofs.YtjpnnnognoaaiaaDoor
