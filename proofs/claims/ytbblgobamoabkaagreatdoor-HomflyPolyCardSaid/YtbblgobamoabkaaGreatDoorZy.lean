/- strings.Builder and strconv.Itoa: what the texts of polynomials share. -/
import Derived.Test.YtbblgobamoabkaaGreatDoorZx
import Derived.Test.YtbblgobamoabkaaGreatDoorSh
import Derived.Test.YtbblgobamoabkaaGreatDoorGa
import Derived.Lib.ItoaLen
import Derived.Lib.AppendIntMem
import Derived.Test.YtbblgobamoabkaaGreatDoorZc
set_option linter.unusedSimpArgs false
set_option linter.unusedVariables false
namespace Go.Proofs.YtbblgobamoabkaaGreatDoor
open Go Go.RowKit Go.Shelf
set_option maxHeartbeats 4000000
set_option maxRecDepth 100000
theorem ydq {n:Int} (h0: -9223372036854775808<=n) (h1:n<=9223372036854775807):(Lib.itoa n).length<=21:=Lib.itoa_length_le n h0 h1
theorem yy2 {B b:Nat} {bs:List Value} {W W':World} (h:Lib.IsBuilderF 74 5 B b bs W) (hb:Below W.heap.size W W'):Lib.IsBuilderF 74 5 B b bs W':=by
 have key: ∀p,Lib.BuilderAtF 74 5 B b p bs W->Lib.BuilderAtF 74 5 B b p bs W':=by
  rintro p ⟨h1,v,h2,h3,h4⟩
  refine ⟨h1,v,?_,?_,h4⟩
  ·rw [hb.block b (Array.getElem?_eq_some_iff.1 h2).1];exact h2
  ·refine ⟨h3.1,?_⟩
   rcases h3.2 with hn|⟨g,cap,cur,fz,rfl,g1,g2,rest⟩
   ·exact .inl hn
   ·exact .inr ⟨g,cap,cur,fz,rfl,g1,by rw [hb.block g (Array.getElem?_eq_some_iff.1 g2).1];exact g2,rest⟩
 exact h.imp (key _) (key _)
section
variable {w W:World} {b:Nat} {acc:List UInt8}
theorem TS.string (h:Lib.IsBuilderF 74 5 w.heap.size b (Lib.byteCells acc) W) (hb:Below w.heap.size w W):
  Calls Tryz.prog 41 #[.pointer (some ⟨b,0,none⟩)] W fun r W'=>r= .returned (.string ⟨acc.toArray⟩)/\Below w.heap.size w W':=by
 refine (Tryz.Builder_String_any_k w.heap.size b acc W h hb.size).mono ?_
 rintro r W' ⟨rfl,_,h2,_⟩
 exact ⟨rfl,hb.trans h2⟩
end
theorem adds (a:Addr) (i j:Nat):(a.add i).add j=a.add (i+j):=by
 unfold Addr.add
 by_cases hi:i=0<;>by_cases hj:j=0<;>simp [hi,hj,Nat.add_assoc]
theorem addB (a:Addr) (i:Nat):(a.add i).block=a.block:=by unfold Addr.add;split<;>rfl
theorem yra (w:World) (o:Obj):(w.alloc o).heap[w.heap.size]?=some o:=by
 show (w.heap.push o)[w.heap.size]?=some o
 simp
theorem ye9 {n:Int} (h0: -9223372036854775808<=n) (h1:n<=9223372036854775807):(⟨(Lib.itoa n).toArray⟩:ByteArray).size<=100000:=by
 have:=ydq h0 h1
 show (Lib.itoa n).toArray.size<=100000
 simp;omega
theorem yve (w:World) (o:Obj):Lib.IsBuilderF 74 5 w.heap.size (w.heap.size+1) (Lib.byteCells []) ((w.alloc o).alloc (.cells #[.pointer none, .slice none 0 0] 74))/\
  Below w.heap.size w ((w.alloc o).alloc (.cells #[.pointer none, .slice none 0 0] 74))/\w.heap.size+1<((w.alloc o).alloc (.cells #[.pointer none, .slice none 0 0] 74)).heap.size:=by
 have e1:(w.alloc o).heap.size=w.heap.size+1:=by show (w.heap.push o).size=_;simp
 have e2:=yra (w.alloc o) (.cells #[.pointer none, .slice none 0 0] 74)
 rw [e1] at e2
 refine ⟨.inl ⟨by omega, .slice none 0 0,e2,⟨rfl, .inl ⟨rfl,rfl⟩⟩,by simp [Value.ownBlock]⟩,((Below.refl _ w).alloc (Nat.le_refl _) _).alloc (by omega) _,?_⟩
 exact (Array.getElem?_eq_some_iff.1 e2).1
end Go.Proofs.YtbblgobamoabkaaGreatDoor
set_option linter.unusedSimpArgs false
set_option linter.unusedVariables false
namespace Go.Proofs.YtbblgobamoabkaaGreatDoor
open Go Go.RowKit Go.Shelf
set_option maxHeartbeats 4000000
set_option maxRecDepth 100000
structure TB (w:World) (b K:Nat) (x z c:Int) (acc:List UInt8) (W:World):Prop where
 bld:Lib.IsBuilderF 74 5 w.heap.size b (Lib.byteCells acc) W
 row:W.heap[K]?=some (.cells #[.int .i64 x, .int .i64 z, .int .i64 c] 66 (0,0))
 ne:K≠b
 bel:Below w.heap.size w W
section
variable {w W:World} {b K:Nat} {x z c:Int} {acc:List UInt8}
theorem TB.c0 (h:TB w b K x z c acc W):W.cell? ⟨K,0,none⟩=some (.int .i64 x):=by rw [Lib.cell_of_heap h.row];rfl
theorem TB.c1 (h:TB w b K x z c acc W):W.cell? ⟨K,1,none⟩=some (.int .i64 z):=by rw [Lib.cell_of_heap h.row];rfl
theorem TB.c2 (h:TB w b K x z c acc W):W.cell? ⟨K,2,none⟩=some (.int .i64 c):=by rw [Lib.cell_of_heap h.row];rfl
theorem TB.keep (h:TB w b K x z c acc W) {W':World} (hk:Lib.OthersKept 5 (some b) W W'):W'.heap[K]?=some (.cells #[.int .i64 x, .int .i64 z, .int .i64 c] 66 (0,0)):=
 hk K _ h.row (fun q=>h.ne (Option.some.inj q)) (fun x fz q=>by simp at q)
theorem TB.byte (h:TB w b K x z c acc W) (u:UInt8) (n:Int) (hx:(u.toNat:Int)=n) (hl:acc.length<=100000000000):
  Calls Tryz.prog 39 #[.pointer (some ⟨b,0,none⟩), .int .u8 n] W fun r W'=>r= .returned .nilIface/\TB w b K x z c (acc++[u]) W':=by
 subst hx
 refine (y1n w.heap.size b _ u.toNat W h.bld (by rw [Lib.byteCells_length];omega) h.bel.size).mono ?_
 rintro r W' ⟨rfl,h1,h2,h3⟩
 exact ⟨rfl,by rw [Lib.byteCells_append];exact .inr h1,h.keep h3,h.ne,h.bel.trans h2⟩
theorem TB.str (h:TB w b K x z c acc W) (s:ByteArray) (hl:acc.length<=100000000000) (hs:s.size<=100000):
  Calls Tryz.prog 38 #[.pointer (some ⟨b,0,none⟩), .string s] W fun r W'=>r= .returned (.tuple #[.int .i64 s.size, .nilIface])/\TB w b K x z c (acc++s.data.toList) W':=by
 refine (y4g w.heap.size b _ s W h.bld (by rw [Lib.byteCells_length];omega) h.bel.size).mono ?_
 rintro r W' ⟨rfl,h1,h2,h3⟩
 exact ⟨rfl,by rw [Lib.byteCells_append];exact .inr h1,h.keep h3,h.ne,h.bel.trans h2⟩
theorem TB.itoa (h:TB w b K x z c acc W) (hg:Good w) (n:Int) (h0: -9223372036854775808<=n) (h1:n<=9223372036854775807):
  Calls Tryz.prog 40 #[.int .i64 n] W fun r W'=>r= .returned (.string ⟨(Lib.itoa n).toArray⟩)/\TB w b K x z c acc W':=by
 refine (Tryz.strconv_Itoa n h0 h1 W (hg.later h.bel)).mono ?_
 rintro r W' ⟨rfl,k,os,rfl⟩
 have hb:=Lib.below_grow W.heap.size W (Nat.le_refl _) k os
 exact ⟨rfl,yy2 h.bld hb,by rw [hb.block K (Array.getElem?_eq_some_iff.1 h.row).1];exact h.row,h.ne,h.bel.trans ⟨hb.os,hb.tape,hb.output,hb.size,fun j hj=>hb.block j (by have:=h.bel.size;omega)⟩⟩
end
def powT (name:List UInt8) (e:Int):List UInt8:=(if e=0 then [] else name)++(if e=0\/e=1 then [] else 94::Lib.itoa e)
def ycj (n1 n2:List UInt8) (i:Nat) (x z c:Int):List UInt8:=
 (if c<0 then [45] else if 0<i then [43] else [])++((if (if c<0 then 0-c else c)=1/\ ¬(x=0/\z=0) then [] else Lib.itoa (if c<0 then 0-c else c))++(powT n1 x++powT n2 z))
def yb2 (n1 n2:List UInt8) (p:List (Int×Int)):Nat->List UInt8
 |0=>[]
 |k+1=>yb2 n1 n2 p k++ycj n1 n2 k (bvA (p.getD k (0,0)).1) (bvZ (p.getD k (0,0)).1) (p.getD k (0,0)).2
end Go.Proofs.YtbblgobamoabkaaGreatDoor
