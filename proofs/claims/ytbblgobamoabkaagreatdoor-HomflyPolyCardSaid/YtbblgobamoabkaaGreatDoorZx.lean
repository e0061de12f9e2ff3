/- The reference of layer 1: the number of components. -/
import Derived.Test.YtbblgobamoabkaaGreatDoorZv
import Derived.Test.YtbblgobamoabkaaGreatDoorZt
import Derived.Test.YtbblgobamoabkaaGreatDoorRf10
import Derived.Shelf.Strings.BuilderK
import Derived.WalkKit
import Derived.BigCall
import Derived.Test.YtbblgobamoabkaaGreatDoorProg
set_option linter.unusedSimpArgs false
set_option linter.unusedVariables false
namespace Go.Proofs.YtbblgobamoabkaaGreatDoor
open Go Go.RowKit
set_option maxRecDepth 100000
set_option maxHeartbeats 8000000
def yyz:Tr:= .node [(0, .node [(1, .node [(2,trD [3,4,5,6]),(3, .node [(2,trD [4,5,6]),(4,trD [2,5,6])])]),(3, .node [(1, .node [(2,trD [4,5,6]),(4,trD [2,5,6])]),(4,trD [1,2,5,6])])]),(3, .node [(0, .node [(1, .node [(2,trD [4,5,6]),(4,trD [2,5,6])]),(4,trD [1,2,5,6])]),(4,trD [0,1,2,5,6])])]
theorem ynp (s m:List Int) (L:Int) (hv:yap s m L=true):Fn Tryz.prog 23 [dgA s m L] (I ((yam s m).length+L)):=by
 have v1:=ya1 hv
 have h64:=v1.s64
 have hl:=v1.len
 have h0:=v1.l0
 have h1:=v1.l64
 have hS:=ykx s m L s.length rfl (by omega) hl (fun i hi=>v1.prd.ok.2 i (by omega))
 rw [yky v1] at hS
 have hsl:=yby s m
 refine Fn.intro [.tmp 2] Tryz.func23 rfl rfl (by decide) (by simp [Tryz.ntmps23]) ?_;rw [Tryz.ntmps23]
 repeat' (first|omega|(first|apply yaa|(refine yac.intro (id:=1) [[6,7],[6,7],[6,7],[3,4,5],[3,4,5],[],[]] [[],[],[],[0,1,2],[0,1,2],[],[]] (by decide+kernel) mixed ?_)|(refine yac.introT (id:=1) (yyz) (by decide+kernel) mixed ?_)|skip);simp only [go_sem,sevalprocAttr,↓reduceIte,reduceCtorEq,yyz]|apply yab<;>(intro h_;(try simp only [h_]);revert h_)|apply And.intro|with_reducible intro h_|trivial|simp only [go_sem,la2];omega)
 refine ⟨yai.fn rfl hS ?_⟩
 repeat' (first|omega|(try apply yaa);simp only [go_sem,sevalprocAttr]|apply yab<;>(intro h_;(try simp only [h_]);revert h_)|apply And.intro|with_reducible intro h_|trivial|simp only [go_sem,la2];omega)
end Go.Proofs.YtbblgobamoabkaaGreatDoor
namespace Go.Proofs.YtbblgobamoabkaaGreatDoor
open Go Go.RowKit Sp
set_option maxRecDepth 100000
set_option maxHeartbeats 8000000
set_option linter.unusedVariables false
set_option linter.unusedSimpArgs false
def yh0:List (List Nat):=[[14,17,18,4,5],[13,17,18,4,5],[17,18,4,5],[17,18,4,5],[13,14,15,16,18,4,5],[13,14,15,16,17,4,5],[4,5],[4,5],[13,14,15,16,17,18,19,20,5],[13,14,15,16,17,18,19,20,4],[],[]]
def yh1:List (List Nat):=[[],[0],[],[],[0,1,2,3],[0,1,2,3,4],[],[],[0,1,2,3,4,5,6,7],[0,1,2,3,4,5,6,7,8],[],[]]
def yet:Tr:= .node [(0, .node [(1,trD [2,3,4,5]),(2,trD [1,3,4,5])]),(2,trD [0,1,3,4,5])]
theorem yhf {s m:List Int} {l:Nat} (h:ybg s m l) (hM:s.length<=6/\3*s.length+l<=26):SupB (hTr s m l) 90:=(ytl s m l h).mono (by
 have hb:=yiq (ya1 h.val)
 have h1:=Nat.mul_le_mul hM.1 (show s.length<=6 from hM.1)
 have e:(s.length:Int)*s.length=((s.length*s.length:Nat):Int):=by rw [Int.natCast_mul]
 have h2:s.length*s.length+2*s.length+4*s.length+l<=88:=by
  rcases (show s.length=0\/s.length=1\/s.length=2\/s.length=3\/s.length=4\/s.length=5\/s.length=6 by omega) with g|g|g|g|g|g|g<;>rw [g] at hM⊢ <;>omega
 rw [e];omega)
theorem yvd: ∀s m l,ybg s m l->s.length<=6/\3*s.length+l<=26-> ∀p,yak p (hTr s m l)->Fn Tryz.prog 14 [dgA s m l] (bqP p):=by
 refine yga (fun s m l h hb hM p hp=>?_) fun s m l c l' h hb hc hsg hl' h1 e1 h2 e2 i1 i2 hM p hp=>?_
 ·have v1:=ya1 h.val
  have hB:=ytp s m l h.val
  unfold badR at hB
  rw [hb] at hB
  have hC:=ynp s m l h.val
  have h3:=yby s m
  have h4:=v1.len
  have hpos:1<=l+(yam s m).length:=by
   rcases h.pos with h5|h5
   ·have:=strands_pos v1 h5;omega
   ·omega
  have hK:=yr2 (l+(yam s m).length) (by omega) (hp.congr fun e=>ygw hb e)
  rw [show ((l+(yam s m).length:Nat):Int)=((yam s m).length:Int)+l by omega] at hK
  refine Fn.introL [.cell 2 40] Tryz.func14 rfl rfl (by decide) (by simp [Tryz.ntmps14]) ?_;rw [Tryz.ntmps14]
  repeat' (first|omega|(first|apply yaa|(refine yac.intro (id:=4) yh0 yh1 (by decide+kernel) mixed ?_)|(refine yac.intro (id:=6) [[29],[29],[27,28],[],[],[]] [[],[],[0,1],[],[],[]] (by decide+kernel) mixed ?_)|(refine yac.introT (id:=6) (yet) (by decide+kernel) mixed ?_)|(refine yac.intro (id:=7) [[34],[34],[32,33],[],[],[]] [[],[],[0,1],[],[],[]] (by decide+kernel) mixed ?_)|(refine yac.introT (id:=7) (yet) (by decide+kernel) mixed ?_)|skip);simp only [go_sem,sevalprocAttr,yad,↓reduceIte,reduceCtorEq,yh0,yh1,yet]|(refine ⟨yae.fn (r:=?_) rfl ?_ ?_⟩;rotate_left;assumption)|(refine ⟨yai.fn (r:=?_) rfl ?_ ?_⟩;rotate_left;assumption)|apply yab<;>(intro h_;(try simp only [h_]);revert h_)|apply And.intro|with_reducible intro h_|trivial|simp only [go_sem,la2];omega)
  all_goals exact LeA.refl _
 ·have v1:=ya1 h.val
  have hB:=ytp s m l h.val
  unfold badR at hB
  rw [hb] at hB
  obtain ⟨hM1,hM2⟩:=yx4 h hM hc hl' e1 e2
  have s1:=yhf h1 hM1
  have s2:=yhf h2 hM2
  have s0:=yhf h hM
  have b1:=yiv.bnd h1 hM1
  have b2:=yiv.bnd h2 hM2
  have b0:=yiv.bnd h hM
  obtain ⟨p1,hp1⟩:=ybo s1 (by decide)
  obtain ⟨p2,hp2⟩:=ybo s2 (by decide)
  have f1:=i1 hM1 p1 hp1
  have f2:=i2 hM2 p2 hp2
  have hst:=fun e=>ygx h hb hc hl' h1 h2 e2 e
  have hsw:=yq5 s m l c hc (by have:=v1.s64;omega) v1.sg v1.prd.ok
  have hsm:=yvc s m l c hc (by have:=h.len;omega) h.val (s.getD c 0== -1) rfl
  change Fn Tryz.prog 46 [dgA s m l,I c] (dgA (swS s c) (swM s m c) l) at hsw
  change Fn Tryz.prog 47 [dgA s m l,I c] (dgA (smS s c) (smM s m c) (smLp s m c l)) at hsm
  rw [hl'] at hsm
  have h64:=v1.s64
  have bn:decide ((c:Int)<0)=false:=by simp
  generalize hTr (swS s c) (swM s m c) l=F1 at*
  generalize hTr (smS s c) (smM s m c) l'=F2 at*
  generalize hTr s m l=F0 at*
  clear i1 i2 e1 e2 hM1 hM2 h1 h2 hb hM v1
  generalize swS s c=xs at*
  generalize swM s m c=xm at*
  generalize smS s c=ys at*
  generalize smM s m c=ym at*
  have hcs:c<s.length:=hc
  rcases hsg with hs|hs
  ·rw [hs] at hst
   have u1:=(s1.shift (M:=2) (a:=2) (z:=0) (by decide) (by decide) (by decide) (by decide))
   have u2:=(s2.shift (M:=2) (a:=1) (z:=1) (by decide) (by decide) (by decide) (by decide))
   obtain ⟨q1,hq1⟩:=ybo u1 (by decide)
   obtain ⟨q2,hq2⟩:=ybo u2 (by decide)
   have g1:=yf5 hp1 s1 b1 (a:=2) (z:=0) (by decide) (by decide) hq1
   have g2:=yf5 hp2 s2 b2 (a:=1) (z:=1) (by decide) (by decide) hq2
   have g3:=yqz (n:=1) hq1 hq2 u1 u2 (fun e=>b1 _) (fun e=>b2 _) (.inl rfl) hp (fun e=>by rw [hst];rfl) (s0.mono (by decide)) b0
   have bs:(s.getD c 0==1)=true:=by rw [hs];rfl
   refine Fn.introL [.cell 2 40] Tryz.func14 rfl rfl (by decide) (by simp [Tryz.ntmps14]) ?_;rw [Tryz.ntmps14]
   repeat' (first|omega|(first|apply yaa|(refine yac.intro (id:=4) yh0 yh1 (by decide+kernel) mixed ?_)|(refine yac.intro (id:=6) [[29],[29],[27,28],[],[],[]] [[],[],[0,1],[],[],[]] (by decide+kernel) mixed ?_)|(refine yac.introT (id:=6) (yet) (by decide+kernel) mixed ?_)|(refine yac.intro (id:=7) [[34],[34],[32,33],[],[],[]] [[],[],[0,1],[],[],[]] (by decide+kernel) mixed ?_)|(refine yac.introT (id:=7) (yet) (by decide+kernel) mixed ?_)|skip);simp only [go_sem,sevalprocAttr,bn,bs,yad,↓reduceIte,reduceCtorEq,yh0,yh1,yet]|(refine ⟨yae.fn (r:=?_) rfl ?_ ?_⟩;rotate_left;assumption)|(refine ⟨yai.fn (r:=?_) rfl ?_ ?_⟩;rotate_left;assumption)|apply yab<;>(intro h_;(try simp only [h_]);revert h_)|apply And.intro|with_reducible intro h_|trivial|simp only [go_sem,la2];omega)
   all_goals exact LeA.refl _
  ·rw [hs] at hst
   have u1:=(s1.shift (M:=2) (a:= -2) (z:=0) (by decide) (by decide) (by decide) (by decide))
   have u2:=(s2.shift (M:=2) (a:= -1) (z:=1) (by decide) (by decide) (by decide) (by decide))
   obtain ⟨q1,hq1⟩:=ybo u1 (by decide)
   obtain ⟨q2,hq2⟩:=ybo u2 (by decide)
   have g1:=yf5 hp1 s1 b1 (a:= -2) (z:=0) (by decide) (by decide) hq1
   have g2:=yf5 hp2 s2 b2 (a:= -1) (z:=1) (by decide) (by decide) hq2
   have g3:=yqz (n:= -1) hq1 hq2 u1 u2 (fun e=>b1 _) (fun e=>b2 _) (.inr rfl) hp (fun e=>by rw [hst];rfl) (s0.mono (by decide)) b0
   have bs:(s.getD c 0==1)=false:=by rw [hs];rfl
   refine Fn.introL [.cell 2 40] Tryz.func14 rfl rfl (by decide) (by simp [Tryz.ntmps14]) ?_;rw [Tryz.ntmps14]
   repeat' (first|omega|(first|apply yaa|(refine yac.intro (id:=4) yh0 yh1 (by decide+kernel) mixed ?_)|(refine yac.intro (id:=6) [[29],[29],[27,28],[],[],[]] [[],[],[0,1],[],[],[]] (by decide+kernel) mixed ?_)|(refine yac.introT (id:=6) (yet) (by decide+kernel) mixed ?_)|(refine yac.intro (id:=7) [[34],[34],[32,33],[],[],[]] [[],[],[0,1],[],[],[]] (by decide+kernel) mixed ?_)|(refine yac.introT (id:=7) (yet) (by decide+kernel) mixed ?_)|skip);simp only [go_sem,sevalprocAttr,bn,bs,yad,↓reduceIte,reduceCtorEq,yh0,yh1,yet]|(refine ⟨yae.fn (r:=?_) rfl ?_ ?_⟩;rotate_left;assumption)|(refine ⟨yai.fn (r:=?_) rfl ?_ ?_⟩;rotate_left;assumption)|apply yab<;>(intro h_;(try simp only [h_]);revert h_)|apply And.intro|with_reducible intro h_|trivial|simp only [go_sem,la2];omega)
   all_goals exact LeA.refl _
end Go.Proofs.YtbblgobamoabkaaGreatDoor
set_option linter.unusedSimpArgs false
set_option linter.unusedVariables false
namespace Go.Proofs.YtbblgobamoabkaaGreatDoor
open Go Go.RowKit Go.Shelf
set_option maxHeartbeats 4000000
set_option maxRecDepth 100000
theorem ytu:(Tryz.prog.info? 74).map (·.size)=some 2:=by kernel_rfl
theorem y4f:liesAt Tryz.prog Tryz.prog.depth 74 (2/Tryz.prog.cellsOf 74) 0 74 1=true:=by kernel_rfl
theorem yq8:Tryz.prog.underlying 71=some (.pointer 74):=by kernel_rfl
theorem yy0:Tryz.prog.underlying 150=some .unsafePointer:=by kernel_rfl
theorem yq9:(Tryz.prog.info? 5).map (fun i=>(i.zero,i.size,i.bytes))=some (some (.int .u8 0),1,1):=by kernel_rfl
theorem ytv:Tryz.prog.underlying 72=some (.slice 5):=by kernel_rfl
theorem y6u:Tryz.prog.underlying 9=some .string:=by kernel_rfl
theorem y1m (b:Nat) (w:World) (h0:w.cell? ⟨b,0,none⟩=some (.pointer (some ⟨b,0,none⟩))):
  Calls Tryz.prog 73 #[.pointer (some ⟨b,0,none⟩)] w fun e w'=>e= .returned (.tuple #[])/\w'=w:=by
 obtain ⟨j,hj,_⟩:=Option.map_eq_some_iff.1 ytu
 go_enter Tryz.func73,Tryz.ntmps73
 go_wp2
 rw [Lib.run_neq_ptr_same w _ yq8 hj]
 go_wp2
 go_end0
 exact ⟨rfl,rfl⟩
theorem yy1 (b:Nat) (w:World) (h0:w.cell? ⟨b,0,none⟩=some (.pointer none)) (hsh:w.shape? b=some (74,2)) (hfz:w.frozen? ⟨b,0,none⟩=false):
  Calls Tryz.prog 73 #[.pointer (some ⟨b,0,none⟩)] w fun e w'=>e= .returned (.tuple #[])/\w'=w.setCell ⟨b,0,none⟩ (.pointer (some ⟨b,0,none⟩)):=by
 obtain ⟨j,hj,hjs⟩:=Option.map_eq_some_iff.1 ytu
 go_enter Tryz.func73,Tryz.ntmps73
 go_wp2
 rw [Lib.run_to_unsafe w ⟨b,0,none⟩ yq8 yy0 hj (by rw [hjs];decide) hsh (Nat.zero_lt_succ 1)]
 simp only [Result.andThen]
 rw [Oper.upon_value]
 go_wp2
 rw [run_callFunc_extern Tryz.func117 (by kernel_rfl) (by kernel_rfl) (by kernel_rfl) (e:=Extern.AbiNoEscape.same) (by kernel_rfl)]
 rw [Lib.run_noEscape]
 simp only [Result.andThen]
 rw [Oper.upon_value]
 go_wp2
 rw [Lib.run_from_unsafe w ⟨b,0,none⟩ yy0 yq8 hj hsh y4f]
 simp only [Result.andThen]
 rw [Oper.upon_value]
 go_wp2
 go_end0
 exact ⟨rfl,rfl⟩
theorem yoj (B b:Nat) (bs:List Value) (w:World) (h:Lib.IsBuilderF 74 5 B b bs w):
  Calls Tryz.prog 73 #[.pointer (some ⟨b,0,none⟩)] w fun e w'=>e= .returned (.tuple #[])/\(Lib.BuilderAtF 74 5 B b (.pointer (some ⟨b,0,none⟩)) bs w'/\Below B w w'/\Lib.OthersKept 5 (some b) w w'):=by
 rcases h with h|h
 ·refine (yy1 b w h.cell0 h.shape h.frozen0).mono ?_
  rintro e w' ⟨rfl,rfl⟩
  exact ⟨rfl,h.used _,(Below.refl B w).setCell (p:=⟨b,0,none⟩) h.1 _,(Lib.OthersKept.refl _ _ w).setCell ⟨b,0,none⟩ rfl _⟩
 ·refine (y1m b w h.cell0).mono ?_
  rintro e w' ⟨rfl,rfl⟩
  exact ⟨rfl,h,Below.refl B _,Lib.OthersKept.refl _ _ _⟩
theorem y1n (B b:Nat) (bs:List Value) (c:Int) (w:World) (h:Lib.IsBuilderF 74 5 B b bs w) (hlen:bs.length+1<=140737488355328) (hBw:B<=w.heap.size):
  Calls Tryz.prog 39 #[.pointer (some ⟨b,0,none⟩), .int .u8 c] w fun e w'=>e= .returned .nilIface/\(Lib.BuilderAtF 74 5 B b (.pointer (some ⟨b,0,none⟩)) (bs++[.int .u8 c]) w'/\Below B w w'/\Lib.OthersKept 5 (some b) w w'):=by
 obtain ⟨i0,hi,hz0,hz1,hz2⟩:=info_parts yq9
 go_enter Tryz.func39,Tryz.ntmps39
 go_wp2_with (go_at_call 73;refine (yoj B b bs _ h).mono ?_)
 rintro e w1 ⟨rfl,h1,hb1,hk1⟩
 obtain ⟨hB,v,hbk,hown,hne⟩:=h1
 have c0:w1.cell? ⟨b,0,none⟩=some (.pointer (some ⟨b,0,none⟩)):=by rw [Lib.cell_of_heap hbk];rfl
 have c1:w1.cell? ⟨b,1,none⟩=some v:=by rw [Lib.cell_of_heap hbk];rfl
 go_wp2_with (at_builtin;refine wpList_append_ownF _ rfl _ _ 72 rfl B 5 i0 (.int .u8 0) 1 1 ytv hi hz0 hz1 hz2 rfl (by decide) _ _ _ rfl (hown.alloc _) ⟨w1.heap.size,0,none⟩ 1 1 [.int .u8 c] rfl rfl ?c1 ?c2 ?c3 ?c4 ?c5 ?_)
 case c1=>
  intro j u hj
  match j,hj with
  |0,hj=>simp at hj;subst hj;simp [Addr.add]
 case c2=>intro u hu;simp at hu;subst hu;rfl
 case c3=>unfold maxLen;omega
 case c4=>omega
 case c5=>have:=hb1.size;simp;omega
 intro v' w2 hown' hgrow _
 have hlt:b<w1.heap.size:=by
  rcases Nat.lt_or_ge b w1.heap.size with h'|h'
  ·exact h'
  ·simp [Array.getElem?_eq_none h'] at hbk
 have hb2:w2.heap[b]?=some (.cells #[.pointer (some ⟨b,0,none⟩),v] 74 (0,0)):=by
  rw [hgrow.block b (by simp;omega) (fun e=>hne e.symm),Lib.alloc_old w1 _ b hlt]
  exact hbk
 have d0:w2.cell? ⟨b,0,none⟩=some (.pointer (some ⟨b,0,none⟩)):=by rw [Lib.cell_of_heap hb2];rfl
 have d1:w2.cell? ⟨b,1,none⟩=some v:=by rw [Lib.cell_of_heap hb2];rfl
 have f1:w2.frozen? ⟨b,1,none⟩=false:=Lib.frozen_of_heap hb2 1
 obtain ⟨g,cap,rfl⟩: ∃g cap,v'= .slice (some ⟨g,0,none⟩) (bs.length+1) cap:=by
  rcases hown'.2 with ⟨_,h0⟩|⟨g,cap,cur,fz,hv,_⟩
  ·omega
  ·exact ⟨g,cap,hv⟩
 go_wp2
 go_ret
 refine ⟨rfl,?_,?_,((hk1.alloc _).grown hgrow (Lib.ownsRowF_kind (hown.alloc _))).setCell ⟨b,1,none⟩ rfl _⟩
 ·exact Lib.BuilderAtF.put (T:=74) (e:=5) hB hb2 (bs':=bs++[.int .u8 c]) (by simpa using hown') (by decide)
 ·exact ((hb1.alloc (by have:=hb1.size;omega) _).grown hgrow (by have:=hb1.size;simp;omega) (fun k hk=>(hown.lt k hk).1)).setCell (p:=⟨b,1,none⟩) hB _
theorem y4g (B b:Nat) (bs:List Value) (s:ByteArray) (w:World) (h:Lib.IsBuilderF 74 5 B b bs w) (hlen:bs.length+s.size<=140737488355328) (hBw:B<=w.heap.size):
  Calls Tryz.prog 38 #[.pointer (some ⟨b,0,none⟩), .string s] w fun e w'=>e= .returned (.tuple #[.int .i64 s.size, .nilIface])/\(Lib.BuilderAtF 74 5 B b (.pointer (some ⟨b,0,none⟩)) (bs++Lib.strCells s) w'/\Below B w w'/\Lib.OthersKept 5 (some b) w w'):=by
 obtain ⟨i0,hi,hz0,hz1,hz2⟩:=info_parts yq9
 go_enter Tryz.func38,Tryz.ntmps38
 go_wp2_with (go_at_call 73;refine (yoj B b bs _ h).mono ?_)
 rintro e w1 ⟨rfl,h1,hb1,hk1⟩
 obtain ⟨hB,v,hbk,hown,hne⟩:=h1
 have c0:w1.cell? ⟨b,0,none⟩=some (.pointer (some ⟨b,0,none⟩)):=by rw [Lib.cell_of_heap hbk];rfl
 have c1:w1.cell? ⟨b,1,none⟩=some v:=by rw [Lib.cell_of_heap hbk];rfl
 go_wp2_with (at_builtin;refine Lib.wpList_append_own_stringF _ rfl _ _ 72 9 rfl B 5 i0 ytv y6u hi hz0 hz1 hz2 _ _ _ rfl hown s rfl ?c3 ?c4 ?c5 ?_)
 case c3=>unfold maxLen;omega
 case c4=>omega
 case c5=>have:=hb1.size;omega
 intro v' w2 hown' hgrow _
 have hlt:b<w1.heap.size:=by
  rcases Nat.lt_or_ge b w1.heap.size with h'|h'
  ·exact h'
  ·simp [Array.getElem?_eq_none h'] at hbk
 have hb2:w2.heap[b]?=some (.cells #[.pointer (some ⟨b,0,none⟩),v] 74 (0,0)):=by
  rw [hgrow.block b hlt (fun e=>hne e.symm)]
  exact hbk
 have d0:w2.cell? ⟨b,0,none⟩=some (.pointer (some ⟨b,0,none⟩)):=by rw [Lib.cell_of_heap hb2];rfl
 have d1:w2.cell? ⟨b,1,none⟩=some v:=by rw [Lib.cell_of_heap hb2];rfl
 have f1:w2.frozen? ⟨b,1,none⟩=false:=Lib.frozen_of_heap hb2 1
 obtain ⟨ao,n',cap,rfl⟩: ∃ao n' cap,v'= .slice ao n' cap:=by
  rcases hown'.2 with ⟨hv,_⟩|⟨g,cap,cur,fz,hv,_⟩
  ·exact ⟨_,_,_,hv⟩
  ·exact ⟨_,_,_,hv⟩
 go_wp2
 go_ret2
 refine ⟨rfl,?_,?_,(hk1.grown hgrow (Lib.ownsRowF_kind hown)).setCell ⟨b,1,none⟩ rfl _⟩
 ·exact Lib.BuilderAtF.put (T:=74) (e:=5) hB hb2 (bs':=bs++Lib.strCells s) (by simpa [Lib.strCells_length] using hown') (by decide)
 ·exact (hb1.grown hgrow (by have:=hb1.size;omega) (fun k hk=>(hown.lt k hk).1)).setCell (p:=⟨b,1,none⟩) hB _
end Go.Proofs.YtbblgobamoabkaaGreatDoor
