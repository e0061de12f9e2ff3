/- Layer 13: the text of a polynomial in two variables, as a contract. -/
import Derived.Test.YtbblgobamoabkaaGreatDoorBt2
import Derived.Test.YtbblgobamoabkaaGreatDoorZe
import Derived.Test.YtbblgobamoabkaaGreatDoorZb
import Derived.Test.YtbblgobamoabkaaGreatDoorZu
import Derived.Shelf.Spec.BitsCarry
import Derived.WalkKit
import Derived.BigCall
import Derived.Laws.Rows
import Derived.Lib.SmallJoins
import Derived.Test.YtbblgobamoabkaaGreatDoorSh
import Derived.Test.YtbblgobamoabkaaGreatDoorTy
set_option linter.unusedSimpArgs false
set_option linter.unusedVariables false
namespace Go.Proofs.YtbblgobamoabkaaGreatDoor
open Go Go.RowKit
set_option maxRecDepth 100000
set_option maxHeartbeats 4000000
def cok2 (p:List (Int×Int)):Prop:= ∀k,k<p.length->(-4611686018427387904<=bvA (p.getD k (0,0)).1/\bvA (p.getD k (0,0)).1<=4611686018427387904)/\(-4611686018427387904<=bvZ (p.getD k (0,0)).1/\bvZ (p.getD k (0,0)).1<=4611686018427387904)/\ -4611686018427387904<=(p.getD k (0,0)).2/\(p.getD k (0,0)).2<=4611686018427387904
theorem yof (p:List (Int×Int)) (n1 n2:ByteArray) (hp0:0<p.length) (hr:cok2 p) (hn1:n1.size<=1000) (hn2:n2.size<=1000) (hpl:p.length<=1000000):
  Fn Tryz.prog 12 [bvP false p, .str n1, .str n2] (.str ⟨(ydi n1.data.toList n2.data.toList p p.length).toArray⟩):=by
 refine ⟨⟨_,Tryz.func12,rfl,by decide⟩,fun w Mx vs hMx hl hv=>?_⟩
 match vs,hl with
 |[v0,v1,v2],_=>
  have h0:=hv 0 v0 _ rfl rfl
  have h1:=(hv 1 v1 _ rfl rfl).str_inv
  have h2:=(hv 2 v2 _ rfl rfl).str_inv
  subst h1 h2
  obtain ⟨us,rfl,hul,hu⟩:=h0.agg_inv
  match us,hul with
  |[u0,u1],_=>
   have k0:=(hu 0 u0 _ rfl rfl).bool_inv
   have k1:=hu 1 u1 _ rfl rfl
   subst k0
   cases k1 with
   |ro _ _ _ ad cap x hlen hcap _ hcell hx=>
    obtain ⟨a,rfl,hb,_,hj⟩:=hcell hp0
    have hcl:(Cs.lst (bvC p)).len=3*p.length:=ybl p
    refine (yu1 p n1 n2 a cap w hp0 hMx.1 hb (fun k hk=>?_) hr hn1 hn2 hpl).mono ?_
    ·have e0:=hx (k*3) (by omega)
     have e1:=hx (k*3+1) (by omega)
     have e2:=hx (k*3+2) (by omega)
     obtain ⟨g0,g1,g2⟩:=ydv p k hk
     rw [show (Cs.lst (bvC p)).get (k*3)=(bvC p).getD (k*3) .any from rfl,g0] at e0
     rw [show (Cs.lst (bvC p)).get (k*3+1)=(bvC p).getD (k*3+1) .any from rfl,g1] at e1
     rw [show (Cs.lst (bvC p)).get (k*3+2)=(bvC p).getD (k*3+2) .any from rfl,g2] at e2
     refine ⟨?_,?_,?_⟩
     ·rw [hj _ (by omega),e0.int_inv]
     ·rw [hj _ (by omega),e1.int_inv]
     ·rw [hj _ (by omega),e2.int_inv]
    ·rintro e w' ⟨rfl,hb'⟩
     exact ⟨_,rfl,hb', .str _⟩
end Go.Proofs.YtbblgobamoabkaaGreatDoor
set_option linter.unusedSimpArgs false
set_option linter.unusedVariables false
namespace Go.Proofs.YtbblgobamoabkaaGreatDoor
open Go Go.RowKit
theorem Fn.args {P:Program} {f:Nat} {xs ys:List AV} {r:AV} (h:Fn P f ys r) (hl:LeL xs ys):Fn P f xs r:=
 ⟨h.1,fun w Mx vs hm hlen hv=>h.2 w Mx vs hm (hlen.trans hl.len) fun i v y hi hy=>by
  obtain ⟨x,hx⟩: ∃x,xs[i]?=some x:=by
   have:i<ys.length:=(List.getElem?_eq_some_iff.1 hy).1
   exact ⟨_,List.getElem?_eq_getElem (by rw [hl.len];exact this)⟩
  exact (hl.get i x y hx hy).out _ _ _ _ v (hv i v x hi hx)⟩
end Go.Proofs.YtbblgobamoabkaaGreatDoor
namespace Go.Proofs.YtbblgobamoabkaaGreatDoor
open Go Go.RowKit
set_option maxRecDepth 100000
set_option maxHeartbeats 8000000
set_option linter.unusedVariables false
set_option linter.unusedSimpArgs false
theorem yqw:Fn Tryz.prog 26 [] (dgA [1,1,1] [9,4,7,10,1,8,11,2,5,0,3,6] ((0:Nat):Int)):=by
 refine Fn.introL [.cell 0 24] Tryz.func26 rfl rfl (by decide) (by simp [Tryz.ntmps26]) ?_;rw [Tryz.ntmps26]
 repeat' (first|omega|(try apply yaa);simp only [go_sem,sevalprocAttr]|apply yab<;>(intro h_;(try simp only [h_]);revert h_)|apply And.intro|with_reducible intro h_|trivial|simp only [go_sem,la2];omega)
 all_goals exact LeA.refl _
theorem y5n:Fn Tryz.prog 12 [bvP false [(bvE 2 0,2),(bvE 2 2,1),(bvE 4 0,-1)], .str ⟨#[97]⟩, .str ⟨#[122]⟩] (.str ⟨#[50,97,94,50,43,97,94,50,122,94,50,45,97,94,52]⟩):=by
 have h:=yof [(bvE 2 0,2),(bvE 2 2,1),(bvE 4 0,-1)] ⟨#[97]⟩ ⟨#[122]⟩ (by decide) (fun k hk=>by
  match k,hk with
  |0,_=>decide
  |1,_=>decide
  |2,_=>decide) (by decide) (by decide) (by decide)
 rw [show (ydi (⟨#[97]⟩:ByteArray).data.toList (⟨#[122]⟩:ByteArray).data.toList [(bvE 2 0,2),(bvE 2 2,1),(bvE 4 0,-1)] [(bvE 2 0,(2:Int)),(bvE 2 2,1),(bvE 4 0,-1)].length)=[50,97,94,50,43,97,94,50,122,94,50,45,97,94,52] by decide+kernel] at h
 exact h
theorem y5o:Fn Tryz.prog 12 [bvP false [(bvE (-1) (-1),1),(bvE 1 (-1),-1)], .str ⟨#[97]⟩, .str ⟨#[122]⟩] (.str ⟨#[97,94,45,49,122,94,45,49,45,97,122,94,45,49]⟩):=by
 have h:=yof [(bvE (-1) (-1),1),(bvE 1 (-1),-1)] ⟨#[97]⟩ ⟨#[122]⟩ (by decide) (fun k hk=>by
  match k,hk with
  |0,_=>decide
  |1,_=>decide) (by decide) (by decide) (by decide)
 rw [show (ydi (⟨#[97]⟩:ByteArray).data.toList (⟨#[122]⟩:ByteArray).data.toList [(bvE (-1) (-1),1),(bvE 1 (-1),-1)] [(bvE (-1) (-1),(1:Int)),(bvE 1 (-1),-1)].length)=[97,94,45,49,122,94,45,49,45,97,122,94,45,49] by decide+kernel] at h
 exact h
theorem yve:Fn Tryz.prog 6 [] (.bool true):=by
 have h1:=yqw
 have h2:=ylc yow ⟨by decide+kernel,by decide,by decide,by decide⟩ (by decide) y5m
 have h3:Fn Tryz.prog 8 [.agg [.nils, .nils,I 2]] (.tup [bvP false [(bvE (-1) (-1),1),(bvE 1 (-1),-1)],I 0]):=
  Fn.args (ylc yow ⟨by decide+kernel,by decide,by decide,by decide⟩ (by decide) y7a) (.cons (LeA.aggL (.cons (LeA.nils (by decide) rfl) (.cons (LeA.nils (by decide) rfl) (.cons (LeA.refl _) .nil)))) .nil)
 have h4:=y5n
 have h5:=y5o
 refine Fn.introL [.tmp 0] Tryz.func6 rfl rfl (by decide) (by simp [Tryz.ntmps6]) ?_;rw [Tryz.ntmps6]
 repeat' (first|omega|(try apply yaa);simp only [go_sem,sevalprocAttr,yak]|(refine ⟨yad.fn (r:=?_) rfl ?_ ?_⟩;rotate_left;assumption)|(refine ⟨yag.fn (r:=?_) rfl ?_ ?_⟩;rotate_left;assumption)|apply yab<;>(intro h_;(try simp only [h_]);revert h_)|apply And.intro|with_reducible intro h_|trivial|simp only [go_sem,la2];omega)
 all_goals exact LeA.refl _
def smB (s m:List Int) (L:Int):Bool:=(decide (6<s.length)&&decide (s.length<=14))||decide (300<m.length)||decide (80<s.length)||(decide (8<L)&&decide (L<=64))
theorem yvf (s m:List Int) (L:Int):Fn Tryz.prog 7 [dgA s m L] (I (if smB s m L then 0 else 1)):=by
 obtain ⟨b1,e1⟩: ∃b,decide ((6:Int)<s.length)=b:=⟨_,rfl⟩
 obtain ⟨b2,e2⟩: ∃b,decide ((s.length:Int)<=14)=b:=⟨_,rfl⟩
 obtain ⟨b3,e3⟩: ∃b,decide ((300:Int)<m.length)=b:=⟨_,rfl⟩
 obtain ⟨b4,e4⟩: ∃b,decide ((80:Int)<s.length)=b:=⟨_,rfl⟩
 obtain ⟨b5,e5⟩: ∃b,decide (8<L)=b:=⟨_,rfl⟩
 obtain ⟨b6,e6⟩: ∃b,decide (L<=64)=b:=⟨_,rfl⟩
 have f1:decide (6<s.length)=b1:=by rw [←e1];exact decide_eq_decide.2 (by omega)
 have f2:decide (s.length<=14)=b2:=by rw [←e2];exact decide_eq_decide.2 (by omega)
 have f3:decide (300<m.length)=b3:=by rw [←e3];exact decide_eq_decide.2 (by omega)
 have f4:decide (80<s.length)=b4:=by rw [←e4];exact decide_eq_decide.2 (by omega)
 unfold smB
 rw [f1,f2,f3,f4,e5,e6]
 clear f1 f2 f3 f4
 cases b1<;>cases b2<;>cases b3<;>cases b4<;>cases b5<;>cases b6
 all_goals
  refine Fn.intro [.tmp 2] Tryz.func7 rfl rfl (by decide) (by simp [Tryz.ntmps7]) ?_;rw [Tryz.ntmps7]
  repeat' (first|omega|(try apply yaa);simp only [go_sem,sevalprocAttr,e1,e2,e3,e4,e5,e6]|apply yab<;>(intro h_;(try simp only [h_]);revert h_)|apply And.intro|with_reducible intro h_|trivial|simp only [go_sem,la2];omega)
theorem y15 {WB MB:Nat} {F:List Int->List Int->Nat->Int->Int} (hF:HomV WB MB F) {s m:List Int} {L:Nat} (h:ybd s m L) (hMB:s.length<=WB/\3*s.length+L<=MB) {p:List (Int×Int)} (hp:yai p (F s m L)):Fn Tryz.prog 24 [dgA s m L] (.tup [bvP false p, .bool true]):=by
 have h1:=ylc hF h hMB hp
 refine Fn.introL [.cell 2 29, .tmp 3] Tryz.func24 rfl rfl (by decide) (by simp [Tryz.ntmps24]) ?_;rw [Tryz.ntmps24]
 repeat' (first|omega|(try apply yaa);simp only [go_sem,sevalprocAttr,yak]|(refine ⟨yad.fn (r:=?_) rfl ?_ ?_⟩;rotate_left;assumption)|(refine ⟨yag.fn (r:=?_) rfl ?_ ?_⟩;rotate_left;assumption)|apply yab<;>(intro h_;(try simp only [h_]);revert h_)|apply And.intro|with_reducible intro h_|trivial|simp only [go_sem,la2];omega)
 all_goals exact LeA.refl _
end Go.Proofs.YtbblgobamoabkaaGreatDoor
namespace Go.Proofs.YtbblgobamoabkaaGreatDoor
open Go Go.RowKit
set_option linter.unusedVariables false
set_option linter.unusedSimpArgs false
theorem yyy {s m:List Int} {l:Nat} (hg:smB s m l=false) (hv:yap s m l=true) (hn:s.length<=6) (h0:0<s.length\/0<l):ybd s m l:=by
 have v1:=yas hv
 have hl1:=v1.l64
 simp only [smB,Bool.or_eq_false_iff,Bool.and_eq_false_iff,decide_eq_false_iff_not] at hg
 exact ⟨hv,by omega,by omega,h0⟩
end Go.Proofs.YtbblgobamoabkaaGreatDoor
set_option linter.unusedSimpArgs false
set_option linter.unusedVariables false
namespace Go.Proofs.YtbblgobamoabkaaGreatDoor
open Go Go.RowKit Go.Shelf Go.Joins
set_option maxHeartbeats 4000000
set_option maxRecDepth 100000
def yyz:Ren:=⟨fun|25=>132|26=>157|n=>n,fun|22=>129|n=>n,fun|n=>n⟩
theorem addL:Lays7.n25 Tryz.prog yyz:={mixed:=by kernel_rfl,f25:=Tryz.func132.trans (congrArg some (by kernel_rfl)),t22:=Tryz.underlying129,a22:=Tryz.isAgg129,z22:=Tryz.sizeOf129,v22:=Tryz.zeroValue129,i22:=by kernel_rfl}
theorem subL:Lays7.n26 Tryz.prog yyz:={mixed:=by kernel_rfl,f26:=Tryz.func157.trans (congrArg some (by kernel_rfl)),t22:=Tryz.underlying129,a22:=Tryz.isAgg129,z22:=Tryz.sizeOf129,v22:=Tryz.zeroValue129,i22:=by kernel_rfl}
theorem ytk (x y c:Nat) (hc:c<=1) (w:World):(callFunc 132 #[.int .u64 x, .int .u64 y, .int .u64 c]).run Tryz.prog w=
   .ok (.value (.tuple #[.int .u64 (((x+y+c)% 18446744073709551616:Nat):Int), .int .u64 (((x+y+c)/18446744073709551616:Nat):Int)])) w:=Any7.bits_Add64 addL x y c hc w
theorem ytl (x y c:Nat) (hc:c<=1) (w:World):(callFunc 157 #[.int .u64 x, .int .u64 y, .int .u64 c]).run Tryz.prog w=
   .ok (.value (.tuple #[.int .u64 (((x+18446744073709551616-y-c)% 18446744073709551616:Nat):Int), .int .u64 ((if x<y+c then 1 else 0:Nat):Int)])) w:=Any7.bits_Sub64 subL x y c hc w
theorem y16 (x y:Nat) (w:World):(callFunc 132 #[.int .u64 x, .int .u64 y, .int .u64 0]).run Tryz.prog w=
   .ok (.value (.tuple #[.int .u64 (((x+y)% 18446744073709551616:Nat):Int), .int .u64 (((x+y)/18446744073709551616:Nat):Int)])) w:=ytk x y 0 (by omega) w
theorem y17 (y:Nat) (w:World):(callFunc 157 #[.int .u64 0, .int .u64 y, .int .u64 0]).run Tryz.prog w=
   .ok (.value (.tuple #[.int .u64 (((0+18446744073709551616-y)% 18446744073709551616:Nat):Int), .int .u64 ((if 0<y then 1 else 0:Nat):Int)])) w:=ytl 0 y 0 (by omega) w
theorem y18 (y c:Nat) (hc:c<=1) (w:World):(callFunc 157 #[.int .u64 0, .int .u64 y, .int .u64 c]).run Tryz.prog w=
   .ok (.value (.tuple #[.int .u64 (((0+18446744073709551616-y-c)% 18446744073709551616:Nat):Int), .int .u64 ((if 0<y+c then 1 else 0:Nat):Int)])) w:=ytl 0 y c hc w
theorem al3 (w:World) (o1 o2 o3:Obj):(((w.alloc o1).alloc o2).alloc o3).heap[w.heap.size+1+1]?=some o3:=by
 have h:=heap_alloc_new ((w.alloc o1).alloc o2) o3
 rw [show ((w.alloc o1).alloc o2).heap.size=w.heap.size+1+1 by simp] at h
 exact h
theorem al2 (w:World) (o1 o2:Obj):((w.alloc o1).alloc o2).heap[w.heap.size+1]?=some o2:=by
 have h:=heap_alloc_new (w.alloc o1) o2
 rw [show (w.alloc o1).heap.size=w.heap.size+1 by simp] at h
 exact h
theorem yy0 (a b c d:Nat) (hb:b<18446744073709551616) (hd:d<18446744073709551616) (w:World):Calls Tryz.prog 94 #[.agg #[.int .u64 a, .int .u64 b], .agg #[.int .u64 c, .int .u64 d]] w fun e w'=>
  e= .returned (.agg #[.int .u64 (((a+c+(b+d)/18446744073709551616)% 18446744073709551616:Nat):Int), .int .u64 (((b+d)% 18446744073709551616:Nat):Int)])/\Below w.heap.size w w':=by
 obtain ⟨lo,hlo⟩: ∃lo,lo=(b+d)% 18446744073709551616:=⟨_,rfl⟩
 obtain ⟨cy,hcy⟩: ∃cy,cy=(b+d)/18446744073709551616:=⟨_,rfl⟩
 obtain ⟨hi,hhi⟩: ∃hi,hi=(a+c+cy)% 18446744073709551616:=⟨_,rfl⟩
 obtain ⟨cz,hcz⟩: ∃cz,cz=(a+c+cy)/18446744073709551616:=⟨_,rfl⟩
 have r1: ∀w,(callFunc 132 #[.int .u64 b, .int .u64 d, .int .u64 0]).run Tryz.prog w= .ok (.value (.tuple #[.int .u64 lo, .int .u64 cy])) w:=fun w=>by rw [hlo,hcy];exact y16 b d w
 have r2: ∀w,(callFunc 132 #[.int .u64 a, .int .u64 c, .int .u64 cy]).run Tryz.prog w= .ok (.value (.tuple #[.int .u64 hi, .int .u64 cz])) w:=fun w=>by rw [hhi,hcz];exact ytk a c cy (by omega) w
 rw [←hlo,←hcy,←hhi]
 clear hlo hcy hhi hcz
 go_enter Tryz.func94,Tryz.ntmps94
 go_wp2_with (simp only [r1,r2])
 refine ⟨rfl, .agg #[.int .u64 hi, .int .u64 lo],?_,rfl,below_alloc3 _ _ _ _⟩
 exact results_cell_row (fn:=Tryz.f94) rfl _ _ (w.heap.size+1+1) 131 #[.int .u64 hi, .int .u64 lo] (0,0) _ rfl (al3 _ _ _ _) Tryz.underlying131 rfl (by kernel_rfl)
theorem yy1 (a b:Nat) (ha:a<18446744073709551616) (hb:b<18446744073709551616) (w:World):Calls Tryz.prog 137 #[.agg #[.int .u64 a, .int .u64 b]] w fun e w'=>
  e= .returned (.agg #[.int .u64 (((18446744073709551616-a-(if 0<b then 1 else 0))% 18446744073709551616:Nat):Int), .int .u64 (((18446744073709551616-b)% 18446744073709551616:Nat):Int)])/\Below w.heap.size w w':=by
 obtain ⟨lo,hlo⟩: ∃lo,lo=(18446744073709551616-b)% 18446744073709551616:=⟨_,rfl⟩
 obtain ⟨cy,hcy⟩: ∃cy,cy=(if 0<b then 1 else 0:Nat):=⟨_,rfl⟩
 have hc1:cy<=1:=by rw [hcy];split<;>omega
 obtain ⟨hi,hhi⟩: ∃hi,hi=(18446744073709551616-a-cy)% 18446744073709551616:=⟨_,rfl⟩
 obtain ⟨cz,hcz⟩: ∃cz,cz=(if 0<a+cy then 1 else 0:Nat):=⟨_,rfl⟩
 have r1: ∀w,(callFunc 157 #[.int .u64 0, .int .u64 b, .int .u64 0]).run Tryz.prog w= .ok (.value (.tuple #[.int .u64 lo, .int .u64 cy])) w:=fun w=>by
  rw [hlo,hcy];have:=y17 b w;rw [Nat.zero_add] at this;exact this
 have r2: ∀w,(callFunc 157 #[.int .u64 0, .int .u64 a, .int .u64 cy]).run Tryz.prog w= .ok (.value (.tuple #[.int .u64 hi, .int .u64 cz])) w:=fun w=>by
  rw [hhi,hcz];have:=y18 a cy hc1 w;rw [Nat.zero_add] at this;exact this
 rw [←hlo,←hcy,←hhi]
 clear hlo hcy hhi hcz hc1
 go_enter Tryz.func137,Tryz.ntmps137
 go_wp2_with (simp only [r1,r2])
 refine ⟨rfl, .agg #[.int .u64 hi, .int .u64 lo],?_,rfl,below_alloc2 _ _ _⟩
 exact results_cell_row (fn:=Tryz.f137) rfl _ _ (w.heap.size+1) 131 #[.int .u64 hi, .int .u64 lo] (0,0) _ rfl (al2 _ _ _) Tryz.underlying131 rfl (by kernel_rfl)
abbrev wdA (z:Int):AV:= .agg [.int .u64 (z/18446744073709551616 % 18446744073709551616), .int .u64 (z % 18446744073709551616)]
attribute [go_sem] wdA
theorem yqx {w:World} {M:Nat->Prop} {ρ:Nat->Addr} {D:Nat->Prop} {v:Value} {z:Int} (h:VR w M ρ D v (wdA z)): ∃a b:Nat,v= .agg #[.int .u64 a, .int .u64 b]/\(a:Int)=z/18446744073709551616 % 18446744073709551616/\(b:Int)=z % 18446744073709551616:=by
 obtain ⟨vs,rfl,hl,hx⟩:=h.agg_inv
 match vs,hl,hx with
 |[v0,v1],_,hx=>
  have e0:=(hx 0 v0 _ rfl rfl).int_inv
  have e1:=(hx 1 v1 _ rfl rfl).int_inv
  subst e0 e1
  refine ⟨(z/18446744073709551616 % 18446744073709551616).toNat,(z % 18446744073709551616).toNat,?_,by omega,by omega⟩
  rw [Int.toNat_of_nonneg (by omega),Int.toNat_of_nonneg (by omega)]
theorem y2y {w:World} {M:Nat->Prop} {ρ:Nat->Addr} {D:Nat->Prop} {z:Int} {a b:Nat} (h1:(a:Int)=z/18446744073709551616 % 18446744073709551616) (h2:(b:Int)=z % 18446744073709551616):VR w M ρ D (.agg #[.int .u64 a, .int .u64 b]) (wdA z):=by
 refine .agg [.int .u64 a, .int .u64 b] _ rfl fun i u x hu hx=>?_
 match i,hu,hx with
 |0,hu,hx=>cases hu;cases hx;rw [h1];exact .int _ _
 |1,hu,hx=>cases hu;cases hx;rw [h2];exact .int _ _
theorem y5p (x y:Int):Fn Tryz.prog 94 [wdA x,wdA y] (wdA (x+y)):=by
 refine ⟨⟨_,Tryz.func94,rfl,by decide⟩,fun w Mx vs hMx hl hv=>?_⟩
 match vs,hl,hv with
 |[v0,v1],_,hv=>
  obtain ⟨a,b,rfl,e1,e2⟩:=yqx (hv 0 v0 _ rfl rfl)
  obtain ⟨c,d,rfl,e3,e4⟩:=yqx (hv 1 v1 _ rfl rfl)
  refine (yy0 a b c d (by omega) (by omega) w).mono ?_
  rintro e w' ⟨rfl,hb⟩
  exact ⟨_,rfl,hb,y2y (by omega) (by omega)⟩
theorem ytm (x:Int):Fn Tryz.prog 137 [wdA x] (wdA (-x)):=by
 refine ⟨⟨_,Tryz.func137,rfl,by decide⟩,fun w Mx vs hMx hl hv=>?_⟩
 match vs,hl,hv with
 |[v0],_,hv=>
  obtain ⟨a,b,rfl,e1,e2⟩:=yqx (hv 0 v0 _ rfl rfl)
  refine (yy1 a b (by omega) (by omega) w).mono ?_
  rintro e w' ⟨rfl,hb⟩
  refine ⟨_,rfl,hb,y2y ?_ (by omega)⟩
  split<;>omega
end Go.Proofs.YtbblgobamoabkaaGreatDoor
