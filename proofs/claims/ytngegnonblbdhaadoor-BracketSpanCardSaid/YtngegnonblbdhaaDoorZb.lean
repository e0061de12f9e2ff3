/- Layer 12: integers of 128 bits: sums and negatives. -/
import Derived.Shelf.Spec.BitsCarry
import Derived.WalkKit
import Derived.BigCall
import Derived.Laws.Rows
import Derived.Lib.SmallJoins
import Derived.Test.YtngegnonblbdhaaDoorSh
import Derived.Test.YtngegnonblbdhaaDoorTy
set_option linter.unusedSimpArgs false
set_option linter.unusedVariables false
namespace Go.Proofs.YtngegnonblbdhaaDoor
open Go Go.RowKit Go.Shelf Go.Joins
set_option maxHeartbeats 4000000
set_option maxRecDepth 100000
def ytx:Ren:=⟨fun|25=>56|26=>92|n=>n,fun|22=>75|n=>n,fun|n=>n⟩
theorem addL:Lays7.n25 Tryd.prog ytx:={mixed:=by kernel_rfl,f25:=Tryd.func56.trans (congrArg some (by kernel_rfl)),t22:=Tryd.underlying75,a22:=Tryd.isAgg75,z22:=Tryd.sizeOf75,v22:=Tryd.zeroValue75,i22:=by kernel_rfl}
theorem subL:Lays7.n26 Tryd.prog ytx:={mixed:=by kernel_rfl,f26:=Tryd.func92.trans (congrArg some (by kernel_rfl)),t22:=Tryd.underlying75,a22:=Tryd.isAgg75,z22:=Tryd.sizeOf75,v22:=Tryd.zeroValue75,i22:=by kernel_rfl}
theorem yp3 (x y c:Nat) (hc:c<=1) (w:World):(callFunc 56 #[.int .u64 x, .int .u64 y, .int .u64 c]).run Tryd.prog w=
   .ok (.value (.tuple #[.int .u64 (((x+y+c)% 18446744073709551616:Nat):Int), .int .u64 (((x+y+c)/18446744073709551616:Nat):Int)])) w:=Any7.bits_Add64 addL x y c hc w
theorem yp4 (x y c:Nat) (hc:c<=1) (w:World):(callFunc 92 #[.int .u64 x, .int .u64 y, .int .u64 c]).run Tryd.prog w=
   .ok (.value (.tuple #[.int .u64 (((x+18446744073709551616-y-c)% 18446744073709551616:Nat):Int), .int .u64 ((if x<y+c then 1 else 0:Nat):Int)])) w:=Any7.bits_Sub64 subL x y c hc w
theorem ywl (x y:Nat) (w:World):(callFunc 56 #[.int .u64 x, .int .u64 y, .int .u64 0]).run Tryd.prog w=
   .ok (.value (.tuple #[.int .u64 (((x+y)% 18446744073709551616:Nat):Int), .int .u64 (((x+y)/18446744073709551616:Nat):Int)])) w:=yp3 x y 0 (by omega) w
theorem ywm (y:Nat) (w:World):(callFunc 92 #[.int .u64 0, .int .u64 y, .int .u64 0]).run Tryd.prog w=
   .ok (.value (.tuple #[.int .u64 (((0+18446744073709551616-y)% 18446744073709551616:Nat):Int), .int .u64 ((if 0<y then 1 else 0:Nat):Int)])) w:=yp4 0 y 0 (by omega) w
theorem ywn (y c:Nat) (hc:c<=1) (w:World):(callFunc 92 #[.int .u64 0, .int .u64 y, .int .u64 c]).run Tryd.prog w=
   .ok (.value (.tuple #[.int .u64 (((0+18446744073709551616-y-c)% 18446744073709551616:Nat):Int), .int .u64 ((if 0<y+c then 1 else 0:Nat):Int)])) w:=yp4 0 y c hc w
theorem al3 (w:World) (o1 o2 o3:Obj):(((w.alloc o1).alloc o2).alloc o3).heap[w.heap.size+1+1]?=some o3:=by
 have h:=heap_alloc_new ((w.alloc o1).alloc o2) o3
 rw [show ((w.alloc o1).alloc o2).heap.size=w.heap.size+1+1 by simp] at h
 exact h
theorem al2 (w:World) (o1 o2:Obj):((w.alloc o1).alloc o2).heap[w.heap.size+1]?=some o2:=by
 have h:=heap_alloc_new (w.alloc o1) o2
 rw [show (w.alloc o1).heap.size=w.heap.size+1 by simp] at h
 exact h
theorem yty (a b c d:Nat) (hb:b<18446744073709551616) (hd:d<18446744073709551616) (w:World):Calls Tryd.prog 43 #[.agg #[.int .u64 a, .int .u64 b], .agg #[.int .u64 c, .int .u64 d]] w fun e w'=>
  e= .returned (.agg #[.int .u64 (((a+c+(b+d)/18446744073709551616)% 18446744073709551616:Nat):Int), .int .u64 (((b+d)% 18446744073709551616:Nat):Int)])/\Below w.heap.size w w':=by
 obtain ⟨lo,hlo⟩: ∃lo,lo=(b+d)% 18446744073709551616:=⟨_,rfl⟩
 obtain ⟨cy,hcy⟩: ∃cy,cy=(b+d)/18446744073709551616:=⟨_,rfl⟩
 obtain ⟨hi,hhi⟩: ∃hi,hi=(a+c+cy)% 18446744073709551616:=⟨_,rfl⟩
 obtain ⟨cz,hcz⟩: ∃cz,cz=(a+c+cy)/18446744073709551616:=⟨_,rfl⟩
 have r1: ∀w,(callFunc 56 #[.int .u64 b, .int .u64 d, .int .u64 0]).run Tryd.prog w= .ok (.value (.tuple #[.int .u64 lo, .int .u64 cy])) w:=fun w=>by rw [hlo,hcy];exact ywl b d w
 have r2: ∀w,(callFunc 56 #[.int .u64 a, .int .u64 c, .int .u64 cy]).run Tryd.prog w= .ok (.value (.tuple #[.int .u64 hi, .int .u64 cz])) w:=fun w=>by rw [hhi,hcz];exact yp3 a c cy (by omega) w
 rw [←hlo,←hcy,←hhi]
 clear hlo hcy hhi hcz
 go_enter Tryd.func43,Tryd.ntmps43
 go_wp2_with (simp only [r1,r2])
 refine ⟨rfl, .agg #[.int .u64 hi, .int .u64 lo],?_,rfl,below_alloc3 _ _ _ _⟩
 exact results_cell_row (fn:=Tryd.f43) rfl _ _ (w.heap.size+1+1) 77 #[.int .u64 hi, .int .u64 lo] (0,0) _ rfl (al3 _ _ _ _) Tryd.underlying77 rfl (by kernel_rfl)
theorem ytz (a b:Nat) (ha:a<18446744073709551616) (hb:b<18446744073709551616) (w:World):Calls Tryd.prog 79 #[.agg #[.int .u64 a, .int .u64 b]] w fun e w'=>
  e= .returned (.agg #[.int .u64 (((18446744073709551616-a-(if 0<b then 1 else 0))% 18446744073709551616:Nat):Int), .int .u64 (((18446744073709551616-b)% 18446744073709551616:Nat):Int)])/\Below w.heap.size w w':=by
 obtain ⟨lo,hlo⟩: ∃lo,lo=(18446744073709551616-b)% 18446744073709551616:=⟨_,rfl⟩
 obtain ⟨cy,hcy⟩: ∃cy,cy=(if 0<b then 1 else 0:Nat):=⟨_,rfl⟩
 have hc1:cy<=1:=by rw [hcy];split<;>omega
 obtain ⟨hi,hhi⟩: ∃hi,hi=(18446744073709551616-a-cy)% 18446744073709551616:=⟨_,rfl⟩
 obtain ⟨cz,hcz⟩: ∃cz,cz=(if 0<a+cy then 1 else 0:Nat):=⟨_,rfl⟩
 have r1: ∀w,(callFunc 92 #[.int .u64 0, .int .u64 b, .int .u64 0]).run Tryd.prog w= .ok (.value (.tuple #[.int .u64 lo, .int .u64 cy])) w:=fun w=>by
  rw [hlo,hcy];have:=ywm b w;rw [Nat.zero_add] at this;exact this
 have r2: ∀w,(callFunc 92 #[.int .u64 0, .int .u64 a, .int .u64 cy]).run Tryd.prog w= .ok (.value (.tuple #[.int .u64 hi, .int .u64 cz])) w:=fun w=>by
  rw [hhi,hcz];have:=ywn a cy hc1 w;rw [Nat.zero_add] at this;exact this
 rw [←hlo,←hcy,←hhi]
 clear hlo hcy hhi hcz hc1
 go_enter Tryd.func79,Tryd.ntmps79
 go_wp2_with (simp only [r1,r2])
 refine ⟨rfl, .agg #[.int .u64 hi, .int .u64 lo],?_,rfl,below_alloc2 _ _ _⟩
 exact results_cell_row (fn:=Tryd.f79) rfl _ _ (w.heap.size+1) 77 #[.int .u64 hi, .int .u64 lo] (0,0) _ rfl (al2 _ _ _) Tryd.underlying77 rfl (by kernel_rfl)
abbrev wdA (z:Int):AV:= .agg [.int .u64 (z/18446744073709551616 % 18446744073709551616), .int .u64 (z % 18446744073709551616)]
attribute [go_sem] wdA
theorem yn1 {w:World} {M:Nat->Prop} {ρ:Nat->Addr} {D:Nat->Prop} {v:Value} {z:Int} (h:VR w M ρ D v (wdA z)): ∃a b:Nat,v= .agg #[.int .u64 a, .int .u64 b]/\(a:Int)=z/18446744073709551616 % 18446744073709551616/\(b:Int)=z % 18446744073709551616:=by
 obtain ⟨vs,rfl,hl,hx⟩:=h.agg_inv
 match vs,hl,hx with
 |[v0,v1],_,hx=>
  have e0:=(hx 0 v0 _ rfl rfl).int_inv
  have e1:=(hx 1 v1 _ rfl rfl).int_inv
  subst e0 e1
  refine ⟨(z/18446744073709551616 % 18446744073709551616).toNat,(z % 18446744073709551616).toNat,?_,by omega,by omega⟩
  rw [Int.toNat_of_nonneg (by omega),Int.toNat_of_nonneg (by omega)]
theorem yxw {w:World} {M:Nat->Prop} {ρ:Nat->Addr} {D:Nat->Prop} {z:Int} {a b:Nat} (h1:(a:Int)=z/18446744073709551616 % 18446744073709551616) (h2:(b:Int)=z % 18446744073709551616):VR w M ρ D (.agg #[.int .u64 a, .int .u64 b]) (wdA z):=by
 refine .agg [.int .u64 a, .int .u64 b] _ rfl fun i u x hu hx=>?_
 match i,hu,hx with
 |0,hu,hx=>cases hu;cases hx;rw [h1];exact .int _ _
 |1,hu,hx=>cases hu;cases hx;rw [h2];exact .int _ _
theorem yzr (x y:Int):Fn Tryd.prog 43 [wdA x,wdA y] (wdA (x+y)):=by
 refine ⟨⟨_,Tryd.func43,rfl,by decide⟩,fun w Mx vs hMx hl hv=>?_⟩
 match vs,hl,hv with
 |[v0,v1],_,hv=>
  obtain ⟨a,b,rfl,e1,e2⟩:=yn1 (hv 0 v0 _ rfl rfl)
  obtain ⟨c,d,rfl,e3,e4⟩:=yn1 (hv 1 v1 _ rfl rfl)
  refine (yty a b c d (by omega) (by omega) w).mono ?_
  rintro e w' ⟨rfl,hb⟩
  exact ⟨_,rfl,hb,yxw (by omega) (by omega)⟩
theorem yp5 (x:Int):Fn Tryd.prog 79 [wdA x] (wdA (-x)):=by
 refine ⟨⟨_,Tryd.func79,rfl,by decide⟩,fun w Mx vs hMx hl hv=>?_⟩
 match vs,hl,hv with
 |[v0],_,hv=>
  obtain ⟨a,b,rfl,e1,e2⟩:=yn1 (hv 0 v0 _ rfl rfl)
  refine (ytz a b (by omega) (by omega) w).mono ?_
  rintro e w' ⟨rfl,hb⟩
  refine ⟨_,rfl,hb,yxw ?_ (by omega)⟩
  split<;>omega
end Go.Proofs.YtngegnonblbdhaaDoor
set_option linter.unusedSimpArgs false
set_option linter.unusedVariables false
namespace Go.Proofs.YtngegnonblbdhaaDoor
open Go Go.RowKit
theorem y26 {x:AV} (h:p1 x=true):p3 x=true:=by cases x<;>first|rfl|cases h
theorem y27 {x:AV} (H:Hp) (h:p1 x=true):s1 H x=true:=by cases x<;>first|rfl|cases h
theorem y28 {x:AV} (H:Hp) (h:p1 x=true):s2 H x=true:=by cases x<;>first|rfl|cases h
theorem yzs {x:AV} (H:Hp) (n:Nat) (h:p1 x=true):snap H (n+1) x=x:=by cases x<;>first|rfl|cases h
theorem ywo {x:AV} (H:Hp) (n:Nat) (h:p1 x=true):yal H (n+1) x:=by cases x<;>first|trivial|cases h
theorem y1t {x:AV} (H:Hp) (n:Nat) (h:p1 x=true):frzV H (n+1) x=x:=by cases x<;>first|rfl|cases h
theorem yzt {x:AV} (H:Hp) (n:Nat) (h:p1 x=true):frzP H (n+1) x:=by cases x<;>first|trivial|cases h
section
variable {c:List AV} (h:c.all p1=true)
include h
theorem yxx:c.all p3=true:=List.all_eq_true.2 fun x hx=>y26 (List.all_eq_true.1 h x hx)
theorem ye2 (H:Hp):c.all (s1 H)=true:=List.all_eq_true.2 fun x hx=>y27 H (List.all_eq_true.1 h x hx)
theorem ye3 (H:Hp):c.all (s2 H)=true:=List.all_eq_true.2 fun x hx=>y28 H (List.all_eq_true.1 h x hx)
theorem yzu (H:Hp) (n:Nat):c.map (snap H (n+1))=c:=by
 conv=>rhs;rw [←List.map_id c]
 exact List.map_congr_left fun x hx=>yzs H n (List.all_eq_true.1 h x hx)
theorem ywp (H:Hp) (n:Nat):(∀x∈c,yal H (n+1) x)=True:=eq_true fun x hx=>ywo H n (List.all_eq_true.1 h x hx)
theorem y1u (H:Hp) (n:Nat):c.map (frzV H (n+1))=c:=by
 conv=>rhs;rw [←List.map_id c]
 exact List.map_congr_left fun x hx=>y1t H n (List.all_eq_true.1 h x hx)
theorem yzv (H:Hp) (n:Nat):(∀x∈c,frzP H (n+1) x)=True:=eq_true fun x hx=>yzt H n (List.all_eq_true.1 h x hx)
end
end Go.Proofs.YtngegnonblbdhaaDoor
namespace Go.Proofs.YtngegnonblbdhaaDoor
open Go Go.RowKit
def swI (i j n:Nat):Nat:=if n=i then j else if n=j then i else n
theorem ydu (i j n:Nat):swI i j (swI i j n)=n:=by
 unfold swI
 by_cases h1:n=i
 ·rw [if_pos h1]
  by_cases h2:j=i
  ·rw [if_pos h2];omega
  ·rw [if_neg h2,if_pos rfl];omega
 ·rw [if_neg h1]
  by_cases h2:n=j
  ·rw [if_pos h2,if_pos rfl];omega
  ·rw [if_neg h2,if_neg h1,if_neg h2]
def swV (i j:Nat):Nat->AV->AV
 |0,x=>if p1 x then x else .any
 |n+1,x=>match x with
  | .sl es id off len=> .sl es (swI i j id) off len
  | .ptr id off=> .ptr (swI i j id) off
  | .mp id=> .mp (swI i j id)
  | .agg xs=> .agg (xs.map (swV i j n))
  | .tup xs=> .tup (xs.map (swV i j n))
  | .fn f xs=> .fn f (xs.map (swV i j n))
  |x=>x
def swO (i j:Nat):AObj->AObj
 | .cells t (.lst l)=> .cells t (.lst (l.map (swV i j 4)))
 | .imap t l=> .imap t (l.map fun q=>(q.1,swV i j 4 q.2))
 | .gmap t ck l=> .gmap t ck (l.map fun q=>(q.1,q.2.1,swV i j 4 q.2.2))
 | .iter m s sn la=> .iter (swI i j m) s sn la
 |o=>o
def swH (i j:Nat):Hp->Hp
 |[]=>[]
 |(k,o)::r=>(swI i j k,swO i j o)::swH i j r
def swF (i j:Nat):Fr->Fr
 |[]=>[]
 |(t,x)::r=>(t,swV i j 4 x)::swF i j r
theorem yg2 (i j:Nat): ∀(H:Hp) (k:Nat),hget (swH i j H) (swI i j k)=(hget H k).map (swO i j)
 |[],k=>rfl
 |(n,o)::r,k=>by
  simp only [swH,hget]
  by_cases e:n=k
  ·subst e;simp
  ·have: ¬swI i j n=swI i j k:=fun h=>e (by have:=congrArg (swI i j) h;rwa [ydu,ydu] at this)
   rw [if_neg this,if_neg e];exact yg2 i j r k
theorem yl7 (i j:Nat) (H:Hp) (k:Nat):hget (swH i j H) k=(hget H (swI i j k)).map (swO i j):=by
 have:=yg2 i j H (swI i j k);rwa [ydu] at this
theorem yjj (i j:Nat): ∀(fr:Fr) (t:Nat),fget (swF i j fr) t=swV i j 4 (fget fr t)
 |[],t=>rfl
 |(s,x)::r,t=>by
  simp only [swF,fget]
  split
  ·rfl
  ·exact yjj i j r t
theorem yfk (i j:Nat) (o:AObj):(swO i j o).live=o.live:=by unfold swO;split<;>rfl
theorem yxy {w:World} {M:Nat->Prop} {ρ ρ':Nat->Addr} {D D':Nat->Prop} {i j:Nat} (hD: ∀k,D k->D' (swI i j k)/\ρ' (swI i j k)=ρ k): ∀(n:Nat) (v:Value) (x:AV),VR w M ρ D v x->VR w M ρ' D' v (swV i j n x):=by
 intro n
 induction n with
 |zero=>
  intro v x hv
  simp only [swV]
  split
  ·rename_i hp;exact hv.pure1 hp
  ·exact .any _
 |succ n ih=>
  intro v x hv
  cases hv with
  |any v=>exact .any _
  |int k m=>exact .int _ _
  |bool b=>exact .bool _
  |str s=>exact .str _
  |nils=>exact .nils
  |mp id hd=>obtain ⟨h1,h2⟩:=hD id hd;simp only [swV];rw [←h2];exact .mp _ h1
  |ro es len c ad cap x hl hc he h0 hv=>exact VR.pure1 (VR.ro (D:=D) es len c ad cap x hl hc he h0 hv) rfl
  |rp c off b x hb hm hj hv=>exact VR.pure1 (VR.rp (D:=D) c off b x hb hm hj hv) rfl
  |ptr id off hd=>obtain ⟨h1,h2⟩:=hD id hd;simp only [swV];rw [←h2];exact .ptr _ _ h1
  |sl es id off len cap hd hc arr t ad ha hb hr=>
   obtain ⟨h1,h2⟩:=hD id hd
   exact .sl es (swI i j id) off len cap h1 hc arr t ad (fun h=>by rw [h2];exact ha h) (by rw [h2];exact hb) (by rw [h2];exact hr)
  |agg vs xs hl hx=>
   simp only [swV]
   refine .agg vs _ (by simp [hl]) fun k u y hu hy=>?_
   simp only [List.getElem?_map] at hy
   obtain ⟨y',g1,rfl⟩:=Option.map_eq_some_iff.1 hy
   exact ih u y' (hx k u y' hu g1)
  |tup vs xs hl hx=>
   simp only [swV]
   refine .tup vs _ (by simp [hl]) fun k u y hu hy=>?_
   simp only [List.getElem?_map] at hy
   obtain ⟨y',g1,rfl⟩:=Option.map_eq_some_iff.1 hy
   exact ih u y' (hx k u y' hu g1)
  |fn f vs xs hl hx=>
   simp only [swV]
   refine .fn f vs _ (by simp [hl]) fun k u y hu hy=>?_
   simp only [List.getElem?_map] at hy
   obtain ⟨y',g1,rfl⟩:=Option.map_eq_some_iff.1 hy
   exact ih u y' (hx k u y' hu g1)
theorem yzw {w:World} {M:Nat->Prop} {ρ ρ':Nat->Addr} {D D':Nat->Prop} {i j:Nat} (hD: ∀k,D k->D' (swI i j k)/\ρ' (swI i j k)=ρ k) {k:Nat} {o:AObj} (hi:D k) (h:ObjR w M ρ D k o):ObjR w M ρ' D' (swI i j k) (swO i j o):=by
 have hr:=yxy (w:=w) (M:=M) (ρ':=ρ') (D':=D') hD
 have he:=(hD k hi).2
 cases o with
 |gone=>trivial
 |cells t c=>
  obtain ⟨e1,arr,e2,e3,e4⟩:=h
  cases c with
  |ints l=>exact ⟨by rw [he];exact e1,arr,by rw [he];exact e2,by rw [he];exact e3,fun j hj=>let ⟨u,hu,hx⟩:=e4 j hj;⟨u,by rw [he];exact hu,hx.pure1 rfl⟩⟩
  |bools l=>exact ⟨by rw [he];exact e1,arr,by rw [he];exact e2,by rw [he];exact e3,fun j hj=>let ⟨u,hu,hx⟩:=e4 j hj;⟨u,by rw [he];exact hu,hx.pure1 rfl⟩⟩
  |lst l=>
   refine ⟨by rw [he];exact e1,arr,by rw [he];exact e2,by rw [he];simpa [swO,Cs.len] using e3,fun n hj=>?_⟩
   simp only [Cs.len,List.length_map] at hj
   obtain ⟨u,hu,hx⟩:=e4 n hj
   refine ⟨u,by rw [he];exact hu,?_⟩
   simp only [Cs.get,List.getD_eq_getElem?_getD,List.getElem?_eq_getElem hj,Option.getD_some] at hx
   have:=hr 4 u _ hx
   simpa [Cs.get,hj] using this
 |fmap t c=>
  obtain ⟨k0,es,ck,k1,k2⟩:=h
  exact ⟨k0,es,ck,by rw [he];exact k1,k2⟩
 |gmap t ck l=>
  obtain ⟨es,k1,k2,k3⟩:=h
  refine ⟨es,by rw [he];exact k1,by simpa using k2,fun j e q h1 h2=>?_⟩
  simp only [List.getElem?_map] at h2
  obtain ⟨q',g1,g2⟩:=Option.map_eq_some_iff.1 h2
  cases g2
  obtain ⟨g3,g4,g5⟩:=k3 j e q' h1 g1
  exact ⟨g3,g4,hr 4 _ _ g5⟩
 |iter mid s sn la=>
  obtain ⟨k1,k2,k3⟩:=h
  obtain ⟨d1,d2⟩:=hD mid k1
  exact ⟨d1,by rw [he];exact k2,by rw [he,d2];exact k3⟩
 |imap t l=>
  obtain ⟨k0,es,ck,k1,k2,k3⟩:=h
  refine ⟨fun k x hx=>?_,es,ck,by rw [he];exact k1,by simpa using k2,fun j e k x h1 h2=>?_⟩
  ·obtain ⟨q,g1,g2⟩:=List.mem_map.1 hx
   cases g2
   have:=k0 q.1 q.2 g1
   cases hq:q.2<;>rw [hq] at this<;>first|(cases this;done)|rfl
  simp only [List.getElem?_map] at h2
  obtain ⟨q,g1,g2⟩:=Option.map_eq_some_iff.1 h2
  cases g2
  obtain ⟨g3,g4,g5⟩:=k3 j e q.1 q.2 h1 g1
  exact ⟨g3,hr 4 _ _ g4,g5⟩
section
variable {B:Nat} {w0:ya9} {Mx:Nat->Prop} {N:Nat} {w:World} {ρ:Nat->Addr} {fr:Fr} {H:Hp} {a:Act}
theorem Sim.swap (h:Sim B w0 Mx N w ρ fr H a) (i j:Nat):Sim B w0 Mx N w (fun k=>ρ (swI i j k)) (swF i j fr) (swH i j H) a:=by
 have hg: ∀k o,hget (swH i j H) k=some o-> ∃o',hget H (swI i j k)=some o'/\o=swO i j o':=fun k o hk=>by
  rw [yl7] at hk
  obtain ⟨o',h1,h2⟩:=Option.map_eq_some_iff.1 hk
  exact ⟨o',h1,h2.symm⟩
 have hM:MM Mx (swH i j H) (fun k=>ρ (swI i j k))=MM Mx H ρ:=by
  funext b
  apply propext
  constructor
  ·rintro (g|⟨id,o,g1,g2,g3⟩)
   ·exact .inl g
   ·obtain ⟨o',k1,rfl⟩:=hg id o g1
    exact .inr ⟨_,o',k1,by rw [yfk] at g2;exact g2,g3⟩
  ·rintro (g|⟨id,o,g1,g2,g3⟩)
   ·exact .inl g
   ·exact .inr ⟨swI i j id,swO i j o,by rw [yg2,g1];rfl,by rw [yfk];exact g2,by show (ρ (swI i j (swI i j id))).block=b;rw [ydu];exact g3⟩
 have hD: ∀k,DD H k->DD (swH i j H) (swI i j k)/\(fun k=>ρ (swI i j k)) (swI i j k)=ρ k:=fun k ⟨o,ho⟩=>⟨⟨swO i j o,by rw [yg2,ho];rfl⟩,by show ρ (swI i j (swI i j k))=ρ k;rw [ydu]⟩
 refine ⟨h.below,h.hB,h.mx,fun id o ho hl=>?_,fun id o ho=>?_,fun id o id' o' ho hl ho' hl' e=>?_,fun t=>?_,h.defers,h.size⟩
 ·obtain ⟨o',k1,rfl⟩:=hg id o ho
  exact h.own _ o' k1 (by rw [yfk] at hl;exact hl)
 ·obtain ⟨o',k1,rfl⟩:=hg id o ho
  have:=yzw (w:=w) (M:=MM Mx H ρ) (ρ':=fun k=>ρ (swI i j k)) hD ⟨o',k1⟩ (h.objs _ o' k1)
  rw [ydu] at this
  rw [hM];exact this
 ·obtain ⟨q,k1,rfl⟩:=hg id o ho
  obtain ⟨q',k1',rfl⟩:=hg id' o' ho'
  have:=h.inj _ q _ q' k1 (by rw [yfk] at hl;exact hl) k1' (by rw [yfk] at hl';exact hl') e
  have:=congrArg (swI i j) this
  rwa [ydu,ydu] at this
 ·rw [hM,yjj]
  exact yxy hD 4 _ _ (h.frv t)
end
theorem Wk.swap (i j:Nat) (fr:Fr) (H:Hp):Wk fr H (swF i j fr) (swH i j H):=fun _ _ _ _ _ ρ _ hs=>⟨fun k=>ρ (swI i j k),hs.swap i j⟩
theorem Wk.subS (i j:Nat) {fr fr' fr1:Fr} {H H' H1:Hp} (e1:swF i j fr'=fr1) (e2:swH i j H'=H1) (e3:swF i j fr1=fr') (e4:swH i j H1=H') (hf:subF fr H1 fr1) (hh:subH H H1 H1):Wk fr H fr' H':=by
 have:=(Wk.sub hf hh).trans (Wk.swap i j fr1 H1)
 rwa [e3,e4] at this
attribute [go_sem] swI swV swO swH swF
end Go.Proofs.YtngegnonblbdhaaDoor
