/- The order of terms; slices.SortFunc at terms of three integers, by the shelf's contract. -/
import Derived.Test.YtfgbnalnbdhimaaGreatDoorZc
import Derived.Test.YtfgbnalnbdhimaaGreatDoorZf
import Derived.Shelf.SlSortCmp.NoneTotal
import Derived.StillTailTactics
import Derived.Test.YtfgbnalnbdhimaaGreatDoorZa
import Derived.Test.YtfgbnalnbdhimaaGreatDoorGc
import Derived.Test.YtfgbnalnbdhimaaGreatDoorZe
import Derived.Test.YtfgbnalnbdhimaaGreatDoorZb
namespace Go.Proofs.YtfgbnalnbdhimaaGreatDoor
open Go Go.RowKit
set_option maxRecDepth 100000
set_option maxHeartbeats 4000000
set_option linter.unusedVariables false
set_option linter.unusedSimpArgs false
def encT (t:Int×Int):List Value:=[.int .i64 (bvA t.1), .int .i64 (bvZ t.1), .int .i64 t.2]
def cfT (x y:Int×Int):Int:=if cmpZ (bvA x.1) (bvA y.1)≠0 then cmpZ (bvA x.1) (bvA y.1) else cmpZ (bvZ x.1) (bvZ y.1)
theorem yl9 (x y:Int×Int):ltOf cfT x y=decide (x.1<y.1):=by
 unfold ltOf
 rw [decide_eq_decide,y1p x.1 y.1]
 unfold cfT cmpZ
 generalize bvA x.1=a
 generalize bvA y.1=a'
 generalize bvZ x.1=z
 generalize bvZ y.1=z'
 by_cases h1:a<a'
 ·simp [h1]
 ·by_cases h2:a'<a
  ·simp [h1,h2];omega
  ·obtain rfl:a=a':=by omega
   by_cases h3:z<z'
   ·simp [h3]
   ·by_cases h4:z'<z<;>simp [h3,h4]
theorem swoT:Sort.SWO (ltOf cfT) where
 irrefl x:=by rw [yl9];simp
 trans x y z h1 h2:=by rw [yl9] at*;simp at*;omega
 ntrans x y z h1 h2:=by rw [yl9] at*;simp at*;omega
theorem yng: ∀(p:List (Int×Int)) (j:Nat),j<3*p.length-> ∃n:Int,(encT (p.getD (j/3) (0,0)))[j % 3]! = .int .i64 n/\(bvC p).getD j .any=I n
 |[],j,h=>by simp at h
 |t::p,0,_=>⟨bvA t.1,rfl,rfl⟩
 |t::p,1,_=>⟨bvZ t.1,rfl,rfl⟩
 |t::p,2,_=>⟨t.2,rfl,rfl⟩
 |t::p,j+3,h=>by
  obtain ⟨n,h1,h2⟩:=yng p j (by simp only [List.length_cons] at h;omega)
  refine ⟨n,?_,?_⟩
  ·rw [show (j+3)/3=j/3+1 by omega,show (j+3)% 3=j % 3 by omega,List.getD_cons_succ];exact h1
  ·simp only [bvC]
   rw [show j+3=j+1+1+1 by omega]
   simp only [List.getD_cons_succ];exact h2
theorem yb7: ∀{H:Hp} {i:Nat} {o:AObj},hget H i=some o->hset H i o=H
 |[],_,_,h=>by cases h
 |(j,u)::H,i,o,h=>by
  simp only [hget] at h
  simp only [hset]
  by_cases e:j=i
  ·rw [if_pos e] at h⊢;cases h;rw [e]
  ·rw [if_neg e] at h⊢;rw [yb7 h]
section
variable {ρr:Go.Shelf.Ren}
theorem yu7 (L:SlLaysF0.n6 Tryz.prog ρr) (hF:FnOk Tryz.prog (ρr.f 6)) (aE: ∀w,(isAgg (ρr.t 24)).run Tryz.prog w= .ok true w) (zE: ∀w,(Go.sizeOf (ρr.t 24)).run Tryz.prog w= .ok 3 w) {G:Nat}
  (eg: ∀args w,(callFunc G args).run Tryz.prog w= .ok (.enter G args) w)
  (hcmp: ∀(x y:Int×Int) (W:World),Calls Tryz.prog G #[.agg (encT x).toArray, .agg (encT y).toArray] W fun e w'=>e= .returned (.int .i64 (cfT x y))/\ ∃q os',w'=Sort.grow (W.drewN q) os')
  {id T:Nat} {q:List (Int×Int)} {fr:Fr} {H:Hp} {K:AV->Fr->Hp->Prop} (hid:hget H id=some (.cells T (.lst (bvC q)))) (hq:q.length<=1000000)
  (hK: ∀r:List (Int×Int),r.Perm q->r.Pairwise (fun a b=>a.1<=b.1)->K (.tup []) fr (hset H id (.cells T (.lst (bvC r))))):yba Tryz.prog (ρr.f 6) [.sl 3 id 0 q.length, .fn G []] fr H K:=by
 refine ⟨.inr fun B w0 Mx N w ρ a hs vs hvl hv=>⟨hF,?_⟩⟩
 match vs,hvl,hv with
 |[u0,u1],_,hv=>
  have v0:=hv 0 u0 _ rfl rfl
  have v1:=hv 1 u1 _ rfl rfl
  obtain ⟨vs1,rfl,hl1,_⟩:=v1.fn_inv
  obtain rfl:vs1=[]:=List.eq_nil_of_length_eq_zero hl1
  cases v0 with
  |sl es id' off len cap hdd hc arr t ad ha hb hr=>
   obtain ⟨hsp,arr0,h2,h3,h4⟩:=hs.objs id _ hid
   simp only [Cs.len,ybf] at h3 h4
   by_cases h0:q.length=0
   ·obtain rfl:q=[]:=List.eq_nil_of_length_eq_zero h0
    refine (AnyF.slices_SortFunc_none L (some ad) cap _ w).mono ?_
    rintro e w' ⟨rfl,rfl⟩
    have hk:=hK [] (.refl _) .nil
    rw [yb7 hid] at hk
    exact ⟨_, .tup [],ρ,fr,H,rfl,hk,hs, .tup [] [] rfl fun i v x hv=>by simp at hv⟩
   ·have hc0:0<cap:=by omega
    have e0:=ha hc0
    rw [show (ρ id).add 0=ρ id from rfl] at e0
    obtain ⟨ead⟩:ad=⟨(ρ id).block,(ρ id).off,none⟩:=by rw [e0];cases hr':ρ id with|mk b o s=>rw [hr'] at hsp;simp at hsp;rw [hsp]
    rw [h2] at hb
    obtain ⟨rfl,rfl⟩:arr0=arr/\T=t:=by cases hb;exact ⟨rfl,rfl⟩
    have hcell: ∀j,j<3*q.length->arr0[(ρ id).off+j]?=some (encT (q.getD (j/3) (0,0)))[j % 3]! :=fun j hj=>by
     obtain ⟨n,n1,n2⟩:=yng q j hj
     obtain ⟨u,g1,g2⟩:=h4 j hj
     have g3:VR w (MM Mx H ρ) ρ (DD H) u (I n):=by
      have:(Cs.lst (bvC q)).get j=I n:=n2
      rw [←this];exact g2
     rw [g1,n1,g3.int_inv]
    have hH:Sort.HoldsK encT 3 w (ρ id).block (ρ id).off q.toArray:=by
     intro j hj
     rw [Sort.size_flatK,List.size_toArray] at hj
     rw [Sort.get_flatK _ _ _ _ (by simpa using hj)]
     have hc:=hcell j (by omega)
     have hlt:(ρ id).off+j<arr0.size:=(Array.getElem?_eq_some_iff.1 hc).1
     have e1:q.toArray[j/3]! =q.getD (j/3) (0,0):=by
      have hj3:j/3<q.length:=by omega
      simp [List.getD_eq_getElem?_getD,hj3]
     rw [e1]
     refine ⟨?_,by simp [World.frozen?,h2]⟩
     simp only [World.cell?,h2,_root_.id]
     simpa using hc
    refine (AnyQ.slices_SortFunc L 3 aE zE encT (fun _=>rfl) (fun x v hv=>by simp [encT] at hv;rcases hv with rfl|rfl|rfl<;>rfl) cfT swoT G #[] (ρ id).block (ρ id).off cap q.toArray w eg (fun m os dk _ x y=>by simpa using hcmp x y _) hH (yaj h2) (by simp;omega)).mono ?_
    rintro e w' ⟨rfl,d',n,os,⟨p1,p2,p3⟩,so,rfl⟩
    have hd:d'.size=q.length:=by simpa using p1
    have hperm:d'.toList.Perm q:=by
     have h5:d'.extract 0 q.toArray.size=d':=by rw [←p1];simp
     have h6:q.toArray.extract 0 q.toArray.size=q.toArray:=by simp
     rw [h5,h6] at p3
     simpa using p3
    have hpw:d'.toList.Pairwise fun a b=>a.1<=b.1:=by
     rw [List.pairwise_iff_getElem]
     intro i j hi hj hij
     have hi':i<d'.size:=by simpa using hi
     have hj':j<d'.size:=by simpa using hj
     have:=so i j (Nat.zero_le _) hij (by simpa using (show j<q.length by omega))
     rw [yl9,getElem!_pos d' i hi',getElem!_pos d' j hj',decide_eq_false_iff_not] at this
     simp only [Array.getElem_toList]
     omega
    have hs1:Sim B w0 Mx N (Sort.putRowK encT 3 w (ρ id).block (ρ id).off d') ρ fr (hset H id (.cells T (.lst (bvC d'.toList)))) a:=by
     have hb1:(Sort.putRowK encT 3 w (ρ id).block (ρ id).off d').heap[(ρ id).block]?=some (.cells (Sort.putCells _root_.id (ρ id).off (Sort.flatK encT 3 d') arr0) T (0,0)):=by
      simp [Sort.putRowK,Sort.putRow,Sort.mapBlock,Array.getElem?_modify,h2,Sort.onCells]
     refine hs.change hid h2 hb1 (by simp [Sort.putCells]) (by simp [Sort.putRowK,Sort.putRow,Sort.mapBlock]) rfl rfl rfl (fun k hk=>by simp [Sort.putRowK,Sort.putRow,Sort.mapBlock,Array.getElem?_modify,Ne.symm hk]) (by simp [Sort.putCells,Cs.len,ybf,hd];omega) fun j hj=>?_
     simp only [Cs.len,ybf,Array.length_toList] at hj
     obtain ⟨n,n1,n2⟩:=yng d'.toList j (by simpa using hj)
     have hlt:(ρ id).off+j<arr0.size:=by omega
     refine ⟨.int .i64 n,?_,by show VR _ _ _ _ _ ((bvC d'.toList).getD j .any);rw [n2];exact .int _ _⟩
     have e1:d'[j/3]! =d'.toList.getD (j/3) (0,0):=by
      have hj3:j/3<d'.size:=by omega
      simp [List.getD_eq_getElem?_getD,hj3]
     simp only [Sort.putCells,Array.getElem?_mapIdx,Array.getElem?_eq_getElem hlt,Option.map_some]
     rw [if_pos ⟨by omega,by rw [Sort.size_flatK];omega⟩,show (ρ id).off+j-(ρ id).off=j by omega,Sort.get_flatK _ _ _ _ (by omega),e1,n1];rfl
    refine ⟨_, .tup [],ρ,fr,_,rfl,hK _ hperm hpw,hs1.later ?_, .tup [] [] rfl fun i v x hv=>by simp at hv⟩
    refine ⟨rfl,rfl,rfl,?_,fun k hk=>?_⟩
    ·simp [sortWorldK,Sort.grow,Sort.putRowK,Sort.putRow,Sort.mapBlock,Sort.ahead]
    ·simp only [sortWorldK,Sort.grow]
     rw [Array.getElem?_append_left (by simpa [Sort.putRowK,Sort.putRow,Sort.mapBlock,Sort.ahead] using hk)]
     simp [Sort.putRowK,Sort.putRow,Sort.mapBlock,Sort.ahead]
end
end Go.Proofs.YtfgbnalnbdhimaaGreatDoor
namespace Go.Proofs.YtfgbnalnbdhimaaGreatDoor
open Go Go.RowKit
set_option maxRecDepth 100000
set_option maxHeartbeats 4000000
set_option linter.unusedVariables false
set_option linter.unusedSimpArgs false
theorem y7x (h:Array Obj) (a b c:Obj):((h.push a).push b).push c=h++ #[a,b,c]:=by apply Array.ext';simp
theorem y4i (x:Int) (W:World):Calls Tryz.prog 104 #[.int .i64 x] W fun e w'=>e= .returned (.bool false)/\w'=W:=by
 go_enter Tryz.func104,Tryz.ntmps104
 go_wp2
 go_ret
 exact ⟨by simp,rfl⟩
theorem yx8 (x y:Int) (W:World):Calls Tryz.prog 77 #[.int .i64 x, .int .i64 y] W fun e w'=>e= .returned (.int .i64 (cmpZ x y))/\w'=W:=by
 have hn:=y4i
 unfold cmpZ
 by_cases hl:x<y
 ·rw [if_pos hl]
  go_enter Tryz.func77,Tryz.ntmps77
  go_wp2_with (go_at_call 104;refine (hn _ _).mono ?_;rintro e w' ⟨rfl,rfl⟩)
  go_ret
  exact ⟨rfl,rfl⟩
 ·rw [if_neg hl]
  by_cases hg:y<x
  ·rw [if_pos hg]
   go_enter Tryz.func77,Tryz.ntmps77
   go_wp2_with (go_at_call 104;refine (hn _ _).mono ?_;rintro e w' ⟨rfl,rfl⟩)
   go_ret
   exact ⟨rfl,rfl⟩
  ·rw [if_neg hg]
   go_enter Tryz.func77,Tryz.ntmps77
   go_wp2_with (go_at_call 104;refine (hn _ _).mono ?_;rintro e w' ⟨rfl,rfl⟩)
   go_ret
   exact ⟨rfl,rfl⟩
theorem w_Or (x y:Int) (b cap:Nat) (W:World) (h0:W.cell? ⟨b,0,none⟩=some (.int .i64 x)) (h1:W.cell? ⟨b,1,none⟩=some (.int .i64 y)):
  Calls Tryz.prog 76 #[.slice (some ⟨b,0,none⟩) 2 cap] W fun e w'=>e= .returned (.int .i64 (if x≠0 then x else y))/\w'=W:=by
 by_cases hx:x=0
 ·subst hx
  rw [if_neg (by simp)]
  by_cases hy:y=0
  ·subst hy
   go_enter Tryz.func76,Tryz.ntmps76
   go_wp2
   refine wp_loop_rounds 3 ?_
   rw [rounds_succ]
   go_wp2
   rw [rounds_succ]
   go_wp2
   rw [rounds_succ]
   go_wp2
   go_ret
   exact ⟨rfl,rfl⟩
  ·have by0:(y !=0)=true:=by rw [bne_iff_ne];exact hy
   go_enter Tryz.func76,Tryz.ntmps76
   go_wp2
   refine wp_loop_rounds 3 ?_
   rw [rounds_succ]
   go_wp2
   rw [rounds_succ]
   go_wp2
   go_ret
   exact ⟨rfl,rfl⟩
 ·have bx0:(x !=0)=true:=by rw [bne_iff_ne];exact hx
  rw [if_pos hx]
  go_enter Tryz.func76,Tryz.ntmps76
  go_wp2
  refine wp_loop_rounds 3 ?_
  rw [rounds_succ]
  go_wp2
  go_ret
  exact ⟨rfl,rfl⟩
theorem y7y (x y:Int×Int) (W:World):Calls Tryz.prog 75 #[.agg (encT x).toArray, .agg (encT y).toArray] W fun e w'=>e= .returned (.int .i64 (cfT x y))/\ ∃q os',w'=Sort.grow (W.drewN q) os':=by
 have hc:=yx8
 have ho:=w_Or (cmpZ (bvA x.1) (bvA y.1)) (cmpZ (bvZ x.1) (bvZ y.1))
 unfold cfT
 generalize (if cmpZ (bvA x.1) (bvA y.1)≠0 then cmpZ (bvA x.1) (bvA y.1) else cmpZ (bvZ x.1) (bvZ y.1))=r at*
 unfold encT
 generalize bvA x.1=a1 at*
 generalize bvA y.1=a2 at*
 generalize bvZ x.1=z1 at*
 generalize bvZ y.1=z2 at*
 generalize x.2=c1 at*
 generalize y.2=c2 at*
 go_enter Tryz.func75,Tryz.ntmps75
 go_upto_region 1 with fail
 obtain ⟨W2,hW2⟩: ∃W2,(W.alloc (Obj.cells #[Value.int IntKind.i64 a1,Value.int IntKind.i64 z1,Value.int IntKind.i64 c1] 50)).alloc (Obj.cells #[Value.int IntKind.i64 a2,Value.int IntKind.i64 z2,Value.int IntKind.i64 c2] 50)=W2:=⟨_,rfl⟩
 have k0:W2.cell? ⟨W.heap.size,0,none⟩=some (.int .i64 a1):=by rw [←hW2];simp
 have k1:W2.cell? ⟨W.heap.size,1,none⟩=some (.int .i64 z1):=by rw [←hW2];simp
 have k2:W2.cell? ⟨W.heap.size+1,0,none⟩=some (.int .i64 a2):=by rw [←hW2];simp
 have k3:W2.cell? ⟨W.heap.size+1,1,none⟩=some (.int .i64 z2):=by rw [←hW2];simp
 rw [hW2]
 refine wp_region_still_tail 10 (by kernel_rfl) (by kernel_rfl) ?_
 simp only [List.take_succ_cons,List.take_zero,List.drop_succ_cons,List.drop_zero]
 generalize hd:({heap:=W2.heap,tape:=W2.tape,drawn:=W2.drawn+1,os:=W2.os,output:=W2.output}:World)=W3
 have j0:W3.cell? ⟨W.heap.size,0,none⟩=some (.int .i64 a1):=by rw [←hd];exact k0
 have j1:W3.cell? ⟨W.heap.size,1,none⟩=some (.int .i64 z1):=by rw [←hd];exact k1
 have j2:W3.cell? ⟨W.heap.size+1,0,none⟩=some (.int .i64 a2):=by rw [←hd];exact k2
 have j3:W3.cell? ⟨W.heap.size+1,1,none⟩=some (.int .i64 z2):=by rw [←hd];exact k3
 still_step
 still_step
 still_step
 still_step
 still_call (hc _ _ _)
 still_step
 still_step
 still_step
 still_step
 still_call (hc _ _ _)
 refine wpStill_nil ?_
 go_wp2_with (go_at_call 76;refine (ho _ _ _ ?_ ?_).mono ?_;rotate_left 2;rintro e w' ⟨rfl,rfl⟩)
 ·go_ret
  refine ⟨rfl,1, #[.cells #[.int .i64 a1, .int .i64 z1, .int .i64 c1] 50 (0,0), .cells #[.int .i64 a2, .int .i64 z2, .int .i64 c2] 50 (0,0), .cells #[.int .i64 (cmpZ a1 a2), .int .i64 (cmpZ z1 z2)] 3 (0,0)],?_⟩
  rw [←hd,←hW2]
  exact congrArg (fun h=>(⟨h,W.tape,W.drawn+1,W.os,W.output⟩:World)) (y7x W.heap _ _ _)
 ·simp
 ·simp
theorem yx9 {id T:Nat} {q:List (Int×Int)} {fr:Fr} {H:Hp} {K:AV->Fr->Hp->Prop} (hid:hget H id=some (.cells T (.lst (bvC q)))) (hq:q.length<=1000000)
  (hK: ∀r:List (Int×Int),r.Perm q->r.Pairwise (fun a b=>a.1<=b.1)->K (.tup []) fr (hset H id (.cells T (.lst (bvC r))))):yba Tryz.prog 74 [.sl 3 id 0 q.length, .fn 75 []] fr H K:=
 yu7 y1a ⟨_,Tryz.func74,rfl,by decide⟩ Tryz.isAgg50 Tryz.sizeOf50 (enters_of Tryz.func75 (by kernel_rfl) rfl) y7y hid hq hK
end Go.Proofs.YtfgbnalnbdhimaaGreatDoor
namespace Go.Proofs.YtfgbnalnbdhimaaGreatDoor
open Go Go.RowKit
set_option maxRecDepth 100000
set_option maxHeartbeats 8000000
set_option linter.unusedVariables false
set_option linter.unusedSimpArgs false
def yya:TbA:=[(1,[[9,10,11,13,14,15],[9,10,11,13,14,15],[7,8,13,14,15],[7,8,13,14,15],[7,8,13,14,15],[13,14,15],[7,8,9,10,11,12,4],[7,8,9,10,11,12,4],[7,8,9,10,11,12,4],[13,14,15],[]],[[],[],[0,1],[0,1],[0,1],[],[0,1,2,3,4,5],[0,1,2,3,4,5],[0,1,2,3,4,5],[6,7,8],[]])]
theorem yyb (m:SumM) (sn:List Nat) {b:Nat} {q:Int×Int×Int} (h:m[b]?=some q):outS m (sn++[b])=outS m sn++if suV q.2=0 then [] else [(q.1,suV q.2)]:=by
 rw [yw4]
 have:m.getD b (0,0,0)=q:=by rw [List.getD_eq_getElem?_getD,h];rfl
 rw [this];rfl
theorem rngP {sn:List Nat} {N:Nat} (hn:sn.Nodup) (hr: ∀i∈sn,i<N) (ha: ∀i,i<N->i∈sn):sn.Perm (List.range N):=
 (List.perm_ext_iff_of_nodup hn List.nodup_range).2 fun a=>⟨fun h=>List.mem_range.2 (hr a h),fun h=>ha a (List.mem_range.1 h)⟩
abbrev gaB:AObj:= .cells 26 (.lst [.bool false, .nils])
abbrev gaH (r:List (Int×Int)):Hp:=[(6, .cells 26 (.lst [.bool false, .sl 3 5 0 r.length])),(5, .cells 50 (.lst (bvC r))),(4, .cells 26 (.lst [.bool false, .sl 3 5 0 r.length])),(2,gaB)]
def gaO:Hp:=[(2, .gone)]
theorem yma {H:Hp} (h:(hget H 2).isSome=true): ∀i,(hget gaO i).isSome=true->(hget H i).isSome=true:=fun i hi=>by
 by_cases h2:2=i
 ·subst h2;exact h
 ·simp only [gaO,hget] at hi
  rw [if_neg h2] at hi;cases hi
theorem yyc (r:List (Int×Int)) (H:Hp):LeA (.agg [.bool false, .ro 3 r.length (.lst (List.take (r.length*3) (List.map (snap H 4) (bvC r))))]) (bvP false r):=
 LeA.of (by rw [yqq,List.take_of_length_le (by rw [ybf];omega)])
abbrev gaL (m:SumM) (sn:List Nat):Hp:=[(7, .iter 3 m.length sn m.length),(6, .cells 26 (.lst [.bool false, .sl 3 5 0 (outS m sn).length])),(5, .cells 50 (.lst (bvC (outS m sn)))),(4,gaB),(3, .gmap suT m.length (gmL 0 m)),(2,gaB)]
theorem y4j (h l:Int) (hh: -4611686018427387904<=h/\h<=4611686018427387904) (hl:0<=l/\l<=4611686018427387904):
  ∃u,Fn Tryz.prog 73 [.agg [I h,I l]] (.tup [I u, .bool (fitB (h*33554432+l) 1125899906842624)])/\(fitB (h*33554432+l) 1125899906842624=true->u=h*33554432+l):=by
 cases hf:fitB (h*33554432+l) 1125899906842624 with
 |true=>
  have hv:=ybx.1 hf
  exact ⟨_,yrr h l hh hl hv,fun _=>rfl⟩
 |false=>
  have hn: ¬(-1125899906842624<=h*33554432+l/\h*33554432+l<=1125899906842624):=fun h'=>by rw [ybx.2 h'] at hf;cases hf
  have hla:=yqo l (by unfold InI;omega)
  obtain ⟨g,hg⟩: ∃g,g=h+l/33554432:=⟨_,rfl⟩
  obtain ⟨r,hr⟩: ∃r,r=l % 33554432:=⟨_,rfl⟩
  rw [←hr] at hla
  have hS:g*33554432+r=h*33554432+l:=by omega
  have h1:=ybh g 67108864 (by decide) (by decide)
  have eg:h+l/2^25=g:=by rw [hg];rfl
  have eg2:h+l/33554432=g:=hg.symm
  have eS:g*2^25+r=h*33554432+l:=by rw [←hS];rfl
  by_cases hb: -67108864<=g/\g<=67108864
  ·refine ⟨h*33554432+l,?_,fun h=>(nomatch h)⟩
   have h2:=ybh (h*33554432+l) 1125899906842624 (by decide) (by decide)
   rw [decide_eq_true hb.1,decide_eq_true hb.2,Bool.and_self] at h1
   rw [show (decide (-1125899906842624<=h*33554432+l)&&decide (h*33554432+l<=1125899906842624))=false from hf] at h2
   refine Fn.introL [.tmp 2, .tmp 3] Tryz.func73 rfl rfl (by decide) (by simp [Tryz.ntmps73]) ?_;rw [Tryz.ntmps73]
   repeat' (first|omega|(first|apply yaa|refine tbN yya ?_|skip);simp only [go_sem,hla,eg,eg2]|apply yab<;>(intro h_;(try simp only [h_]);revert h_)|apply And.intro|with_reducible intro h_|trivial)
   refine ⟨yae.fn rfl h1 ?_⟩
   repeat' (first|omega|(try apply yaa);simp only [go_sem,eS,hS]|apply yab<;>(intro h_;(try simp only [h_]);revert h_)|apply And.intro|with_reducible intro h_|trivial)
   refine ⟨yae.fn rfl h2 ?_⟩
   repeat' (first|omega|(try apply yaa);simp only [go_sem]|apply yab<;>(intro h_;(try simp only [h_]);revert h_)|apply And.intro|with_reducible intro h_|trivial)
   all_goals exact LeA.refl _
  ·refine ⟨0,?_,fun h=>(nomatch h)⟩
   rw [show (decide (-67108864<=g)&&decide (g<=67108864))=false by rw [Bool.and_eq_false_iff,decide_eq_false_iff_not,decide_eq_false_iff_not];omega] at h1
   refine Fn.introL [.tmp 2, .tmp 3] Tryz.func73 rfl rfl (by decide) (by simp [Tryz.ntmps73]) ?_;rw [Tryz.ntmps73]
   repeat' (first|omega|(first|apply yaa|refine tbN yya ?_|skip);simp only [go_sem,hla,eg,eg2]|apply yab<;>(intro h_;(try simp only [h_]);revert h_)|apply And.intro|with_reducible intro h_|trivial)
   refine ⟨yae.fn rfl h1 ?_⟩
   repeat' (first|omega|(try apply yaa);simp only [go_sem]|apply yab<;>(intro h_;(try simp only [h_]);revert h_)|apply And.intro|with_reducible intro h_|trivial)
   all_goals exact LeA.refl _
abbrev gaX (m:SumM) (sn:List Nat) (k:Nat) (u:Int×Int×Int):Hp:=[(9, .cells 85 (.lst [I u.2.1,I u.2.2])),(8, .cells 83 (.lst [I (bvA u.1),I (bvZ u.1)])),(7, .iter 3 m.length (sn++[k]) m.length),(6, .cells 26 (.lst [.bool false, .sl 3 5 0 (outS m sn).length])),(5, .cells 50 (.lst (bvC (outS m sn)))),(4, .cells 26 (.lst [.bool true, .nils])),(3, .gmap suT m.length (gmL 0 m)),(2,gaB)]
theorem yiw (m:SumM) (j:Nat) (hm:MOk m j) (hj:j<=10000000000) (hl:m.length<=1000000) (hx: ∀e,mVal m e≠0->(-1048576<=bvA e/\bvA e<=1048576)/\ -1048576<=bvZ e/\bvZ e<=1048576) {mid:Nat} {fr fr':Fr} {H:Hp} {K:AV->Fr->Hp->Prop} (hw:Wk ((0, .mp mid)::lft fr) H ((0, .mp 3)::lft fr') [(3, .gmap suT m.length (gmL 0 m)),(2,gaB)]) (hfr:fr'.all (fun q=>s3 gaO q.2)=true) (hc5:fcut 5 (lft fr')=lft fr')
  (hK:(∀e,fitB (mVal m e) 1125899906842624=true)-> ∀r,yag r (mVal m)->r.length<=1000000->K (.agg [.bool false, .sl 3 5 0 r.length]) fr' (gaH r))
  (hKb: ∀e,fitB (mVal m e) 1125899906842624=false-> ∀sn k u,K (.agg [.bool true, .nils]) fr' (gaX m sn k u)):
  yba Tryz.prog 44 [.mp mid] fr H K:=by
 have gl:=ytf 0 m
 refine yba.intro [.cell 2 26] Tryz.func44 rfl rfl (by decide) (by simp [Tryz.ntmps44]) ?_;rw [Tryz.ntmps44]
 refine WpA.wk hw ?_
 repeat' (first|omega|(try apply yaa);simp only [go_sem]|apply yab<;>(intro h_;(try simp only [h_]);revert h_)|apply And.intro|with_reducible intro h_|trivial)
 refine SpL.mapLen (kt:=83) (et:=85) rfl (by simp only [go_sem]) (by simp only [go_sem]) rfl rfl ?_
 repeat' (first|omega|(try apply yaa);simp only [go_sem,gl]|apply yab<;>(intro h_;(try simp only [h_]);revert h_)|apply And.intro|with_reducible intro h_|trivial)
 refine SpL.range (kt:=83) (et:=85) rfl (by simp only [go_sem]) (by simp only [go_sem]) rfl rfl ?_
 repeat' (first|omega|(try apply yaa);simp only [go_sem]|apply yab<;>(intro h_;(try simp only [h_]);revert h_)|apply And.intro|with_reducible intro h_|trivial)
 refine yai.intro (fun n fr1 H1=> ∃sn:List Nat,sn.Nodup/\(∀i∈sn,i<m.length)/\(∀i∈sn,fitB (suV (m.getD i (0,0,0)).2) 1125899906842624=true)/\n=m.length-sn.length/\fr1=[(13, .ptr 7 0),(3, .ptr 6 0),(2, .ptr 4 0)]++lft fr'/\
  H1=gaL m sn) ?_ ?_
 ·refine ⟨_,_,_,Wk.appC (A:=[(13, .ptr 7 0),(3, .ptr 6 0),(2, .ptr 4 0)]) hfr ?_ ?_ (yma rfl) (fun t ht=>?_) rfl,[], .nil,(fun i hi=>by cases hi),(fun i hi=>by cases hi),rfl,rfl,rfl⟩
  ·simp only [go_sem]
  ·simp only [go_sem,↓yca]
   all_goals first|exact yga _ _ _|exact ⟨rfl,rfl,rfl⟩
  ·simp only [fget]
   repeat rw [if_neg (by omega)]
 rintro n fr1 H1 ⟨sn,hn,hr,hft,rfl,rfl,rfl⟩
 repeat' (first|omega|(try apply yaa);simp only [go_sem]|apply yab<;>(intro h_;(try simp only [h_]);revert h_)|apply And.intro|with_reducible intro h_|trivial)
 refine SpL.nextG (mid:=3) (iid:=7) (since:=m.length) (last:=m.length) (t:=suT) (ck:=m.length) (seen:=sn) (l:=gmL 0 m) rfl (by simp only [go_sem]) rfl rfl rfl (fun q hq=>?_) (Nat.le_refl _) (fun hall=>?_) fun q hq hqn=>?_
 ·obtain ⟨k,u,h1,rfl⟩:=ynf hq
  have:=(List.getElem?_eq_some_iff.1 h1).1
  dsimp only;omega
 ·have hp:sn.Perm (List.range m.length):=rngP hn hr fun i hi=>by
   have:=hall _ (yx4 0 m i m[i] (List.getElem?_eq_getElem hi))
   simpa using this
  repeat' (first|omega|(try apply yaa);simp only [go_sem]|apply yab<;>(intro h_;(try simp only [h_]);revert h_)|apply And.intro|with_reducible intro h_|trivial)
  have hol:=ykt m sn
  have hsl:=rngS hn hr
  refine ⟨yae.inline (yx9 (q:=outS m sn) rfl (by omega) fun r hpr ho=>?_)⟩
  have hR:=yw7 hm.nd hp hpr ho
  have hlr:r.length=(outS m sn).length:=hpr.length_eq
  have hall: ∀e,fitB (mVal m e) 1125899906842624=true:=fun e=>by
   cases hf:yds m e with
   |none=>unfold mVal;rw [hf];rfl
   |some q=>
    have h1:=ygp hf
    obtain ⟨k,hk,hkq⟩:=List.getElem_of_mem h1
    have h2:=hft k (hp.mem_iff.2 (List.mem_range.2 hk))
    rw [List.getD_eq_getElem?_getD,List.getElem?_eq_getElem hk,Option.getD_some,hkq] at h2
    unfold mVal;rw [hf];exact h2
  have hK:=hK hall r hR (by omega)
  simp only [go_sem]
  rw [←hlr]
  refine WpA.wk (fr':=[(3, .ptr 6 0),(2, .ptr 4 0)]++lft fr') (H':=[(6, .cells 26 (.lst [.bool false, .sl 3 5 0 r.length])),(5, .cells 50 (.lst (bvC r))),(4,gaB),(2,gaB)]) (Wk.appC hfr ?_ ?_ (yma rfl) (fun t ht=>?_) rfl) ?_
  ·simp only [go_sem]
  ·simp only [go_sem,yad]
  ·simp only [fget]
   repeat rw [if_neg (by omega)]
  repeat' (first|omega|(try apply yaa);simp only [go_sem]|apply yab<;>(intro h_;(try simp only [h_]);revert h_)|apply And.intro|with_reducible intro h_|trivial)
  all_goals exact hK
 ·obtain ⟨k,u,h1,rfl⟩:=ynf hq
  have hk:k<m.length:=(List.getElem?_eq_some_iff.1 h1).1
  have hkn:k∉sn:=by simpa using hqn
  have hbk:=yn6 0 m k u h1
  rw [Nat.zero_add] at hbk
  have hu:u∈m:=List.mem_of_getElem? h1
  have hB:=hm.bn u hu
  have hv:mVal m u.1=suV u.2:=ysn hm.nd hu
  have gk:gkA suT (kE u.1)= .agg [I (bvA u.1),I (bvZ u.1)]:=by unfold gkA;rw [if_neg (by decide),ycr]
  have hnd:(sn++[k]).Nodup:=by rw [List.nodup_append];exact ⟨hn,by simp,fun a ha b hb h=>hkn (by simp at hb;rw [←hb,←h];exact ha)⟩
  have hrd: ∀i∈sn++[k],i<m.length:=fun i hi=>by
   rcases List.mem_append.1 hi with hi|hi
   ·exact hr i hi
   ·simp at hi;omega
  have hsn:=rngS hnd hrd
  rw [List.length_append] at hsn
  simp only [List.length_cons,List.length_nil] at hsn
  have hp3:=yx5 0 m
  simp only [go_sem] at hp3
  have eo:=yyb m sn h1
  obtain ⟨c,hSm,hcv⟩:=y4j u.2.1 u.2.2 (by omega) (by omega)
  rw [show u.2.1*33554432+u.2.2=suV u.2 from rfl] at hSm hcv
  have hx':=hx u.1
  rw [hv] at hx'
  dsimp only
  rw [gk,Nat.zero_add]
  have hlc:=ybf (outS m sn)
  have hol:=ykt m sn
  have gt:(suT<1000000000)=False:=eq_false (by decide)
  have gla:(sn++[k]).getLast?=some k:=by simp
  have wA:=ybh (bvA u.1) 1048576 (by decide) (by decide)
  have wZ:=ybh (bvZ u.1) 1048576 (by decide) (by decide)
  have hmk:m.getD k (0,0,0)=u:=by rw [List.getD_eq_getElem?_getD,h1];rfl
  cases hfu:fitB (suV u.2) 1125899906842624 with
  |false=>
   have hKb:=hKb u.1 (by rw [hv];exact hfu)
   rw [hfu] at hSm
   repeat' (first|omega|(try apply yaa);simp only [go_sem,gla,hbk,gt,ycr]|refine cgL ?_|refine cgD ?_|apply yab<;>(intro h_;(try simp only [h_]);revert h_)|apply And.intro|with_reducible intro h_|trivial)
   all_goals exact hKb _ _ _
  |true=>
  rw [hfu,hcv hfu] at hSm
  have hft': ∀i∈sn++[k],fitB (suV (m.getD i (0,0,0)).2) 1125899906842624=true:=fun i hi=>by
   rcases List.mem_append.1 hi with hi|hi
   ·exact hft i hi
   ·simp at hi;rw [hi,hmk];exact hfu
  by_cases h0:suV u.2=0
  ·have b0:(suV u.2==0)=true:=by rw [h0];rfl
   rw [if_pos h0,List.append_nil] at eo
   repeat' (first|omega|(try apply yaa);simp only [go_sem,gla,hbk,gt,ycr,b0]|refine cgL ?_|refine cgD ?_|apply yab<;>(intro h_;(try simp only [h_]);revert h_)|apply And.intro|with_reducible intro h_|trivial)
   refine ⟨_,_,_,?_,Wk.appC (A:=[(13, .ptr 7 0),(3, .ptr 6 0),(2, .ptr 4 0)]) hfr ?_ ?_ (yma rfl) (fun t ht=>?_) rfl,sn++[k],hnd,hrd,hft',rfl,rfl,rfl⟩
   ·rw [List.length_append];simp only [List.length_cons,List.length_nil];omega
   ·simp only [go_sem]
   ·simp only [go_sem,eo,yad]
    all_goals exact yb6 _ (fun _ _ _ _=>rfl) _ _
   ·simp only [fget]
    repeat rw [if_neg (by omega)]
    try first|rw [hc5]|rw [<-y0z,hc5]
  ·have b0:(suV u.2==0)=false:=by rw [beq_eq_false_iff_ne];exact h0
   have hx2:=hx' h0
   rw [if_neg h0] at eo
   rw [decide_eq_true (by omega),decide_eq_true (by omega),Bool.and_self] at wA wZ
   repeat' (first|omega|(try apply yaa);simp only [go_sem,gla,hbk,gt,ycr,hp3,hlc,b0]|refine cgL ?_|refine cgD ?_|apply yab<;>(intro h_;(try simp only [h_]);revert h_)|apply And.intro|with_reducible intro h_|trivial)
   refine ⟨_,_,_,?_,Wk.appC (A:=[(13, .ptr 7 0),(3, .ptr 6 0),(2, .ptr 4 0)]) hfr ?_ ?_ (yma rfl) (fun t ht=>?_) rfl,sn++[k],hnd,hrd,hft',rfl,rfl,rfl⟩
   ·rw [List.length_append];simp only [List.length_cons,List.length_nil];omega
   ·simp only [go_sem]
   ·simp only [go_sem,eo,yad,ynd,ytd,List.all_append,bvC]
    all_goals exact yb6 _ (fun _ _ _ _=>rfl) _ _
   ·simp only [fget]
    repeat rw [if_neg (by omega)]
    try first|rw [hc5]|rw [<-y0z,hc5]
theorem yj6 (m:SumM) (j:Nat) (hm:MOk m j) (hj:j<=10000000000) (hl:m.length<=1000000) (hs: ∀e,-1125899906842624<=mVal m e/\mVal m e<=1125899906842624) (hx: ∀e,mVal m e≠0->(-1048576<=bvA e/\bvA e<=1048576)/\ -1048576<=bvZ e/\bvZ e<=1048576) {mid:Nat} {fr fr':Fr} {H:Hp} {K:AV->Fr->Hp->Prop} (hw:Wk ((0, .mp mid)::lft fr) H ((0, .mp 3)::lft fr') [(3, .gmap suT m.length (gmL 0 m)),(2,gaB)]) (hfr:fr'.all (fun q=>s3 gaO q.2)=true) (hc5:fcut 5 (lft fr')=lft fr')
  (hK: ∀r,yag r (mVal m)->r.length<=1000000->K (.agg [.bool false, .sl 3 5 0 r.length]) fr' (gaH r)):
  yba Tryz.prog 44 [.mp mid] fr H K:=
 yiw m j hm hj hl hx hw hfr hc5 (fun _=>hK) fun e he=>by rw [ybx.2 (hs e)] at he;cases he
end Go.Proofs.YtfgbnalnbdhimaaGreatDoor
namespace Go.Proofs.YtfgbnalnbdhimaaGreatDoor
open Go Go.RowKit
set_option maxRecDepth 100000
set_option maxHeartbeats 8000000
set_option linter.unusedVariables false
set_option linter.unusedSimpArgs false
theorem yqu {p q r:List (Int×Int)} {f g:Int->Int} {N:Int} (c:Int) (hc:c=1\/c= -1) (hp:yag p f) (hq:yag q g) (sp:SupB f N) (sq:SupB g N) (hN:N<=150) (bp:BndB f) (bq:BndB g) (hr:yag r (fun e=>f e+c*g e)) (br:BndB fun e=>f e+c*g e):
  Fn Tryz.prog 17 [bvP false p,bvP false q,I c] (bvP false r):=by
 have lp:=hp.lenB sp hN
 have lq:=hq.lenB sq hN
 have cp:=ybf p
 have cq:=ybf q
 have mp: ∀t∈p,-1125899906842624<=t.2/\t.2<=1125899906842624:=fun t ht=>by rw [(hp.mem ht).1];exact bp _
 have mq: ∀t∈q,-1125899906842624<=t.2/\t.2<=1125899906842624:=fun t ht=>by rw [(hq.mem ht).1];exact bq _
 have M1:=MOk.nil.add (c:=1) (d:=0) (p:=p) fun t ht=>by have:=mp t ht;omega
 have M2:=M1.add (c:=c) (d:=0) (p:=q) fun t ht=>by have:=mq t ht;rcases hc with rfl|rfl<;>omega
 have hv: ∀e,mVal (mAdd c 0 (mAdd 1 0 [] p) q) e=f e+c*g e:=fun e=>by
  rw [yei,yei,yht,Int.sub_zero,hp.cf,hq.cf];omega
 have sr:SupB (fun e=>f e+c*g e) N:=sp.add sq c
 refine Fn.introL [.cell 6 26] Tryz.func17 rfl rfl (by decide) (by simp [Tryz.ntmps17]) ?_;rw [Tryz.ntmps17]
 repeat' (first|omega|(try apply yaa);simp only [go_sem]|apply yab<;>(intro h_;(try simp only [h_]);revert h_)|apply And.intro|with_reducible intro h_|trivial)
 refine SpL.makeMap (kt:=83) (et:=85) (n:=p.length+q.length) rfl (by simp only [go_sem]) (by simp only [go_sem]) rfl ?_
 repeat' (first|omega|(try apply yaa);simp only [go_sem]|apply yab<;>(intro h_;(try simp only [h_]);revert h_)|apply And.intro|with_reducible intro h_|trivial)
 refine ⟨yae.inline (yhy 1 (.inl rfl) p p q lp mp [] 0 MOk.nil (by omega) (by simp only [go_sem,suO,yad]) ?_)⟩
 repeat' (first|omega|(try apply yaa);simp only [go_sem]|apply yab<;>(intro h_;(try simp only [h_]);revert h_)|apply And.intro|with_reducible intro h_|trivial)
 refine ⟨yae.inline (yhy c hc q p q lq mq (mAdd 1 0 [] p) (0+p.length) M1 (by omega) (by simp only [go_sem,suO,yad]) ?_)⟩
 repeat' (first|omega|(try apply yaa);simp only [go_sem]|apply yab<;>(intro h_;(try simp only [h_]);revert h_)|apply And.intro|with_reducible intro h_|trivial)
 refine ⟨yae.inline (yj6 (mAdd c 0 (mAdd 1 0 [] p) q) (0+p.length+q.length) M2 (by omega) (by have:=M2.len;omega) (fun e=>by rw [hv];exact br e) (fun e he=>by rw [hv] at he;have:=sr e he;omega) (fr':=[(6, .ptr 2 0)]) (Wk.sub ?_ ?_) (by simp only [go_sem,gaO]) rfl fun r' hr' hl'=>?_)⟩
 ·simp only [go_sem]
 ·simp only [go_sem,↓yca]
  all_goals exact yb6 _ (fun _ _ _ _=>rfl) _ _
 obtain rfl:r'=r:=AscN.ext hr'.asc hr.asc fun e=>by rw [hr'.cf,hr.cf,hv]
 repeat' (first|omega|(try apply yaa);simp only [go_sem]|apply yab<;>(intro h_;(try simp only [h_]);revert h_)|apply And.intro|with_reducible intro h_|trivial)
 all_goals first
  |exact yiv _ _ ‹_›
  |exact yyc r' _
  |(rw [ybf];omega)
theorem ytk {p q r:List (Int×Int)} {f g:Int->Int} {N:Int} (hp:yag p f) (hq:yag q g) (sp:SupB f N) (sq:SupB g N) (hN:N<=150) (bp:BndB f) (bq:BndB g) (hr:yag r (fun e=>f e+1*g e)) (br:BndB fun e=>f e+1*g e):
  Fn Tryz.prog 6 [bvP false p,bvP false q] (bvP false r):=by
 have h:=yqu 1 (.inl rfl) hp hq sp sq hN bp bq hr br
 refine Fn.introL [.cell 4 26] Tryz.func6 rfl rfl (by decide) (by simp [Tryz.ntmps6]) ?_;rw [Tryz.ntmps6]
 repeat' (first|omega|(try apply yaa);simp only [go_sem,yad]|refine cgL ?_|refine cgD ?_|apply yab<;>(intro h_;(try simp only [h_]);revert h_)|apply And.intro|with_reducible intro h_|trivial)
 all_goals exact LeA.refl _
theorem ytl {p q r:List (Int×Int)} {f g:Int->Int} {N:Int} (hp:yag p f) (hq:yag q g) (sp:SupB f N) (sq:SupB g N) (hN:N<=150) (bp:BndB f) (bq:BndB g) (hr:yag r (fun e=>f e+ -1*g e)) (br:BndB fun e=>f e+ -1*g e):
  Fn Tryz.prog 33 [bvP false p,bvP false q] (bvP false r):=by
 have h:=yqu (-1) (.inr rfl) hp hq sp sq hN bp bq hr br
 refine Fn.introL [.cell 4 26] Tryz.func33 rfl rfl (by decide) (by simp [Tryz.ntmps33]) ?_;rw [Tryz.ntmps33]
 repeat' (first|omega|(try apply yaa);simp only [go_sem,yad]|refine cgL ?_|refine cgD ?_|apply yab<;>(intro h_;(try simp only [h_]);revert h_)|apply And.intro|with_reducible intro h_|trivial)
 all_goals exact LeA.refl _
theorem yyd {p q:List (Int×Int)} {f g:Int->Int} {N:Int} (hp:yag p f) (hq:yag q g) (sp:SupB f N) (sq:SupB g N) (hN:N<=150) (bp:BndB f) (bq:BndB g) {e0:Int} (hr:fitB (f e0+1*g e0) 1125899906842624=false):
  Fn Tryz.prog 17 [bvP false p,bvP false q,I 1] (bvP true []):=by
 have lp:=hp.lenB sp hN
 have lq:=hq.lenB sq hN
 have cp:=ybf p
 have cq:=ybf q
 have mp: ∀t∈p,-1125899906842624<=t.2/\t.2<=1125899906842624:=fun t ht=>by rw [(hp.mem ht).1];exact bp _
 have mq: ∀t∈q,-1125899906842624<=t.2/\t.2<=1125899906842624:=fun t ht=>by rw [(hq.mem ht).1];exact bq _
 have M1:=MOk.nil.add (c:=1) (d:=0) (p:=p) fun t ht=>by have:=mp t ht;omega
 have M2:=M1.add (c:=1) (d:=0) (p:=q) fun t ht=>by have:=mq t ht;omega
 have hv: ∀e,mVal (mAdd 1 0 (mAdd 1 0 [] p) q) e=f e+1*g e:=fun e=>by
  rw [yei,yei,yht,Int.sub_zero,hp.cf,hq.cf];omega
 have sr:SupB (fun e=>f e+1*g e) N:=sp.add sq 1
 refine Fn.introL [.cell 6 26] Tryz.func17 rfl rfl (by decide) (by simp [Tryz.ntmps17]) ?_;rw [Tryz.ntmps17]
 repeat' (first|omega|(try apply yaa);simp only [go_sem]|apply yab<;>(intro h_;(try simp only [h_]);revert h_)|apply And.intro|with_reducible intro h_|trivial)
 refine SpL.makeMap (kt:=83) (et:=85) (n:=p.length+q.length) rfl (by simp only [go_sem]) (by simp only [go_sem]) rfl ?_
 repeat' (first|omega|(try apply yaa);simp only [go_sem]|apply yab<;>(intro h_;(try simp only [h_]);revert h_)|apply And.intro|with_reducible intro h_|trivial)
 refine ⟨yae.inline (yhy 1 (.inl rfl) p p q lp mp [] 0 MOk.nil (by omega) (by simp only [go_sem,suO,yad]) ?_)⟩
 repeat' (first|omega|(try apply yaa);simp only [go_sem]|apply yab<;>(intro h_;(try simp only [h_]);revert h_)|apply And.intro|with_reducible intro h_|trivial)
 refine ⟨yae.inline (yhy 1 (.inl rfl) q p q lq mq (mAdd 1 0 [] p) (0+p.length) M1 (by omega) (by simp only [go_sem,suO,yad]) ?_)⟩
 repeat' (first|omega|(try apply yaa);simp only [go_sem]|apply yab<;>(intro h_;(try simp only [h_]);revert h_)|apply And.intro|with_reducible intro h_|trivial)
 refine ⟨yae.inline (yiw (mAdd 1 0 (mAdd 1 0 [] p) q) (0+p.length+q.length) M2 (by omega) (by have:=M2.len;omega) (fun e he=>by rw [hv] at he;have:=sr e he;omega) (fr':=[(6, .ptr 2 0)]) (Wk.sub ?_ ?_) (by simp only [go_sem,gaO]) rfl (fun hall r' hr' hl'=>?_) (fun e he sn k u=>?_))⟩
 ·simp only [go_sem]
 ·simp only [go_sem,↓yca]
  all_goals exact yb6 _ (fun _ _ _ _=>rfl) _ _
 ·have:=hall e0
  rw [hv,hr] at this;cases this
 repeat' (first|omega|(try apply yaa);simp only [go_sem]|apply yab<;>(intro h_;(try simp only [h_]);revert h_)|apply And.intro|with_reducible intro h_|trivial)
 all_goals first
  |exact LeA.refl _
  |exact LeA.aggL (.cons (LeA.refl _) (.cons (LeA.nils (by omega) rfl) .nil))
theorem y1d {p q:List (Int×Int)} {f g:Int->Int} {N:Int} (hp:yag p f) (hq:yag q g) (sp:SupB f N) (sq:SupB g N) (hN:N<=150) (bp:BndB f) (bq:BndB g) {e0:Int} (hr:fitB (f e0+1*g e0) 1125899906842624=false):
  Fn Tryz.prog 6 [bvP false p,bvP false q] (bvP true []):=by
 have h:=yyd hp hq sp sq hN bp bq hr
 refine Fn.introL [.cell 4 26] Tryz.func6 rfl rfl (by decide) (by simp [Tryz.ntmps6]) ?_;rw [Tryz.ntmps6]
 repeat' (first|omega|(try apply yaa);simp only [go_sem,yad]|refine cgL ?_|refine cgD ?_|apply yab<;>(intro h_;(try simp only [h_]);revert h_)|apply And.intro|with_reducible intro h_|trivial)
 all_goals exact LeA.refl _
theorem yk2 (b c:Bool) (p q:List (Int×Int)) (h:b=true\/c=true):Fn Tryz.prog 6 [bvP b p,bvP c q] (bvP true []):=by
 have hP:Fn Tryz.prog 17 [bvP b p,bvP c q,I 1] (bvP true []):=by
  rcases h with rfl|rfl
  ·refine Fn.introL [.cell 6 26] Tryz.func17 rfl rfl (by decide) (by simp [Tryz.ntmps17]) ?_;rw [Tryz.ntmps17]
   repeat' (first|omega|(try apply yaa);simp only [go_sem,yad]|refine cgL ?_|refine cgD ?_|apply yab<;>(intro h_;(try simp only [h_]);revert h_)|apply And.intro|with_reducible intro h_|trivial)
   all_goals exact LeA.aggL (.cons (LeA.refl _) (.cons (LeA.nils (by omega) rfl) .nil))
  ·cases b
   ·refine Fn.introL [.cell 6 26] Tryz.func17 rfl rfl (by decide) (by simp [Tryz.ntmps17]) ?_;rw [Tryz.ntmps17]
    repeat' (first|omega|(try apply yaa);simp only [go_sem,yad]|refine cgL ?_|refine cgD ?_|apply yab<;>(intro h_;(try simp only [h_]);revert h_)|apply And.intro|with_reducible intro h_|trivial)
    all_goals exact LeA.aggL (.cons (LeA.refl _) (.cons (LeA.nils (by omega) rfl) .nil))
   ·refine Fn.introL [.cell 6 26] Tryz.func17 rfl rfl (by decide) (by simp [Tryz.ntmps17]) ?_;rw [Tryz.ntmps17]
    repeat' (first|omega|(try apply yaa);simp only [go_sem,yad]|refine cgL ?_|refine cgD ?_|apply yab<;>(intro h_;(try simp only [h_]);revert h_)|apply And.intro|with_reducible intro h_|trivial)
    all_goals exact LeA.aggL (.cons (LeA.refl _) (.cons (LeA.nils (by omega) rfl) .nil))
 refine Fn.introL [.cell 4 26] Tryz.func6 rfl rfl (by decide) (by simp [Tryz.ntmps6]) ?_;rw [Tryz.ntmps6]
 repeat' (first|omega|(try apply yaa);simp only [go_sem,yad]|refine cgL ?_|refine cgD ?_|apply yab<;>(intro h_;(try simp only [h_]);revert h_)|apply And.intro|with_reducible intro h_|trivial)
 all_goals exact LeA.refl _
end Go.Proofs.YtfgbnalnbdhimaaGreatDoor
namespace Go.Proofs.YtfgbnalnbdhimaaGreatDoor
open Go Go.RowKit
set_option maxRecDepth 100000
set_option maxHeartbeats 8000000
set_option linter.unusedVariables false
set_option linter.unusedSimpArgs false
def bvO:Option (List (Int×Int))->AV
 |some p=>bvP false p
 |none=>bvP true []
def trmO (c a z:Int):Option (List (Int×Int)):=if c=0 then some [] else if fitB c 1125899906842624 then some [(bvE a z,c)] else none
structure OkB (p:List (Int×Int)):Prop where
 asc:AscN p
 fit:yd8 p
 exp: ∀t∈p,(-20<=bvA t.1/\bvA t.1<=20)/\ -20<=bvZ t.1/\bvZ t.1<=20
theorem OkB.nil:OkB []:=⟨AscN.nil,fun _ h=>(nomatch h),fun _ h=>(nomatch h)⟩
theorem OkB.sup {p:List (Int×Int)} (h:OkB p):SupB (cfL p) 20:=fun e he=>by
 obtain ⟨t,ht,rfl⟩:=yg4 he
 exact h.exp t ht
theorem OkB.bnd {p:List (Int×Int)} (h:OkB p):BndB (cfL p):=fun e=>by
 by_cases h0:cfL p e=0
 ·rw [h0];decide
 ·obtain ⟨t,ht,rfl⟩:=yg4 h0
  rw [yd1 h.asc ht];exact h.fit t ht
theorem OkB.trm {c a z:Int} (ha: -20<=a/\a<=20) (hz: -20<=z/\z<=20): ∀{p},trmO c a z=some p->OkB p:=by
 intro p h
 unfold trmO at h
 split at h
 ·cases h;exact OkB.nil
 ·split at h
  ·rename_i h0 hf
   cases h
   have hf:=ybx.1 hf
   refine ⟨⟨by simp,fun t ht=>by rw [List.mem_singleton.1 ht];exact h0⟩,fun t ht=>by rw [List.mem_singleton.1 ht];exact hf,fun t ht=>?_⟩
   rw [List.mem_singleton.1 ht,yet (by omega),yc2 (by omega)]
   exact ⟨ha,hz⟩
  ·cases h
def adBO:Option (List (Int×Int))->Option (List (Int×Int))->Option (List (Int×Int))
 |some p,some q=>addO p q
 |_,_=>none
theorem OkB.add {P Q:Option (List (Int×Int))} (hP: ∀p,P=some p->OkB p) (hQ: ∀q,Q=some q->OkB q): ∀r,adBO P Q=some r->OkB r:=by
 intro r h
 match P,Q,h with
 |some p,some q,h=>
  have h1:=hP p rfl
  have h2:=hQ q rfl
  obtain ⟨g1,g2⟩:=yny h1.asc h2.asc h
  refine ⟨g1.asc,fun t ht=>?_,fun t ht=>?_⟩
  ·rw [(g1.mem ht).1];exact ybx.1 (g2 _)
  ·have:=(g1.mem ht).2
   by_cases h3:cfL p t.1=0
   ·exact h2.sup _ (by omega)
   ·exact h1.sup _ h3
theorem yn7 (c a z:Int) (ha: -20<=a/\a<=20) (hz: -20<=z/\z<=20):Fn Tryz.prog 5 [I c,I a,I z] (bvO (trmO c a z)):=by
 unfold trmO
 by_cases h0:c=0
 ·subst h0
  rw [if_pos rfl]
  refine Fn.introL [.cell 6 26] Tryz.func5 rfl rfl (by decide) (by simp [Tryz.ntmps5]) ?_;rw [Tryz.ntmps5]
  repeat' (first|omega|(try apply yaa);simp only [go_sem,yad]|refine cgL ?_|refine cgD ?_|apply yab<;>(intro h_;(try simp only [h_]);revert h_)|apply And.intro|with_reducible intro h_|trivial)
  all_goals exact LeA.aggL (.cons (LeA.refl _) (.cons (LeA.nils (by omega) rfl) .nil))
 rw [if_neg h0]
 cases hf:fitB c 1125899906842624 with
 |true=>
  have:=ybx.1 hf
  exact yhx c a z h0 this (by omega) (by omega)
 |false=>
  have bc:(c==0)=false:=by rw [beq_eq_false_iff_ne];exact h0
  by_cases hc: -4611686018427387904<=c/\c<=4611686018427387904
  all_goals
   have h1:=ybh c 1125899906842624 (by decide) (by decide)
   rw [show (decide (-1125899906842624<=c)&&decide (c<=1125899906842624))=false from hf] at h1
   refine Fn.introL [.cell 6 26] Tryz.func5 rfl rfl (by decide) (by simp [Tryz.ntmps5]) ?_;rw [Tryz.ntmps5]
   repeat' (first|omega|(try apply yaa);simp only [go_sem,bc]|refine cgL ?_|refine cgD ?_|apply yab<;>(intro h_;(try simp only [h_]);revert h_)|apply And.intro|with_reducible intro h_|trivial)
   all_goals exact LeA.aggL (.cons (LeA.refl _) (.cons (LeA.nils (by omega) rfl) .nil))
theorem y1e {P Q:Option (List (Int×Int))} (hP: ∀p,P=some p->OkB p) (hQ: ∀q,Q=some q->OkB q):Fn Tryz.prog 6 [bvO P,bvO Q] (bvO (adBO P Q)):=by
 match P,Q with
 |none,none=>exact yk2 true true [] [] (.inl rfl)
 |none,some q=>exact yk2 true false [] q (.inl rfl)
 |some p,none=>exact yk2 false true p [] (.inr rfl)
 |some p,some q=>
  have h1:=hP p rfl
  have h2:=hQ q rfl
  have p1:yag p (cfL p):=⟨h1.asc,fun _=>rfl⟩
  have p2:yag q (cfL q):=⟨h2.asc,fun _=>rfl⟩
  show Fn _ _ _ (bvO (addO p q))
  cases h:addO p q with
  |none=>
   obtain ⟨e,he⟩:=yw3 h1.asc h2.asc h
   exact y1d p1 p2 h1.sup h2.sup (by decide) h1.bnd h2.bnd (e0:=e) (by rw [Int.one_mul];exact he)
  |some r=>
   obtain ⟨g1,g2⟩:=yny h1.asc h2.asc h
   exact ytk p1 p2 h1.sup h2.sup (by decide) h1.bnd h2.bnd (g1.congr fun e=>by rw [Int.one_mul]) fun e=>by have:=ybx.1 (g2 e);dsimp only;omega
end Go.Proofs.YtfgbnalnbdhimaaGreatDoor
set_option linter.unusedSimpArgs false
set_option linter.unusedVariables false
namespace Go.Proofs.YtfgbnalnbdhimaaGreatDoor
open Go Go.RowKit
def lowB (ops:Array Oper):Bool:=(List.range ops.size).all fun j=>(ybb (ops.getD j default)).all fun i=>decide (i<j)
def updE (E:Nat->Bool) (j:Nat):Nat->Bool:=fun i=>if i=j then true else E i
section
variable {P:Program} {N:Nat} {ops:Array Oper}
theorem setE {listed:Array Bool} {j:Nat} (hj:j<listed.size):(fun i=>(listed.setIfInBounds j true).getD i false)=updE (fun i=>listed.getD i false) j:=by
 funext i
 unfold updE
 by_cases h:i=j
 ·subst h;simp [hj]
 ·rw [if_neg h];simp [Array.getElem?_setIfInBounds,Ne.symm h]
theorem wpV {B:Nat} {w0:ybi} {Mx:Nat->Prop} {K:Fr->Hp->Prop} (Inv:(Nat->Bool)->Fr->Hp->Prop) (Post:(Nat->Bool)->Nat->Fr->Hp->Prop) (hlow:lowB ops=true)
  (hstep: ∀E j fr H,j<ops.size->E j=false->(∀e∈ybb (ops.getD j default),E e=true)->Inv E fr H->awL P N ops [ops.getD j default] fr H (Post E j))
  (hpost: ∀E j fr H fr' H',j<ops.size->E j=false->(∀e∈ybb (ops.getD j default),E e=true)->Inv E fr H->Post E j fr' H'-> ∃fr1 H1,Wk fr' H' fr1 H1/\Inv (updE E j) fr1 H1)
  (hend: ∀E fr H,(∀i,i<ops.size->E i=true)->Inv E fr H->K fr H) (Q:Exit->Act->World->Prop) (hQ: ∀a' w' ρ' fr' H',K fr' H'->Sim B w0 Mx N w' ρ' fr' H' a'->Q .normal a' w'):
  ∀(f:Nat) (listed:Array Bool) (w:World) (ρ:Nat->Addr) (fr:Fr) (H:Hp) (a:Act),listed.size=ops.size->cntE (fun i=>listed.getD i false) ops.size+f=ops.size->Inv (fun i=>listed.getD i false) fr H->Sim B w0 Mx N w ρ fr H a->wpAny P .any ops Q f listed a w:=by
 intro f
 induction f with
 |zero=>
  intro listed w ρ fr H a hsz hc hi hs
  have hall:=yki ops.size hc
  exact ⟨yig hsz hall,hQ _ _ ρ _ _ (hend _ _ _ hall hi) hs⟩
 |succ f ih=>
  intro listed w ρ fr H a hsz hc hi hs
  refine ⟨fun hnil=>?_,fun j hj=>?_⟩
  ·exfalso
   have gen: ∀m,(∀i,i<m->listed.getD i false=true)\/ ∃j,j<m/\listed.getD j false=false/\ ∀i,i<j->listed.getD i false=true:=by
    intro m
    induction m with
    |zero=>exact .inl fun i hi=>by omega
    |succ m ihm=>
     rcases ihm with h|⟨j,h1,h2⟩
     ·rcases Bool.eq_false_or_eq_true (listed.getD m false) with hm|hm
      ·refine .inl fun i hi=>?_
       rcases Nat.lt_or_eq_of_le (Nat.le_of_lt_succ hi) with h'|h'
       ·exact h i h'
       ·rw [h'];exact hm
      ·exact .inr ⟨m,by omega,hm,h⟩
     ·exact .inr ⟨j,by omega,h2⟩
   rcases gen ops.size with h|⟨j,hj,hf,hsm⟩
   ·have hcall: ∀k,k<=ops.size->cntE (fun i=>listed.getD i false) k=k:=by
     intro k
     induction k with
     |zero=>intro _;rfl
     |succ k ihk=>intro hk;simp only [cntE,ihk (by omega),h k (by omega),if_true]
    rw [hcall _ (Nat.le_refl _)] at hc;omega
   ·have:j∈Region.ready .any ops listed:=mem_ready.2 ⟨by
     have hjl:j<listed.size:=by omega
     simpa [hjl] using hf,ops[j],by simp [hj],fun e he hbd=>hsm _ (by
      have h1:=List.all_eq_true.1 hlow j (List.mem_range.2 hj)
      have h2:=List.all_eq_true.1 h1 e.on (by
       simp only [ybb,List.mem_map,List.mem_filter]
       exact ⟨e,⟨by simpa [hj] using he,hbd⟩,rfl⟩)
      exact of_decide_eq_true h2)⟩
    rw [hnil] at this;cases this
  ·obtain ⟨g1,o,g2,g3⟩:=mem_ready.1 hj
   have hj':j<ops.size:=(Array.getElem?_eq_some_iff.1 g2).1
   have hjl:j<listed.size:=by omega
   have hEj:listed.getD j false=false:=by simpa [hjl] using g1
   have ho:ops.getD j default=o:=by simp [g2]
   have hed: ∀e∈ybb (ops.getD j default),listed.getD e false=true:=fun e he=>by
    rw [ho] at he
    simp only [ybb,List.mem_map,List.mem_filter] at he
    obtain ⟨x,⟨hx1,hx2⟩,rfl⟩:=he
    exact g3 x (by simpa using hx1) hx2
   have h1:=hstep _ j fr H hj' hEj hed hi
   rw [ho] at h1
   have hse:=setE hjl
   have hcn:=ykj (E:=fun i=>listed.getD i false) (E':=updE (fun i=>listed.getD i false) j) hEj (by simp [updE]) (fun i hi=>by simp [updE,hi]) ops.size
   rw [if_pos hj'] at hcn
   refine yho g2 h1 hs _ _ fun a' w' ρ' fr' H' hk hs'=>?_
   obtain ⟨fr1,H1,hw,hk⟩:=hpost _ j fr H fr' H' hj' hEj hed hi hk
   obtain ⟨ρ2,hs2⟩:=hw _ _ _ _ _ _ _ hs'
   refine ih _ _ ρ2 fr1 H1 a' (by simpa using hsz) ?_ (by rw [hse];exact hk) hs2
   rw [hse,hcn];omega
theorem ya2.introV {id:Nat} {fr:Fr} {H:Hp} {Q:Exit->Fr->Hp->Prop} (Inv:(Nat->Bool)->Fr->Hp->Prop) (Post:(Nat->Bool)->Nat->Fr->Hp->Prop) (hlow:lowB ops=true) (hm:P.follows .mixedOrders=true) (h0:Inv (fun _=>false) fr H)
  (hstep: ∀E j fr H,j<ops.size->E j=false->(∀e∈ybb (ops.getD j default),E e=true)->Inv E fr H->awL P N ops [ops.getD j default] fr H (Post E j))
  (hpost: ∀E j fr H fr' H',j<ops.size->E j=false->(∀e∈ybb (ops.getD j default),E e=true)->Inv E fr H->Post E j fr' H'-> ∃fr1 H1,Wk fr' H' fr1 H1/\Inv (updE E j) fr1 H1)
  (hend: ∀E fr H,(∀i,i<ops.size->E i=true)->Inv E fr H->Q .normal fr H):ya2 P N id ops fr H Q:=by
 have e0:(fun i=>(Array.replicate ops.size false).getD i false)=fun _=>false:=by funext i;simp [Array.getElem?_replicate];split<;>rfl
 have c0: ∀k,cntE (fun _=>false) k=0:=fun k=>by
  induction k with
  |zero=>rfl
  |succ k ih=>simp only [cntE,ih];rfl
 exact ⟨fun _ _ _ _ ρ a hs=>wp_region_any hm (wpV Inv Post hlow hstep hpost hend _ (fun _ _ ρ' fr' H' hk hs'=>⟨ρ',fr',H',hk,hs'⟩) ops.size _ _ ρ fr H a (by simp) (by rw [e0,c0];omega) (by rw [e0];exact h0) hs.draw)⟩
abbrev frW (ops:Array Oper) (vals:List AV) (fr0:Fr) (E:Nat->Bool):Fr:=frS ops (fun j=> .quiet (vals.getD j .any)) fr0 E ops.size
def dNod (ops:Array Oper):Bool:=(List.range ops.size).all fun j=>(List.range ops.size).all fun i=>(i==j)||(yal ops i).isNone||decide (yal ops i≠yal ops j)
theorem y4k {vals:List AV} {fr0:Fr} {E:Nat->Bool} (hnod:dNod ops=true) {j d:Nat} (hj:j<ops.size) (hd:yal ops j=some d) (hE:E j=true):fget (frW ops vals fr0 E) d=vals.getD j .any:=by
 have h:=ymp (es:=fun j=> .quiet (vals.getD j .any)) (fr0:=fr0) (E:=E) (E':=E) (ops:=ops) hj hE (fun _ _=>rfl) (fun i h1 h2 h3 d' hd'=>by
  have a:=List.all_eq_true.1 (List.all_eq_true.1 hnod j (List.mem_range.2 hj)) i (List.mem_range.2 h2)
  simp only [Bool.or_eq_true,beq_iff_eq,decide_eq_true_eq] at a
  rcases a with (a|a)|a
  ·omega
  ·rw [hd'] at a;cases a
  ·rw [←hd'];exact fun e=>a e.symm) d
 rw [h,hd]
 simp [fput,fget,Ent.val]
theorem y4l {vals:List AV} {fr0:Fr} {E:Nat->Bool} {t:Nat} (h: ∀j,j<ops.size->yal ops j≠some t):fget (frW ops vals fr0 E) t=fget fr0 t:=by
 have g: ∀k,k<=ops.size->fget (frS ops (fun j=> .quiet (vals.getD j .any)) fr0 E k) t=fget fr0 t:=fun k=>by
  induction k with
  |zero=>intro _;rfl
  |succ k ih=>
   intro hk
   have hn:=h k (by omega)
   simp only [frS]
   split
   ·rcases hd:yal ops k with _|d
    ·simp only [fput];exact ih (by omega)
    ·rw [hd] at hn
     simp only [fput,fget]
     rw [if_neg (fun e=>hn (by rw [e]))]
     exact ih (by omega)
   ·exact ih (by omega)
 exact g _ (Nat.le_refl _)
theorem ya2.introW {id:Nat} {fr:Fr} {H:Hp} {Q:Exit->Fr->Hp->Prop} (vals:List AV) (fr0:Fr) (HE:(Nat->Bool)->Hp) (hlow:lowB ops=true) (hnod:dNod ops=true) (hm:P.follows .mixedOrders=true) (h0:Wk fr H fr0 (HE fun _=>false))
  (hstep: ∀E j,j<ops.size->E j=false->(∀e∈ybb (ops.getD j default),E e=true)->(∀i,i<ops.size->E i=true-> ∀e∈ybb (ops.getD i default),E e=true)->
   awL P N ops [ops.getD j default] (frW ops vals fr0 E) (HE E) fun fr' H'=>Wk fr' H' (fput (frW ops vals fr0 E) (yal ops j) (vals.getD j .any)) (HE (updE E j)))
  (hend: ∀E,(∀i,i<ops.size->E i=true)->Q .normal (frW ops vals fr0 E) (HE E)):ya2 P N id ops fr H Q:=by
 have h:ya2 P N id ops fr0 (HE fun _=>false) Q:=by
  refine ya2.introV (fun E fr H=>(∀i,i<ops.size->E i=true-> ∀e∈ybb (ops.getD i default),E e=true)/\fr=frW ops vals fr0 E/\H=HE E) (fun E j fr' H'=>Wk fr' H' (fput (frW ops vals fr0 E) (yal ops j) (vals.getD j .any)) (HE (updE E j))) hlow hm ⟨fun i _ h=>(nomatch h),?_,rfl⟩ (fun E j fr H hj hE he hI=>?_) (fun E j fr H fr' H' hj hE he hI hw=>?_) (fun E fr H hE hI=>?_)
  ·have g: ∀k,frS ops (fun j=> .quiet (vals.getD j .any)) fr0 (fun _=>false) k=fr0:=fun k=>by
    induction k with
    |zero=>rfl
    |succ k ih=>simp only [frS];exact ih
   exact (g _).symm
  ·obtain ⟨hcl,rfl,rfl⟩:=hI
   exact hstep E j hj hE he hcl
  ·obtain ⟨hcl,rfl,rfl⟩:=hI
   refine ⟨_,_,hw.trans fun _ _ _ _ _ ρ _ hs=>⟨ρ,hs.congr (fr':=frW ops vals fr0 (updE E j)) (fun t=>?_) fun _=>rfl⟩,⟨fun i hi hEi e hei=>?_,rfl,rfl⟩⟩
   ·exact ymp hj (by simp [updE]) (fun i hi=>by simp [updE,hi]) (fun i h1 h2 h3 d hd=>by
     have a:=List.all_eq_true.1 (List.all_eq_true.1 hnod j (List.mem_range.2 hj)) i (List.mem_range.2 h2)
     simp only [Bool.or_eq_true,beq_iff_eq,decide_eq_true_eq] at a
     rcases a with (a|a)|a
     ·omega
     ·rw [hd] at a;cases a
     ·rw [←hd];exact fun e=>a e.symm) t
   ·unfold updE at hEi⊢
    split
    ·rfl
    ·by_cases hij:i=j
     ·subst hij;exact he e hei
     ·rw [if_neg hij] at hEi;exact hcl i hi hEi e hei
  ·obtain ⟨_,rfl,rfl⟩:=hI
   exact hend E hE
 exact ⟨fun B w0 Mx w ρ a hs=>by obtain ⟨ρ',hs'⟩:=h0 _ _ _ _ _ _ _ hs;exact h.out B w0 Mx w ρ' a hs'⟩
theorem y4m {vals:List AV} {fr0:Fr} {E:Nat->Bool} (f:AV->Prop) (ha:f .any) (h0: ∀q∈fr0,f q.2) (hv: ∀x∈vals,f x): ∀q∈frW ops vals fr0 E,f q.2:=by
 have g: ∀k,∀q∈frS ops (fun j=> .quiet (vals.getD j .any)) fr0 E k,f q.2:=fun k=>by
  induction k with
  |zero=>exact h0
  |succ k ih=>
   intro q hq
   simp only [frS] at hq
   split at hq
   ·rcases hd:yal ops k with _|d
    ·rw [hd] at hq;exact ih q hq
    ·rw [hd] at hq
     simp only [fput] at hq
     rcases List.mem_cons.1 hq with rfl|hq
     ·simp only [Ent.val]
      rw [List.getD_eq_getElem?_getD]
      rcases hx:vals[k]? with _|x
      ·exact ha
      ·exact hv x (List.mem_of_getElem? hx)
     ·exact ih q hq
   ·exact ih q hq
 exact g _
structure ygb (ops:Array Oper) (vals:List AV) (fr0:Fr) (E:Nat->Bool) (F:Fr):Prop where
 res: ∀i d,i<ops.size->yal ops i=some d->E i=true->fget F d=vals.getD i .any
 old: ∀t,(∀j,j<ops.size->yal ops j≠some t)->fget F t=fget fr0 t
 all: ∀f:AV->Prop,f .any->(∀q∈fr0,f q.2)->(∀x∈vals,f x)-> ∀q∈F,f q.2
theorem ygb.of {vals:List AV} {fr0:Fr} {E:Nat->Bool} (hnod:dNod ops=true):ygb ops vals fr0 E (frW ops vals fr0 E):=
 ⟨fun _ _ hi hd hE=>y4k hnod hi hd hE,fun _ h=>y4l h,fun f ha h0 hv=>y4m f ha h0 hv⟩
def ymb (P:Program) (N:Nat) (ops:Array Oper) (vals:List AV) (fr0:Fr) (HE:(Nat->Bool)->Hp):Nat->List Oper->Prop
 |_,[]=>True
 |j,o::r=>(∀E F,E j=false->(∀e∈ybb o,E e=true)->(∀i,i<ops.size->E i=true-> ∀e∈ybb (ops.getD i default),E e=true)->ygb ops vals fr0 E F->
  awL P N ops [o] F (HE E) fun fr' H'=>Wk fr' H' (fput F o.dst (vals.getD j .any)) (HE (updE E j)))/\ymb P N ops vals fr0 HE (j+1) r
theorem yn8 {vals:List AV} {fr0:Fr} {HE:(Nat->Bool)->Hp}: ∀(l:List Oper) (j:Nat),ymb P N ops vals fr0 HE j l-> ∀k o,l[k]?=some o-> ∀E F,E (j+k)=false->(∀e∈ybb o,E e=true)->(∀i,i<ops.size->E i=true-> ∀e∈ybb (ops.getD i default),E e=true)->ygb ops vals fr0 E F->
   awL P N ops [o] F (HE E) fun fr' H'=>Wk fr' H' (fput F o.dst (vals.getD (j+k) .any)) (HE (updE E (j+k)))
 |[],j,_,k,o,h=>by simp at h
 |o'::r,j,hs,0,o,h=>by cases h;exact hs.1
 |o'::r,j,hs,k+1,o,h=>by
  have:=yn8 r (j+1) hs.2 k o (by simpa using h)
  rwa [show j+1+k=j+(k+1) by omega] at this
theorem ya2.introX {id:Nat} {fr:Fr} {H:Hp} {Q:Exit->Fr->Hp->Prop} (vals:List AV) (fr0:Fr) (HE:(Nat->Bool)->Hp) (hlow:lowB ops=true) (hnod:dNod ops=true) (hm:P.follows .mixedOrders=true) (h0:Wk fr H fr0 (HE fun _=>false))
  (hstep:ymb P N ops vals fr0 HE 0 ops.toList) (hend: ∀E F,(∀i,i<ops.size->E i=true)->ygb ops vals fr0 E F->Q .normal F (HE E)):ya2 P N id ops fr H Q:=
 ya2.introW vals fr0 HE hlow hnod hm h0 (fun E j hj hE he hcl=>by
  have hj':ops.toList[j]?=some (ops.getD j default):=by simp [hj]
  have h:=yn8 ops.toList 0 hstep j _ hj' E _ (by rwa [Nat.zero_add]) he hcl (ygb.of hnod)
  rw [Nat.zero_add] at h
  rw [show yal ops j=(ops.getD j default).dst by unfold yal;simp [hj]]
  exact h) fun E hE=>hend E _ hE (ygb.of hnod)
end
end Go.Proofs.YtfgbnalnbdhimaaGreatDoor
namespace Go.Proofs.YtfgbnalnbdhimaaGreatDoor
open Go Go.RowKit
set_option maxRecDepth 100000
set_option maxHeartbeats 8000000
set_option linter.unusedVariables false
set_option linter.unusedSimpArgs false
def mx2 (a b:Int):Int:=if a<b then b else a
def bvHt (p:List (Int×Int)):Nat->Int
 |0=>0
 |k+1=>mx2 (mx2 (bvHt p k) (p.getD k (0,0)).2) (-(p.getD k (0,0)).2)
theorem yh1 {p:List (Int×Int)} {B:Int} (h0:0<=B) (h: ∀i,-B<=(p.getD i (0,0)).2/\(p.getD i (0,0)).2<=B): ∀k,0<=bvHt p k/\bvHt p k<=B
 |0=>⟨Int.le_refl _,h0⟩
 |k+1=>by
  have:=yh1 h0 h k
  have:=h k
  simp only [bvHt,mx2]
  split<;>split<;>omega
theorem ymc (p:List (Int×Int)) (hp:p.length<=100000) (hb: ∀i,-1125899906842624<=(p.getD i (0,0)).2/\(p.getD i (0,0)).2<=1125899906842624):Fn Tryz.prog 99 [bvP false p] (I (bvHt p p.length)):=by
 have hc:=ybf p
 have hB:=yh1 (p:=p) (B:=1125899906842624) (by decide) hb
 refine Fn.intro [.tmp 2] Tryz.func99 rfl rfl (by decide) (by simp [Tryz.ntmps99]) ?_;rw [Tryz.ntmps99]
 repeat' (first|omega|(try apply yaa);simp only [go_sem,hc]|apply yab<;>(intro h_;(try simp only [h_]);revert h_)|apply And.intro|with_reducible intro h_|trivial)
 refine yai.intro (fun n fr H=> ∃k:Nat,k<=p.length/\n=p.length-k/\fr=[(9,I k),(8,I p.length),(7,bvT p),(3,I (bvHt p k))]/\H=[]) ?_ ?_
 ·refine ⟨_,_,_,Wk.sub ?_ ?_,0,by omega,rfl,rfl,rfl⟩
  ·simp only [go_sem,yad,bvHt]
  ·simp only [go_sem]
 rintro n fr H ⟨k,hk,rfl,rfl,rfl⟩
 have hBk:=hB k
 by_cases hkl:k<p.length
 ·have bk:decide ((k:Int)<p.length)=true:=by simp;omega
  obtain ⟨g0,g1,g2⟩:=yco p k hkl
  have hv:=hb k
  have es:bvHt p (k+1)=mx2 (mx2 (bvHt p k) (p.getD k (0,0)).2) (-(p.getD k (0,0)).2):=rfl
  generalize bvA (p.getD k (0,0)).1=x at*
  generalize bvZ (p.getD k (0,0)).1=y at*
  generalize (p.getD k (0,0)).2=v at*
  have es2:bvHt p (k+1)=mx2 (mx2 (bvHt p k) v) (0-v):=by rw [es];congr 1;omega
  unfold mx2 at es2
  generalize bvHt p k=h at*
  repeat' (first|omega|(try apply yaa);simp only [go_sem,bk,hc,g0,g1,g2]|apply yab<;>(intro h_;(try simp only [h_]);revert h_)|apply And.intro|with_reducible intro h_|trivial)
  refine ⟨_,_,_,?_,Wk.sub ?_ ?_,k+1,by omega,rfl,rfl,rfl⟩
  ·omega
  ·simp only [go_sem,yad,es2]
  ·simp only [go_sem]
 ·obtain rfl:k=p.length:=by omega
  have bk:decide ((p.length:Int)<p.length)=false:=by simp
  repeat' (first|omega|(try apply yaa);simp only [go_sem,bk]|apply yab<;>(intro h_;(try simp only [h_]);revert h_)|apply And.intro|with_reducible intro h_|trivial)
end Go.Proofs.YtfgbnalnbdhimaaGreatDoor
namespace Go.Proofs.YtfgbnalnbdhimaaGreatDoor
open Go Go.RowKit
set_option maxRecDepth 100000
set_option maxHeartbeats 8000000
set_option linter.unusedVariables false
set_option linter.unusedSimpArgs false
def y6h:TbA:=[(1,[[],[],[],[],[10],[10],[8,9],[],[],[]],[[],[],[],[],[],[],[4,5],[],[],[]])]
def y6i:TbT:=[(1,trP [0,1,2,3] (.node [(4, .node [(5,trD [6,7,8,9]),(6,trD [5,7,8,9])]),(6,trD [4,5,7,8,9])]))]
def kMx (p:List (Int×Int)):Nat->Int
 |0=>0
 |k+1=>mx2 (kMx p k) (0-bvZ (p.getD k (0,0)).1)
abbrev pbO (p:List (Int×Int)):AObj:= .cells 26 (.lst [.bool false,bvT p])
theorem Fn.le21 {P:Program} {f:Nat} {x y z r:AV} (h:LeA x y) (hf:Fn P f [y,z] r):Fn P f [x,z] r:=by
 obtain ⟨h1,h2⟩:=hf
 refine ⟨h1,fun w Mx vs hMx hl hv=>h2 w Mx vs hMx hl fun i v u g1 g2=>?_⟩
 match i,g2 with
 |0,g2=>cases g2;exact h.out _ _ _ _ _ (hv 0 v x g1 rfl)
 |1,g2=>cases g2;exact hv 1 v _ g1 rfl
abbrev pwV (e:Int):AV:= .fn 49 [.rp (.lst [.bool false,tmA [(e,1)]]) 0]
theorem yix (e:Int):Fn Tryz.prog 21 [plA false [(e,1)]] (pwV e):=by
 have hZ:=ys5 [(e,1)]
 have hL:=yjn [(e,1)] (by simp)
 have hH:=yky [(e,1)] (by simp) (by simp)
 rw [show ((([(e,(1:Int))].length:Nat):Int)==0)=false from rfl] at hZ
 rw [show ([(e,(1:Int))].getD 0 (0,0)).1=e from rfl] at hL
 rw [show ([(e,(1:Int))].getD ([(e,(1:Int))].length-1) (0,0)).1=e from rfl] at hH
 refine Fn.intro [.tmp 2] Tryz.func21 rfl rfl (by decide) (by simp [Tryz.ntmps21]) ?_;rw [Tryz.ntmps21]
 repeat' (first|omega|(first|apply yaa|refine tbN y6h ?_|refine tbT y6i ?_|skip);simp only [go_sem,yac,yf5]|refine cgL ?_|refine cgD ?_|apply yab<;>(intro h_;(try simp only [h_]);revert h_)|apply And.intro|with_reducible intro h_|trivial)
end Go.Proofs.YtfgbnalnbdhimaaGreatDoor
namespace Go.Proofs.YtfgbnalnbdhimaaGreatDoor
open Go Go.RowKit
set_option maxRecDepth 100000
set_option maxHeartbeats 8000000
set_option linter.unusedVariables false
set_option linter.unusedSimpArgs false
def y6j:TbA:=[(1,[[5,6,8,10,12],[4,8,10,12],[4,8,10,12],[8,10,12],[4,5,6,7,10,12],[10,12],[4,5,6,7,8,9,12],[12],[4,5,6,7,8,9,10,11],[],[],[]],[[],[0],[0],[],[0,1,2,3],[],[0,1,2,3,4,5],[],[0,1,2,3,4,5,6,7],[],[],[]])]
def totO (e:Int) (pw:Nat->List (Int×Int)) (k:Int) (p:List (Int×Int)):Nat->Option (List (Int×Int))
 |0=>some []
 |i+1=>(totO e pw k p i).bind fun T=>(mulO [(e*bvA (p.getD i (0,0)).1,(p.getD i (0,0)).2)] (pw (bvZ (p.getD i (0,0)).1+k).toNat)).bind (addO T)
def setO (e:Int) (pw:Nat->List (Int×Int)) (dv:List (Int×Int)->Nat->List (Int×Int)×Int) (p:List (Int×Int)):List (Int×Int)×Int:=
 match totO e pw (kMx p p.length) p p.length with
 |none=>([],9)
 |some T=>if kMx p p.length=0 then (T,0) else if (dv T (kMx p p.length).toNat).2=0 then ((dv T (kMx p p.length).toNat).1,0) else ([],10)
theorem yiy {e:Int} {pw:Nat->List (Int×Int)} {k:Int} {p:List (Int×Int)} {i:Nat} (h:totO e pw k p i=none): ∀m,totO e pw k p (i+m)=none
 |0=>h
 |m+1=>by rw [←Nat.add_assoc];simp only [totO,yiy h m,Option.bind_none]
theorem ymd {p:List (Int×Int)} (h: ∀t∈p,-20<=bvZ t.1/\bvZ t.1<=20): ∀k,k<=p.length->0<=kMx p k/\kMx p k<=20/\ ∀j,j<k->0<=bvZ (p.getD j (0,0)).1+kMx p k
 |0,_=>⟨by simp [kMx],by simp [kMx],fun j hj=>by omega⟩
 |k+1,hk=>by
  obtain ⟨h1,h2,h3⟩:=ymd h k (by omega)
  have ht:=h (p.getD k (0,0)) (ya6 (by omega))
  have hm:kMx p k<=kMx p (k+1)/\0-bvZ (p.getD k (0,0)).1<=kMx p (k+1)/\kMx p (k+1)<=20:=by
   simp only [kMx,mx2]
   split<;>omega
  refine ⟨by omega,by omega,fun j hj=>?_⟩
  by_cases e:j=k
  ·subst e;omega
  ·have:=h3 j (by omega);omega
theorem yjq {e:Int} {pw:Nat->List (Int×Int)} {k:Int} {p:List (Int×Int)} (hp:OkB p) (he: -4<=e/\e<=1) (hk:0<=k/\k<=20) (hpw: ∀n,n<=40->OkT 80 (pw n)/\0<(pw n).length) (hz: ∀j,j<p.length->0<=bvZ (p.getD j (0,0)).1+k):
  ∀i T,i<=p.length->totO e pw k p i=some T->OkT 160 T
 |0,T,_,h=>by cases h;exact OkT.nil
 |i+1,T,hi,h=>by
  simp only [totO] at h
  obtain ⟨T',h1,h2⟩:=Option.bind_eq_some_iff.1 h
  obtain ⟨m,h3,h4⟩:=Option.bind_eq_some_iff.1 h2
  have ih:=yjq hp he hk hpw hz i T' (by omega) h1
  have hin:=ya6 (p:=p) (i:=i) (by omega)
  have ht:=hp.exp _ hin
  have hnz:=hp.asc.nz _ hin
  have hft:=hp.fit _ hin
  have hzi:=hz i (by omega)
  obtain ⟨g1,g2⟩:=hpw (bvZ (p.getD i (0,0)).1+k).toNat (by omega)
  generalize p.getD i (0,0)=t at*
  have hea: -80<=e*bvA t.1/\e*bvA t.1<=80:=by
   rcases (show e= -4\/e= -3\/e= -2\/e= -1\/e=0\/e=1 by omega) with rfl|rfl|rfl|rfl|rfl|rfl<;>omega
  exact y3q ih ((ym1 (N:=80) (M:=80) (OkT.one hnz hft hea) g1 (by simp) g2 h3).mono (by decide)) h4
theorem yjr (e n:Int) (he: -4<=e/\e<=1) (hn: -100<=n/\n<=100):Fn Tryz.prog 49 [I n, .rp (.lst [.bool false,tmA [(e,1)]]) 0] (plA false [(e*n,1)]):=by
 have hL:=yjn [(e,1)] (by simp)
 have hC:=ys7 [(e,1)] e (ys8 e) (by simp)
 have c1:cfL [(e,(1:Int))] e=1:=by simp [cfL]
 rw [c1] at hC
 rw [show ([(e,(1:Int))].getD 0 (0,0)).1=e from rfl] at hL
 have hP:=yxx n (by omega)
 have hen: -1000<=e*n/\e*n<=1000:=by
  rcases (show e= -4\/e= -3\/e= -2\/e= -1\/e=0\/e=1 by omega) with rfl|rfl|rfl|rfl|rfl|rfl<;>omega
 have hT:=ycc 1 (e*n) (by decide) (by omega)
 rw [show trm 1 (e*n)=[(e*n,1)] from if_neg (by decide)] at hT
 have hen1: -9223372036854775808<=e*n:=by omega
 have hen2:e*n<=9223372036854775807:=by omega
 refine Fn.introL [.cell 3 32] Tryz.func49 rfl rfl (by decide) (by simp [Tryz.ntmps49]) ?_;rw [Tryz.ntmps49]
 repeat' (first|omega|(first|apply yaa|refine tbN y6j ?_|skip);simp only [go_sem,yac]|refine cgL ?_|refine cgD ?_|apply yab<;>(intro h_;(try simp only [h_]);revert h_)|apply And.intro|with_reducible intro h_|trivial)
 all_goals exact LeA.refl _
end Go.Proofs.YtfgbnalnbdhimaaGreatDoor
