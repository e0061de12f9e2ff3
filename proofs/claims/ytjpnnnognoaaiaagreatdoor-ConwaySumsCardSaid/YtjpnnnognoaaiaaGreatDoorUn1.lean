/- Layer 7: slices.Grow of nil, slices.Concat. -/
import Derived.Test.YtjpnnnognoaaiaaGreatDoorZb
import Derived.Shelf.Spec.SlicesGrow
set_option linter.unusedSimpArgs false
set_option linter.unusedVariables false
namespace Go.Proofs.YtjpnnnognoaaiaaGreatDoor
open Go Go.RowKit
set_option maxRecDepth 100000
set_option maxHeartbeats 8000000
def yen:List (List Nat):=[[25,26,29,30,31,32,33,35,8],[25,26,29,30,31,32,33,35,8],[23,24,29,30,31,32,33,35,8],[23,24,29,30,31,32,33,35,8],[29,30,31,32,33,35,8],[29,30,31,32,33,35,8],[23,24,25,26,27,28,31,32,35,8],[23,24,25,26,27,28,31,32,35,8],[23,24,25,26,27,28,29,30,35,8],[23,24,25,26,27,28,29,30,35,8],[23,24,25,26,27,28,35,8],[35,8],[23,24,25,26,27,28,29,30,31,32,33,34,8],[8],[23,24,25,26,27,28,29,30,31,32,33,34,35,36],[]]
def yeo:List (List Nat):=[[],[],[0,1],[0,1],[],[],[0,1,2,3,4,5],[0,1,2,3,4,5],[0,1,2,3,4,5,6,7],[0,1,2,3,4,5,6,7],[0,1,2,3,4,5],[],[0,1,2,3,4,5,6,7,8,9,10,11],[],[0,1,2,3,4,5,6,7,8,9,10,11,12,13],[]]
def yep:List (List Nat):=[[45,46,47,48,49,52,53,54],[45,46,47,48,49,52,53,54],[43,44,48,52,53,54],[43,44,48,52,53,54],[43,44,48,52,53,54],[43,44,45,46,47,52,53,54],[43,44,52,53,54],[52,53,54],[52,53,54],[43,44,45,46,47,48,49,50,51],[43,44,45,46,47,48,49,50,51],[43,44,45,46,47,48,49,50,51],[],[],[]]
def yeq:List (List Nat):=[[],[],[0,1],[0,1],[0,1],[0,1,2,3,4],[0,1],[],[],[0,1,2,3,4,5,6,7,8],[0,1,2,3,4,5,6,7,8],[0,1,2,3,4,5,6,7,8],[],[],[]]
def yus:Go.Shelf.Ren:=⟨fun|4=>154|n=>n,fun|25=>3|n=>n,fun|n=>n⟩
theorem y2z:Lays8.n4 Tryz.prog yus:={
 mixed:=by kernel_rfl
 f4:=⟨"slices.Grow[[]int,int]",by decide,Tryz.func154.trans (congrArg some (by kernel_rfl))⟩
 t0:=Tryz.underlying0
 a0:=Tryz.isAgg0
 z0:=Tryz.sizeOf0
 v0:=Tryz.zeroValue0
 t3:=Tryz.underlying3
 a3:=Tryz.isAgg3
 z3:=Tryz.sizeOf3
 v3:=Tryz.zeroValue3
 t4:=Tryz.underlying4
 a4:=Tryz.isAgg4
 z4:=Tryz.sizeOf4
 v4:=Tryz.zeroValue4
 t9:=Tryz.underlying9
 a9:=Tryz.isAgg9
 z9:=Tryz.sizeOf9
 v9:=Tryz.zeroValue9
 t20:=Tryz.underlying20
 a20:=Tryz.isAgg20
 z20:=Tryz.sizeOf20
 v20:=Tryz.zeroValue20
 t22:=Tryz.underlying22
 a22:=Tryz.isAgg22
 z22:=Tryz.sizeOf22
 v22:=Tryz.zeroValue22}
theorem yz3: ∃i:TypeInfo,Tryz.prog.info? 3=some i/\i.zero=some (.int .i64 0)/\i.size=1/\i.bytes=8:=by
 have h:(Tryz.prog.info? 3).map (fun i=>(i.zero,i.size,i.bytes))=some (some (.int .i64 0),1,8):=by kernel_rfl
 obtain ⟨i,h1,h2⟩:=Option.map_eq_some_iff.1 h
 simp only [Prod.mk.injEq] at h2
 exact ⟨i,h1,h2.1,h2.2.1,h2.2.2⟩
theorem y20 (n:Nat) (h:0<n) (hn:n<=1000):FnO Tryz.prog 154 [.nils,I n] (.sl 1 0 0 0) [(0, .cells 3 (.ints []))]:=by
 obtain ⟨i0,i1,i2,i3,i4⟩:=yz3
 refine ⟨⟨_,Tryz.func154,rfl,by decide⟩,fun w Mx vs hMx hvl hv=>?_⟩
 match vs,hvl,hv with
 |[u0,u1],_,hv=>
  have e0:=(hv 0 u0 _ rfl rfl).nils_inv
  have e1:=(hv 1 u1 _ rfl rfl).int_inv
  subst e0 e1
  have hsim0:Sim w.heap.size ⟨w,fun _=>undef⟩ Mx 0 w ρ0 [] [] {tmps:= #[],defers:=[]}:=
   ⟨Below.refl _ _,Nat.le_refl _,hMx.2,(fun id o h=>by cases h),(fun id o h=>by cases h),(fun id o _ _ h=>by cases h),fun t=> .any _,⟨rfl,fun _ hb=>hMx.1.later hb⟩,by simp,by omega⟩
  refine (Any8.slices_Grow_grow y2z i0 _ i1 i2 (by omega) none 0 0 n [] w (Nat.le_refl _) (by omega) (by rw [i4];omega) (by omega) (by simp) (fun _=>rfl) (fun a ha=>by cases ha)).mono ?_
  rintro e w' ⟨he,hw⟩
  obtain ⟨arr,G,hG,rfl,rfl⟩: ∃(arr:Array Value) (G:Nat),G<=arr.size/\e= .returned (.slice (some ⟨w.heap.size,0,none⟩) 0 G)/\w'=w.drew.alloc (.cells arr 3):=by
   refine ⟨_,_,?_,he,hw⟩
   have hg:=grownCap_ge w (0+n) 0 (yus.t 25)
   simp only [Array.size_append,size_zeroCells,Value.cells,List.size_toArray,List.length_nil,List.length_cons]
   omega
  refine ⟨_,upd ρ0 0 ⟨w.heap.size,0,none⟩,rfl,(Sim.draw hsim0).allocCells 0 rfl _ 3 (.ints []) (Nat.zero_le _) (fun j hj=>absurd hj (by simp [Cs.len])),?_⟩
  refine .sl 1 0 0 0 G ⟨_,rfl⟩ (Nat.zero_le _) arr 3 _ (fun _=>?_) ?_ ?_
  ·simp [upd,Addr.add]
  ·rw [yae];exact ybv
  ·rw [yae];simpa using hG
def catN (a b:List Int) (k:Nat):Nat:=if k=0 then 0 else if k=1 then a.length else a.length+b.length
def catL (a b:List Int) (k:Nat):List Int:=if k=0 then [] else if k=1 then a else a++b
abbrev catA (a b:List Int):AV:= .ro 1 2 (.lst [roI a,roI b])
attribute [go_sem] catA
theorem ygh (a b:List Int) (h:0<a.length+b.length) (ha:a.length<=300) (hb:b.length<=300):
  FnO Tryz.prog 119 [catA a b] (.sl 1 0 0 (a.length+b.length)) [(0, .cells 3 (.ints (a++b)))]:=by
 have hg:=y20 (a.length+b.length) h (by omega)
 have hgi:AV.int .i64 ((a.length:Int)+b.length)=AV.int .i64 ((a.length+b.length:Nat):Int):=by simp
 refine FnO.intro [.tmp 2] Tryz.func119 rfl rfl (by decide) (by simp [Tryz.ntmps119]) ?_;rw [Tryz.ntmps119]
 repeat' (first|omega|(try apply yaa);simp only [go_sem,sevalprocAttr]|apply yab<;>(intro h_;(try simp only [h_]);revert h_)|apply And.intro|with_reducible intro h_|trivial|simp only [go_sem,la2];omega)
 refine yaz.intro (fun n fr H=> ∃k:Nat,k<=2/\n=2-k/\fr=[(11,I k),(10,I 2),(9,catA a b),(3,I (catN a b k)),(0,catA a b)]/\H=[]) ?_ ?_
 ·refine ⟨_,_,_,?_,0,by omega,rfl,rfl,rfl⟩
  refine Wk.sub ?_ ?_<;>simp only [go_sem,sevalprocAttr]
  all_goals simp_all [catN]
 rintro n fr H ⟨k,hk,rfl,rfl,rfl⟩
 match k,hk with
 |0,_=>
  have q1:decide ((catN a b 0:Int)+a.length<0)=false:=by simp [catN]
  have q0:(catN a b 0:Int)=0:=by simp [catN]
  have q2:(catN a b 1:Int)=a.length:=by simp [catN]
  repeat' (first|omega|(try apply yaa);simp only [go_sem,sevalprocAttr,q1,q0]|apply yab<;>(intro h_;(try simp only [h_]);revert h_)|apply And.intro|with_reducible intro h_|trivial|simp only [go_sem,la2];omega)
  refine ⟨_,_,_,?_,?_,⟨1,by omega,rfl,rfl,rfl⟩⟩
  ·omega
  ·refine Wk.sub ?_ ?_<;>(simp only [go_sem,sevalprocAttr,q2])
   all_goals simp_all
 |1,_=>
  have q0:(catN a b 1:Int)=a.length:=by simp [catN]
  have q1:decide ((a.length:Int)+b.length<0)=false:=by simp;omega
  have q2:(catN a b 2:Int)=a.length+b.length:=by simp [catN]
  repeat' (first|omega|(try apply yaa);simp only [go_sem,sevalprocAttr,q1,q0]|apply yab<;>(intro h_;(try simp only [h_]);revert h_)|apply And.intro|with_reducible intro h_|trivial|simp only [go_sem,la2];omega)
  refine ⟨_,_,_,?_,?_,⟨2,by omega,rfl,rfl,rfl⟩⟩
  ·omega
  ·refine Wk.sub ?_ ?_<;>(simp only [go_sem,sevalprocAttr,q2])
   all_goals simp_all
 |2,_=>
  have q2:(catN a b 2:Int)=a.length+b.length:=by simp [catN]
  repeat' (first|omega|(try apply yaa);simp only [go_sem,sevalprocAttr,q2]|apply yab<;>(intro h_;(try simp only [h_]);revert h_)|apply And.intro|with_reducible intro h_|trivial|simp only [go_sem,la2];omega)
  rw [hgi]
  refine ⟨yad.fno rfl hg ?_⟩
  repeat' (first|omega|(try apply yaa);simp only [go_sem,sevalprocAttr]|apply yab<;>(intro h_;(try simp only [h_]);revert h_)|apply And.intro|with_reducible intro h_|trivial|simp only [go_sem,la2];omega)
  refine yaz.intro (fun n fr H=> ∃k:Nat,k<=2/\n=2-k/\fr=[(27,I k),(26,I 2),(25,catA a b),(6, .sl 1 0 0 (catL a b k).length)]/\H=[(0, .cells 3 (.ints (catL a b k)))]) ?_ ?_
  ·refine ⟨_,_,_,?_,0,by omega,rfl,rfl,rfl⟩
   refine Wk.sub ?_ ?_<;>simp only [go_sem,sevalprocAttr]
   all_goals simp_all [catL]
  rintro n fr H ⟨k,hk,rfl,rfl,rfl⟩
  match k,hk with
  |0,_=>
   have q0:catL a b 0=[]:=by simp [catL]
   have q1:catL a b 1=a:=by simp [catL]
   rw [q0]
   repeat' (first|omega|(try apply yaa);simp only [go_sem,sevalprocAttr]|apply yab<;>(intro h_;(try simp only [h_]);revert h_)|apply And.intro|with_reducible intro h_|trivial|simp only [go_sem,la2];omega)
   refine ⟨_,_,_,?_,?_,⟨1,by omega,rfl,rfl,rfl⟩⟩
   ·omega
   ·refine Wk.sub ?_ ?_<;>(simp only [go_sem,sevalprocAttr,q1])
  |1,_=>
   have q0:catL a b 1=a:=by simp [catL]
   have q1:catL a b 2=a++b:=by simp [catL]
   rw [q0]
   repeat' (first|omega|(try apply yaa);simp only [go_sem,sevalprocAttr]|apply yab<;>(intro h_;(try simp only [h_]);revert h_)|apply And.intro|with_reducible intro h_|trivial|simp only [go_sem,la2];omega)
   refine ⟨_,_,_,?_,?_,⟨2,by omega,rfl,rfl,rfl⟩⟩
   ·omega
   ·refine Wk.sub ?_ ?_<;>(simp only [go_sem,sevalprocAttr,q1,List.length_append])
    all_goals rfl
  |2,_=>
   have q1:catL a b 2=a++b:=by simp [catL]
   rw [q1,List.length_append]
   repeat' (first|omega|(try apply yaa);simp only [go_sem,sevalprocAttr]|apply yab<;>(intro h_;(try simp only [h_]);revert h_)|apply And.intro|with_reducible intro h_|trivial|simp only [go_sem,la2];omega)
abbrev noR:AV:= .ro 1 0 (.lst [])
attribute [go_sem] noR
theorem ysx:Fn Tryz.prog 119 [.ro 1 2 (.lst [noR,noR])] .nils:=by
 have hg:Fn Tryz.prog 154 [.nils,I 0] .nils:=by
  refine Fn.intro [.tmp 4] Tryz.func154 rfl rfl (by decide) (by simp [Tryz.ntmps154]) ?_;rw [Tryz.ntmps154]
  repeat' (first|omega|(try apply yaa);simp only [go_sem,sevalprocAttr]|apply yab<;>(intro h_;(try simp only [h_]);revert h_)|apply And.intro|with_reducible intro h_|trivial|simp only [go_sem,la2];omega)
 refine Fn.intro [.tmp 2] Tryz.func119 rfl rfl (by decide) (by simp [Tryz.ntmps119]) ?_;rw [Tryz.ntmps119]
 repeat' (first|omega|(try apply yaa);simp only [go_sem,sevalprocAttr]|apply yab<;>(intro h_;(try simp only [h_]);revert h_)|apply And.intro|with_reducible intro h_|trivial|simp only [go_sem,la2];omega)
 refine yaz.intro (fun n fr H=> ∃k:Nat,k<=2/\n=2-k/\fr=[(11,I k),(10,I 2),(9, .ro 1 2 (.lst [noR,noR])),(3,I 0),(0, .ro 1 2 (.lst [noR,noR]))]/\H=[]) ?_ ?_
 ·refine ⟨_,_,_,?_,0,by omega,rfl,rfl,rfl⟩
  refine Wk.sub ?_ ?_<;>simp only [go_sem,sevalprocAttr]
  all_goals simp_all
 rintro n fr H ⟨k,hk,rfl,rfl,rfl⟩
 by_cases h2:k<2
 ·have hk2:(k:Int)<2:=by omega
  have e:([AV.ro 1 0 (Cs.lst []),AV.ro 1 0 (Cs.lst [])]:List AV).getD k .any=AV.ro 1 0 (Cs.lst []):=by
   match k,h2 with
   |0,_=>rfl
   |1,_=>rfl
  repeat' (first|omega|(try apply yaa);simp only [go_sem,sevalprocAttr,e]|apply yab<;>(intro h_;(try simp only [h_]);revert h_)|apply And.intro|with_reducible intro h_|trivial|simp only [go_sem,la2];omega)
  refine ⟨_,_,_,?_,?_,⟨k+1,by omega,rfl,rfl,rfl⟩⟩
  ·omega
  ·refine Wk.sub ?_ ?_<;>(simp only [go_sem,sevalprocAttr])
   all_goals simp_all
 ·repeat' (first|omega|(try apply yaa);simp only [go_sem,sevalprocAttr]|apply yab<;>(intro h_;(try simp only [h_]);revert h_)|apply And.intro|with_reducible intro h_|trivial|simp only [go_sem,la2];omega)
  refine ⟨yad.fn rfl hg ?_⟩
  repeat' (first|omega|(try apply yaa);simp only [go_sem,sevalprocAttr]|apply yab<;>(intro h_;(try simp only [h_]);revert h_)|apply And.intro|with_reducible intro h_|trivial|simp only [go_sem,la2];omega)
  refine yaz.intro (fun n fr H=> ∃k:Nat,k<=2/\n=2-k/\fr=[(27,I k),(26,I 2),(25, .ro 1 2 (.lst [noR,noR])),(6, .nils)]/\H=[]) ?_ ?_
  ·refine ⟨_,_,_,?_,0,by omega,rfl,rfl,rfl⟩
   refine Wk.sub ?_ ?_<;>simp only [go_sem,sevalprocAttr]
   all_goals simp_all
  rintro n fr H ⟨k,hk,rfl,rfl,rfl⟩
  by_cases h2:k<2
  ·have hk2:(k:Int)<2:=by omega
   have e:([AV.ro 1 0 (Cs.lst []),AV.ro 1 0 (Cs.lst [])]:List AV).getD k .any=AV.ro 1 0 (Cs.lst []):=by
    match k,h2 with
    |0,_=>rfl
    |1,_=>rfl
   repeat' (first|omega|(try apply yaa);simp only [go_sem,sevalprocAttr,e]|apply yab<;>(intro h_;(try simp only [h_]);revert h_)|apply And.intro|with_reducible intro h_|trivial|simp only [go_sem,la2];omega)
   refine ⟨_,_,_,?_,?_,⟨k+1,by omega,rfl,rfl,rfl⟩⟩
   ·omega
   ·refine Wk.sub ?_ ?_<;>(simp only [go_sem,sevalprocAttr])
    all_goals simp_all
  ·repeat' (first|omega|(try apply yaa);simp only [go_sem,sevalprocAttr]|apply yab<;>(intro h_;(try simp only [h_]);revert h_)|apply And.intro|with_reducible intro h_|trivial|simp only [go_sem,la2];omega)
theorem VR.no {w:World} {M:Nat->Prop} {ρ:Nat->Addr} {D:Nat->Prop} {v:Value} (h:VR w M ρ D v (roI [])):VR w M ρ D v noR:=by
 cases h with
 |ro es len c ad cap x hl hc he h0 hv=>exact .ro 1 0 _ ad cap x rfl hc he (fun h=>absurd h (by omega)) (fun j hj=>absurd hj (by simp [Cs.len]))
theorem ywc:Fn Tryz.prog 119 [catA [] []] .nils:=by
 obtain ⟨h1,h2⟩:=ysx
 refine ⟨h1,fun w Mx vs hMx hl hv=>h2 w Mx vs hMx hl fun i v x g1 g2=>?_⟩
 match i,g2 with
 |0,g2=>
  cases g2
  have:=hv 0 v _ g1 rfl
  cases this with
  |ro es len c ad cap y hl hc he h0 hv'=>
   refine .ro 1 2 _ ad cap y rfl hc he h0 (fun j hj=>?_)
   have h3:=hv' j hj
   match j,hj with
   |0,_=>exact VR.no h3
   |1,_=>exact VR.no h3
def unK (a b:List Int) (k:Nat):List Int:=a++(List.range b.length).map fun i=>b.getD i 0+(if i<k then (a.length:Int) else 0)
theorem yoc (a b:List Int) (k:Nat):(unK a b k).length=a.length+b.length:=by simp [unK]
theorem yh9 (a b:List Int) (k i:Nat):(unK a b k)[i]?=if i<a.length then a[i]? else if i-a.length<b.length then some (b.getD (i-a.length) 0+(if i-a.length<k then (a.length:Int) else 0)) else none:=by
 unfold unK
 by_cases h:i<a.length
 ·rw [if_pos h,List.getElem?_append_left h]
 ·rw [if_neg h,List.getElem?_append_right (by omega),List.getElem?_map]
  by_cases h2:i-a.length<b.length
  ·rw [if_pos h2,List.getElem?_range h2];rfl
  ·rw [if_neg h2,List.getElem?_eq_none (by simp;omega)];rfl
theorem ysb (a b:List Int) (k:Nat) (h:k<b.length):(unK a b k).getD (a.length+k) 0=b.getD k 0:=by
 rw [List.getD_eq_getElem?_getD,yh9,if_neg (by omega),if_pos (by omega),show a.length+k-a.length=k by omega,if_neg (by omega)]
 simp
theorem y3s (a b:List Int):unK a b 0=a++b:=by
 apply List.ext_getElem?
 intro i
 rw [yh9]
 by_cases h:i<a.length
 ·rw [if_pos h,List.getElem?_append_left h]
 ·rw [if_neg h,List.getElem?_append_right (by omega)]
  by_cases h2:i-a.length<b.length
  ·simp [h2]
  ·rw [if_neg h2,List.getElem?_eq_none (by omega)]
theorem yut (a b:List Int) (k:Nat) (h:k<b.length):(unK a b k).set (a.length+k) (b.getD k 0+a.length)=unK a b (k+1):=by
 apply List.ext_getElem?
 intro i
 rw [List.getElem?_set,yoc,yh9,yh9]
 by_cases e:a.length+k=i
 ·subst e
  rw [if_pos rfl,if_pos (by omega),if_neg (by omega),if_pos (by omega),show a.length+k-a.length=k by omega,if_pos (by omega)]
 ·rw [if_neg e]
  by_cases h1:i<a.length
  ·rw [if_pos h1,if_pos h1]
  ·rw [if_neg h1,if_neg h1]
   by_cases h2:i-a.length<k
   ·rw [if_pos h2,if_pos (show i-a.length<k+1 by omega)]
   ·rw [if_neg h2,if_neg (show¬i-a.length<k+1 by omega)]
theorem ysc (a b:List Int):unK a b b.length=a++b.map fun x=>x+(a.length:Int):=by
 apply List.ext_getElem?
 intro i
 rw [yh9]
 by_cases h:i<a.length
 ·rw [if_pos h,List.getElem?_append_left h]
 ·rw [if_neg h,List.getElem?_append_right (by omega),List.getElem?_map]
  by_cases h2:i-a.length<b.length
  ·simp [h2]
  ·rw [if_neg h2,List.getElem?_eq_none (by omega)];rfl
theorem yz4 (s m:List Int) (L:Int) (s' m':List Int) (L' K:Int) (hs:s.length+s'.length<=64) (hm:m.length=4*s.length) (hm':m'.length=4*s'.length) (hb: ∀i,i<m'.length->0<=m'.getD i 0/\m'.getD i 0<=1000) (hK:K<=64):
  Fn Tryz.prog 61 [dgA s m L,dgA s' m' L',I K] (.tup [dgA (s++s') (unK m m' m'.length) K,I 0]):=by
 have b1:decide (64<(s.length:Int)+s'.length)=false:=by simp;omega
 have b2:decide (64<K)=false:=by simp;omega
 by_cases h0:s.length+s'.length=0
 ·obtain rfl:s=[]:=List.eq_nil_of_length_eq_zero (by omega)
  obtain rfl:s'=[]:=List.eq_nil_of_length_eq_zero (by omega)
  obtain rfl:m=[]:=List.eq_nil_of_length_eq_zero (by simpa using hm)
  obtain rfl:m'=[]:=List.eq_nil_of_length_eq_zero (by simpa using hm')
  have c0:=ywc
  refine Fn.introL [.cell 6 24, .tmp 7] Tryz.func61 rfl rfl (by decide) (by simp [Tryz.ntmps61]) ?_;rw [Tryz.ntmps61]
  repeat' (first|omega|(first|apply yaa|(refine yac.intro (id:=3) yen yeo (by decide+kernel) mixed ?_)|(refine yac.intro (id:=7) yep yeq (by decide+kernel) mixed ?_)|skip);simp only [go_sem,sevalprocAttr,b1,b2,↓reduceIte,reduceCtorEq,yen,yeo,yep,yeq]|apply yab<;>(intro h_;(try simp only [h_]);revert h_)|apply And.intro|with_reducible intro h_|trivial|simp only [go_sem,la2];omega)
  refine ⟨yap.flat rfl (by simp only [go_sem,sevalprocAttr]) (by simp only [go_sem,sevalprocAttr];try rfl) c0 rfl ?_⟩
  simp only [go_sem,sevalprocAttr]
  refine ⟨yap.flat rfl (by simp only [go_sem,sevalprocAttr]) (by simp only [go_sem,sevalprocAttr];try rfl) c0 rfl ?_⟩
  simp only [go_sem,sevalprocAttr]
  repeat' (first|omega|(first|apply yaa|(refine yac.intro (id:=3) yen yeo (by decide+kernel) mixed ?_)|(refine yac.intro (id:=7) yep yeq (by decide+kernel) mixed ?_)|skip);simp only [go_sem,sevalprocAttr,↓reduceIte,reduceCtorEq,yen,yeo,yep,yeq]|apply yab<;>(intro h_;(try simp only [h_]);revert h_)|apply And.intro|with_reducible intro h_|trivial|simp only [go_sem,la2];omega)
  refine yaz.intro (fun n fr H=>n=0/\fr=[(40,I 0),(39,I 0),(8, .ptr 17 0),(6, .ptr 2 0)]/\
   H=[(17, .cells 24 (.lst [.nils, .nils,I K])),(2, .cells 24 (.lst [.nils, .nils,I 0]))]) ?_ ?_
  ·refine ⟨_,_,_,?_,rfl,rfl,rfl⟩
   refine Wk.sub ?_ ?_<;>simp only [go_sem,sevalprocAttr]
   all_goals simp_all
  rintro n fr H ⟨rfl,rfl,rfl⟩
  repeat' (first|omega|(try apply yaa);simp only [go_sem,sevalprocAttr]|apply yab<;>(intro h_;(try simp only [h_]);revert h_)|apply And.intro|with_reducible intro h_|trivial|simp only [go_sem,la2];omega)
  all_goals exact LeA.tupL (.cons (LeA.aggL (.cons (LeA.nils (by omega) rfl) (.cons (LeA.nils (by omega) rfl) (.cons (LeA.refl _) .nil)))) (.cons (LeA.refl _) .nil))
 have c1:=ygh s s' (by omega) (by omega) (by omega)
 have c2:=ygh m m' (by omega) (by omega) (by omega)
 refine Fn.introL [.cell 6 24, .tmp 7] Tryz.func61 rfl rfl (by decide) (by simp [Tryz.ntmps61]) ?_;rw [Tryz.ntmps61]
 repeat' (first|omega|(first|apply yaa|(refine yac.intro (id:=3) yen yeo (by decide+kernel) mixed ?_)|(refine yac.intro (id:=7) yep yeq (by decide+kernel) mixed ?_)|skip);simp only [go_sem,sevalprocAttr,b1,b2,↓reduceIte,reduceCtorEq,yen,yeo,yep,yeq]|apply yab<;>(intro h_;(try simp only [h_]);revert h_)|apply And.intro|with_reducible intro h_|trivial|simp only [go_sem,la2];omega)
 refine ⟨yap.own (h:=c1) (by simp only [go_sem,sevalprocAttr]) (by simp only [go_sem,sevalprocAttr];try rfl) ?_⟩
 simp only [go_sem,sevalprocAttr]
 refine ⟨yap.own (h:=c2) (by simp only [go_sem,sevalprocAttr]) (by simp only [go_sem,sevalprocAttr];try rfl) ?_⟩
 simp only [go_sem,sevalprocAttr]
 repeat' (first|omega|(first|apply yaa|(refine yac.intro (id:=3) yen yeo (by decide+kernel) mixed ?_)|(refine yac.intro (id:=7) yep yeq (by decide+kernel) mixed ?_)|skip);simp only [go_sem,sevalprocAttr,↓reduceIte,reduceCtorEq,yen,yeo,yep,yeq]|apply yab<;>(intro h_;(try simp only [h_]);revert h_)|apply And.intro|with_reducible intro h_|trivial|simp only [go_sem,la2];omega)
 refine yaz.intro (fun n fr H=> ∃k:Nat,k<=m'.length/\n=m'.length-k/\fr=[(40,I k),(39,I m'.length),(8, .ptr 17 0),(6, .ptr 2 0),(4, .ptr 1 0),(3, .ptr 0 0)]/\
  H=[(17, .cells 24 (.lst [.sl 1 8 0 (s.length+s'.length), .sl 1 14 0 (m.length+m'.length),I K])),(14, .cells 3 (.ints (unK m m' k))),(8, .cells 3 (.ints (s++s'))),(2, .cells 24 (.lst [.nils, .nils,I 0])),(1, .cells 24 (.lst [roI s',roI m',I L'])),(0, .cells 24 (.lst [roI s,roI m,I L]))]) ?_ ?_
 ·refine ⟨_,_,_,?_,0,by omega,rfl,rfl,rfl⟩
  rw [y3s]
  refine Wk.sub ?_ ?_<;>simp only [go_sem,sevalprocAttr]
  all_goals simp_all
 rintro n fr H ⟨k,hk,rfl,rfl,rfl⟩
 have ul:=yoc m m' k
 by_cases hkl:k<m'.length
 ·have e1:((m.length:Int)+k).toNat=m.length+k:=by omega
  have e2:=ysb m m' k hkl
  have hb1:=hb k hkl
  repeat' (first|omega|(first|apply yaa|(refine yac.intro (id:=3) yen yeo (by decide+kernel) mixed ?_)|(refine yac.intro (id:=7) yep yeq (by decide+kernel) mixed ?_)|skip);simp only [go_sem,sevalprocAttr,e1,e2,↓reduceIte,reduceCtorEq,yen,yeo,yep,yeq]|apply yab<;>(intro h_;(try simp only [h_]);revert h_)|apply And.intro|with_reducible intro h_|trivial|simp only [go_sem,la2];omega)
  refine ⟨_,_,_,?_,?_,⟨k+1,by omega,rfl,rfl,rfl⟩⟩
  ·omega
  ·rw [←yut m m' k hkl]
   refine Wk.sub ?_ ?_<;>(simp only [go_sem,sevalprocAttr])
   all_goals simp_all
 ·obtain rfl:k=m'.length:=by omega
  repeat' (first|omega|(try apply yaa);simp only [go_sem,sevalprocAttr]|apply yab<;>(intro h_;(try simp only [h_]);revert h_)|apply And.intro|with_reducible intro h_|trivial|simp only [go_sem,la2];omega)
  all_goals exact LeA.tupL (.cons (LeA.aggL (.cons (LeA.of (by rw [List.take_of_length_le (by simp)])) (.cons (LeA.of (by rw [ul,List.take_of_length_le (by omega)])) (.cons (LeA.refl _) .nil)))) (.cons (LeA.refl _) .nil))
end Go.Proofs.YtjpnnnognoaaiaaGreatDoor
