/- Layer 7: slices.Grow of nil, slices.Concat. -/
import Derived.Test.YtjpbeacamoijhaaGreatDoorZl
import Derived.Test.YtjpbeacamoijhaaGreatDoorZa
import Derived.Shelf.Spec.SlicesGrow
import Derived.Test.YtjpbeacamoijhaaGreatDoorZh
import Derived.Test.YtjpbeacamoijhaaGreatDoorZk
import Derived.Test.YtjpbeacamoijhaaGreatDoorPl
set_option linter.unusedSimpArgs false
set_option linter.unusedVariables false
namespace Go.Proofs.YtjpbeacamoijhaaGreatDoor
open Go Go.RowKit
set_option maxRecDepth 100000
set_option maxHeartbeats 8000000
def yM:List (List Nat):=[[25,26,29,30,31,32,33,35,8],[25,26,29,30,31,32,33,35,8],[23,24,29,30,31,32,33,35,8],[23,24,29,30,31,32,33,35,8],[29,30,31,32,33,35,8],[29,30,31,32,33,35,8],[23,24,25,26,27,28,31,32,35,8],[23,24,25,26,27,28,31,32,35,8],[23,24,25,26,27,28,29,30,35,8],[23,24,25,26,27,28,29,30,35,8],[23,24,25,26,27,28,35,8],[35,8],[23,24,25,26,27,28,29,30,31,32,33,34,8],[8],[23,24,25,26,27,28,29,30,31,32,33,34,35,36],[]]
def yL:List (List Nat):=[[],[],[0,1],[0,1],[],[],[0,1,2,3,4,5],[0,1,2,3,4,5],[0,1,2,3,4,5,6,7],[0,1,2,3,4,5,6,7],[0,1,2,3,4,5],[],[0,1,2,3,4,5,6,7,8,9,10,11],[],[0,1,2,3,4,5,6,7,8,9,10,11,12,13],[]]
def yK:List (List Nat):=[[45,46,47,48,49,52,53,54],[45,46,47,48,49,52,53,54],[43,44,48,52,53,54],[43,44,48,52,53,54],[43,44,48,52,53,54],[43,44,45,46,47,52,53,54],[43,44,52,53,54],[52,53,54],[52,53,54],[43,44,45,46,47,48,49,50,51],[43,44,45,46,47,48,49,50,51],[43,44,45,46,47,48,49,50,51],[],[],[]]
def yJ:List (List Nat):=[[],[],[0,1],[0,1],[0,1],[0,1,2,3,4],[0,1],[],[],[0,1,2,3,4,5,6,7,8],[0,1,2,3,4,5,6,7,8],[0,1,2,3,4,5,6,7,8],[],[],[]]
def RQ:Go.Shelf.Ren:=⟨fun|4=>157|n=>n,fun|25=>3|n=>n,fun|n=>n⟩
theorem y5e:Lays8.n4 Tryz.prog RQ:={
 mixed:=by kernel_rfl
 f4:=⟨"slices.Grow[[]int,int]",by decide,Tryz.func157.trans (congrArg some (by kernel_rfl))⟩
 t0:=Tryz.underlying0
 a0:=Tryz.isAgg0
 z0:=Tryz.sizeOf0
 v0:=Tryz.zeroValue0
 t3:=Tryz.underlying3
 a3:=Tryz.isAgg3
 z3:=Tryz.sizeOf3
 v3:=Tryz.zeroValue3
 t4:=Tryz.underlying4
 a4:=Tryz.isAgg4
 z4:=Tryz.sizeOf4
 v4:=Tryz.zeroValue4
 t9:=Tryz.underlying9
 a9:=Tryz.isAgg9
 z9:=Tryz.sizeOf9
 v9:=Tryz.zeroValue9
 t20:=Tryz.underlying20
 a20:=Tryz.isAgg20
 z20:=Tryz.sizeOf20
 v20:=Tryz.zeroValue20
 t22:=Tryz.underlying22
 a22:=Tryz.isAgg22
 z22:=Tryz.sizeOf22
 v22:=Tryz.zeroValue22}
theorem y2a: ∃i:TypeInfo,Tryz.prog.info? 3=some i/\i.zero=some (.int .i64 0)/\i.size=1/\i.bytes=8:=by
 have h:(Tryz.prog.info? 3).map (fun i=>(i.zero,i.size,i.bytes))=some (some (.int .i64 0),1,8):=by kernel_rfl
 obtain ⟨i,h1,h2⟩:=Option.map_eq_some_iff.1 h;simp only [Prod.mk.injEq] at h2;exact ⟨i,h1,h2.1,h2.2.1,h2.2.2⟩
theorem y5f (n:Nat) (h:0<n) (hn:n<=1000):uX Tryz.prog 157 [.nils,I n] (.sl 1 0 0 0) [(0, .cells 3 (.ints []))]:=by
 obtain ⟨i0,i1,i2,i3,i4⟩:=y2a;refine ⟨⟨_,Tryz.func157,rfl,by decide⟩,fun w Mx vs pQ uE hv=>?_⟩
 match vs,uE,hv with
 |[u0,u1],_,hv=>
  have e0:=(hv 0 u0 _ rfl rfl).cg;have e1:=(hv 1 u1 _ rfl rfl).aq;subst e0 e1
  have rY:aK w.heap.size ⟨w,fun _=>undef⟩ Mx 0 w ρ0 [] [] {tmps:= #[],defers:=[]}:=
   ⟨Below.refl _ _,zzA _,pQ.2,(fun id o h=>by cases h),(fun id o h=>by cases h),(fun id o _ _ h=>by cases h),fun t=> .any _,⟨rfl,fun _ hb=>pQ.1.later hb⟩,by simp,by omega⟩
  refine (Any8.slices_Grow_grow y5e i0 _ i1 i2 (by omega) none 0 0 n [] w (zzA _) (by omega) (by rw [i4];omega) (by omega) (by simp) (fun _=>rfl) (fun a ha=>by cases ha)).mono ?_;rintro e w' ⟨he,hw⟩;obtain ⟨arr,G,hG,rfl,rfl⟩: ∃(arr:Array Value) (G:Nat),G<=arr.size/\e= .returned (.slice (some ⟨w.heap.size,0,none⟩) 0 G)/\w'=w.drew.alloc (.cells arr 3):=by
   refine ⟨_,_,?_,he,hw⟩;have hg:=grownCap_ge w (0+n) 0 (RQ.t 25);simp only [Array.size_append,size_zeroCells,Value.cells,List.size_toArray,List.length_nil,zzG];omega
  refine ⟨_,aR ρ0 0 ⟨w.heap.size,0,none⟩,rfl,(aK.draw rY).ca 0 rfl _ 3 (.ints []) (Nat.zero_le _) (fun j hj=>absurd hj (by simp [Cs.len])),?_⟩;refine .sl 1 0 0 0 G ⟨_,rfl⟩ (Nat.zero_le _) arr 3 _ (fun _=>?_) ?_ ?_
  ·simp [aR,Addr.add]
  ·rw [bQ];exact sR
  ·rw [bQ];simpa using hG
def mU (a b:List Int) (k:Nat):Nat:=if k=0 then 0 else if k=1 then a.length else a.length+b.length
def nI (a b:List Int) (k:Nat):List Int:=if k=0 then [] else if k=1 then a else a++b
abbrev catA (a b:List Int):AV:= .ro 1 2 (.lst [roI a,roI b])
attribute [go_sem] catA
theorem Kd (a b:List Int) (h:0<a.length+b.length) (ha:a.length<=300) (hb:b.length<=300):
  uX Tryz.prog 116 [catA a b] (.sl 1 0 0 (a.length+b.length)) [(0, .cells 3 (.ints (a++b)))]:=by
 have hg:=y5f (a.length+b.length) h (by omega);have hgi:AV.int .i64 ((a.length:Int)+b.length)=AV.int .i64 ((a.length+b.length:Nat):Int):=by simp
 refine uX.intro [.tmp 2] Tryz.func116 rfl rfl (by decide) (by simp [Tryz.ntmps116]) ?_;rw [Tryz.ntmps116]
 repeat' (first|omega|(try apply ah);simp only [go_sem,sevalprocAttr]|apply ag<;>(intro h_;(try simp only [h_]);revert h_)|apply zzL|with_reducible intro h_|trivial|simp only [go_sem,ai];omega)
 refine cN.intro (fun n fr H=> ∃k:Nat,k<=2/\n=2-k/\fr=[(11,I k),(10,I 2),(9,catA a b),(3,I (mU a b k)),(0,catA a b)]/\H=[]) ?_ ?_
 ·refine ⟨_,_,_,?_,0,by omega,rfl,rfl,rfl⟩;refine Wk.sub ?_ ?_<;>simp only [go_sem,sevalprocAttr]
  all_goals simp_all [mU]
 rintro n fr H ⟨k,hk,rfl,rfl,rfl⟩
 match k,hk with
 |0,_=>
  have q1:decide ((mU a b 0:Int)+a.length<0)=false:=by simp [mU]
  have q0:(mU a b 0:Int)=0:=by simp [mU]
  have q2:(mU a b 1:Int)=a.length:=by simp [mU]
  repeat' (first|omega|(try apply ah);simp only [go_sem,sevalprocAttr,q1,q0]|apply ag<;>(intro h_;(try simp only [h_]);revert h_)|apply zzL|with_reducible intro h_|trivial|simp only [go_sem,ai];omega)
  refine ⟨_,_,_,?_,?_,⟨1,by omega,rfl,rfl,rfl⟩⟩
  ·omega
  ·refine Wk.sub ?_ ?_<;>(simp only [go_sem,sevalprocAttr,q2])
   all_goals simp_all
 |1,_=>
  have q0:(mU a b 1:Int)=a.length:=by simp [mU]
  have q1:decide ((a.length:Int)+b.length<0)=false:=by simp;omega
  have q2:(mU a b 2:Int)=a.length+b.length:=by simp [mU]
  repeat' (first|omega|(try apply ah);simp only [go_sem,sevalprocAttr,q1,q0]|apply ag<;>(intro h_;(try simp only [h_]);revert h_)|apply zzL|with_reducible intro h_|trivial|simp only [go_sem,ai];omega)
  refine ⟨_,_,_,?_,?_,⟨2,by omega,rfl,rfl,rfl⟩⟩
  ·omega
  ·refine Wk.sub ?_ ?_<;>(simp only [go_sem,sevalprocAttr,q2])
   all_goals simp_all
 |2,_=>
  have q2:(mU a b 2:Int)=a.length+b.length:=by simp [mU]
  repeat' (first|omega|(try apply ah);simp only [go_sem,sevalprocAttr,q2]|apply ag<;>(intro h_;(try simp only [h_]);revert h_)|apply zzL|with_reducible intro h_|trivial|simp only [go_sem,ai];omega)
  rw [hgi];refine ⟨aL.QT rfl hg ?_⟩
  repeat' (first|omega|(try apply ah);simp only [go_sem,sevalprocAttr]|apply ag<;>(intro h_;(try simp only [h_]);revert h_)|apply zzL|with_reducible intro h_|trivial|simp only [go_sem,ai];omega)
  refine cN.intro (fun n fr H=> ∃k:Nat,k<=2/\n=2-k/\fr=[(27,I k),(26,I 2),(25,catA a b),(6, .sl 1 0 0 (nI a b k).length)]/\H=[(0, .cells 3 (.ints (nI a b k)))]) ?_ ?_
  ·refine ⟨_,_,_,?_,0,by omega,rfl,rfl,rfl⟩;refine Wk.sub ?_ ?_<;>simp only [go_sem,sevalprocAttr]
   all_goals simp_all [nI]
  rintro n fr H ⟨k,hk,rfl,rfl,rfl⟩
  match k,hk with
  |0,_=>
   have q0:nI a b 0=[]:=by simp [nI]
   have q1:nI a b 1=a:=by simp [nI]
   rw [q0]
   repeat' (first|omega|(try apply ah);simp only [go_sem,sevalprocAttr]|apply ag<;>(intro h_;(try simp only [h_]);revert h_)|apply zzL|with_reducible intro h_|trivial|simp only [go_sem,ai];omega)
   refine ⟨_,_,_,?_,?_,⟨1,by omega,rfl,rfl,rfl⟩⟩
   ·omega
   ·refine Wk.sub ?_ ?_<;>(simp only [go_sem,sevalprocAttr,q1])
  |1,_=>
   have q0:nI a b 1=a:=by simp [nI]
   have q1:nI a b 2=a++b:=by simp [nI]
   rw [q0]
   repeat' (first|omega|(try apply ah);simp only [go_sem,sevalprocAttr]|apply ag<;>(intro h_;(try simp only [h_]);revert h_)|apply zzL|with_reducible intro h_|trivial|simp only [go_sem,ai];omega)
   refine ⟨_,_,_,?_,?_,⟨2,by omega,rfl,rfl,rfl⟩⟩
   ·omega
   ·refine Wk.sub ?_ ?_<;>(simp only [go_sem,sevalprocAttr,q1,zzF])
    all_goals rfl
  |2,_=>
   have q1:nI a b 2=a++b:=by simp [nI]
   rw [q1,zzF]
   repeat' (first|omega|(try apply ah);simp only [go_sem,sevalprocAttr]|apply ag<;>(intro h_;(try simp only [h_]);revert h_)|apply zzL|with_reducible intro h_|trivial|simp only [go_sem,ai];omega)
abbrev noR:AV:= .ro 1 0 (.lst [])
attribute [go_sem] noR
theorem yut:Fn Tryz.prog 116 [.ro 1 2 (.lst [noR,noR])] .nils:=by
 have hg:Fn Tryz.prog 157 [.nils,I 0] .nils:=by
  refine Fn.intro [.tmp 4] Tryz.func157 rfl rfl (by decide) (by simp [Tryz.ntmps157]) ?_;rw [Tryz.ntmps157]
  repeat' (first|omega|(try apply ah);simp only [go_sem,sevalprocAttr]|apply ag<;>(intro h_;(try simp only [h_]);revert h_)|apply zzL|with_reducible intro h_|trivial|simp only [go_sem,ai];omega)
 refine Fn.intro [.tmp 2] Tryz.func116 rfl rfl (by decide) (by simp [Tryz.ntmps116]) ?_;rw [Tryz.ntmps116]
 repeat' (first|omega|(try apply ah);simp only [go_sem,sevalprocAttr]|apply ag<;>(intro h_;(try simp only [h_]);revert h_)|apply zzL|with_reducible intro h_|trivial|simp only [go_sem,ai];omega)
 refine cN.intro (fun n fr H=> ∃k:Nat,k<=2/\n=2-k/\fr=[(11,I k),(10,I 2),(9, .ro 1 2 (.lst [noR,noR])),(3,I 0),(0, .ro 1 2 (.lst [noR,noR]))]/\H=[]) ?_ ?_
 ·refine ⟨_,_,_,?_,0,by omega,rfl,rfl,rfl⟩;refine Wk.sub ?_ ?_<;>simp only [go_sem,sevalprocAttr]
  all_goals simp_all
 rintro n fr H ⟨k,hk,rfl,rfl,rfl⟩;by_cases h2:k<2
 ·have zq:(k:Int)<2:=by omega
  have e:([AV.ro 1 0 (Cs.lst []),AV.ro 1 0 (Cs.lst [])]:List AV).getD k .any=AV.ro 1 0 (Cs.lst []):=by
   match k,h2 with
   |0,_=>rfl
   |1,_=>rfl
  repeat' (first|omega|(try apply ah);simp only [go_sem,sevalprocAttr,e]|apply ag<;>(intro h_;(try simp only [h_]);revert h_)|apply zzL|with_reducible intro h_|trivial|simp only [go_sem,ai];omega)
  refine ⟨_,_,_,?_,?_,⟨k+1,by omega,rfl,rfl,rfl⟩⟩
  ·omega
  ·refine Wk.sub ?_ ?_<;>(simp only [go_sem,sevalprocAttr])
   all_goals simp_all
 ·repeat' (first|omega|(try apply ah);simp only [go_sem,sevalprocAttr]|apply ag<;>(intro h_;(try simp only [h_]);revert h_)|apply zzL|with_reducible intro h_|trivial|simp only [go_sem,ai];omega)
  refine ⟨aL.fn rfl hg ?_⟩
  repeat' (first|omega|(try apply ah);simp only [go_sem,sevalprocAttr]|apply ag<;>(intro h_;(try simp only [h_]);revert h_)|apply zzL|with_reducible intro h_|trivial|simp only [go_sem,ai];omega)
  refine cN.intro (fun n fr H=> ∃k:Nat,k<=2/\n=2-k/\fr=[(27,I k),(26,I 2),(25, .ro 1 2 (.lst [noR,noR])),(6, .nils)]/\H=[]) ?_ ?_
  ·refine ⟨_,_,_,?_,0,by omega,rfl,rfl,rfl⟩;refine Wk.sub ?_ ?_<;>simp only [go_sem,sevalprocAttr]
   all_goals simp_all
  rintro n fr H ⟨k,hk,rfl,rfl,rfl⟩;by_cases h2:k<2
  ·have zq:(k:Int)<2:=by omega
   have e:([AV.ro 1 0 (Cs.lst []),AV.ro 1 0 (Cs.lst [])]:List AV).getD k .any=AV.ro 1 0 (Cs.lst []):=by
    match k,h2 with
    |0,_=>rfl
    |1,_=>rfl
   repeat' (first|omega|(try apply ah);simp only [go_sem,sevalprocAttr,e]|apply ag<;>(intro h_;(try simp only [h_]);revert h_)|apply zzL|with_reducible intro h_|trivial|simp only [go_sem,ai];omega)
   refine ⟨_,_,_,?_,?_,⟨k+1,by omega,rfl,rfl,rfl⟩⟩
   ·omega
   ·refine Wk.sub ?_ ?_<;>(simp only [go_sem,sevalprocAttr])
    all_goals simp_all
  ·repeat' (first|omega|(try apply ah);simp only [go_sem,sevalprocAttr]|apply ag<;>(intro h_;(try simp only [h_]);revert h_)|apply zzL|with_reducible intro h_|trivial|simp only [go_sem,ai];omega)
theorem VR.no {w:World} {M:Nat->Prop} {ρ:Nat->Addr} {D:Nat->Prop} {v:Value} (h:VR w M ρ D v (roI [])):VR w M ρ D v noR:=by
 cases h with
 |ro es len c ad cap x hl hc he h0 hv=>exact .ro 1 0 _ ad cap x rfl hc he (fun h=>absurd h (by omega)) (fun j hj=>absurd hj (by simp [Cs.len]))
theorem ZR:Fn Tryz.prog 116 [catA [] []] .nils:=by
 obtain ⟨h1,h2⟩:=yut;refine ⟨h1,fun w Mx vs pQ hl hv=>h2 w Mx vs pQ hl fun i v x g1 g2=>?_⟩
 match i,g2 with
 |0,g2=>
  cases g2
  have:=hv 0 v _ g1 rfl
  cases this with
  |ro es len c ad cap y hl hc he h0 cw=>
   refine .ro 1 2 _ ad cap y rfl hc he h0 (fun j hj=>?_);have h3:=cw j hj
   match j,hj with
   |0,_=>exact VR.no h3
   |1,_=>exact VR.no h3
def ve (a b:List Int) (k:Nat):List Int:=a++(List.range b.length).map fun i=>b.getD i 0+(if i<k then (a.length:Int) else 0)
theorem L7 (a b:List Int) (k:Nat):(ve a b k).length=a.length+b.length:=by simp [ve]
theorem Fa (a b:List Int) (k i:Nat):(ve a b k)[i]?=if i<a.length then a[i]? else if i-a.length<b.length then some (b.getD (i-a.length) 0+(if i-a.length<k then (a.length:Int) else 0)) else none:=by
 unfold ve;by_cases h:i<a.length
 ·rw [zzJ h,List.getElem?_append_left h]
 ·rw [zzI h,List.getElem?_append_right (by omega),zzO];by_cases h2:i-a.length<b.length
  ·rw [zzJ h2,List.getElem?_range h2];rfl
  ·rw [zzI h2,zzP (by simp;omega)];rfl
theorem Tf (a b:List Int) (k:Nat) (h:k<b.length):(ve a b k).getD (a.length+k) 0=b.getD k 0:=by
 rw [zzB,Fa,zzI (by omega),zzJ (by omega),show a.length+k-a.length=k by omega,zzI (by omega)];simp
theorem VL (a b:List Int):ve a b 0=a++b:=by
 apply List.ext_getElem?;intro i;rw [Fa];by_cases h:i<a.length
 ·rw [zzJ h,List.getElem?_append_left h]
 ·rw [zzI h,List.getElem?_append_right (by omega)];by_cases h2:i-a.length<b.length
  ·simp [h2]
  ·rw [zzI h2,zzP (by omega)]
theorem RP (a b:List Int) (k:Nat) (h:k<b.length):(ve a b k).set (a.length+k) (b.getD k 0+a.length)=ve a b (k+1):=by
 apply List.ext_getElem?;intro i;rw [List.getElem?_set,L7,Fa,Fa];by_cases e:a.length+k=i
 ·subst e;rw [zzJ rfl,zzJ (by omega),zzI (by omega),zzJ (by omega),show a.length+k-a.length=k by omega,zzJ (by omega)]
 ·rw [zzI e];by_cases h1:i<a.length
  ·rw [zzJ h1,zzJ h1]
  ·rw [zzI h1,zzI h1];by_cases h2:i-a.length<k
   ·rw [zzJ h2,zzJ (show i-a.length<k+1 by omega)]
   ·rw [zzI h2,zzI (show¬i-a.length<k+1 by omega)]
theorem Nh (a b:List Int):ve a b b.length=a++b.map fun x=>x+(a.length:Int):=by
 apply List.ext_getElem?;intro i;rw [Fa];by_cases h:i<a.length
 ·rw [zzJ h,List.getElem?_append_left h]
 ·rw [zzI h,List.getElem?_append_right (by omega),zzO];by_cases h2:i-a.length<b.length
  ·simp [h2]
  ·rw [zzI h2,zzP (by omega)];rfl
theorem Uq (s m:List Int) (L:Int) (s' m':List Int) (L' K:Int) (hs:s.length+s'.length<=64) (hm:m.length=4*s.length) (C0:m'.length=4*s'.length) (hb: ∀i,i<m'.length->0<=m'.getD i 0/\m'.getD i 0<=1000) (hK:K<=64):
  Fn Tryz.prog 73 [dgA s m L,dgA s' m' L',I K] (.tup [dgA (s++s') (ve m m' m'.length) K,I 0]):=by
 have b1:decide (64<(s.length:Int)+s'.length)=false:=by simp;omega
 have b2:decide (64<K)=false:=by simp;omega
 by_cases h0:s.length+s'.length=0
 ·obtain rfl:s=[]:=zzQ (by omega);obtain rfl:s'=[]:=zzQ (by omega);obtain rfl:m=[]:=zzQ (by simpa using hm);obtain rfl:m'=[]:=zzQ (by simpa using C0);have c0:=ZR;refine Fn.aG [.cell 6 24, .tmp 7] Tryz.func73 rfl rfl (by decide) (by simp [Tryz.ntmps73]) ?_;rw [Tryz.ntmps73]
  repeat' (first|omega|(first|apply ah|(refine ba.intro (id:=3) yM yL (by decide+kernel) mixed ?_)|(refine ba.intro (id:=7) yK yJ (by decide+kernel) mixed ?_)|skip);simp only [go_sem,sevalprocAttr,b1,b2,↓reduceIte,reduceCtorEq,yM,yL,yK,yJ]|apply ag<;>(intro h_;(try simp only [h_]);revert h_)|apply zzL|with_reducible intro h_|trivial|simp only [go_sem,ai];omega)
  refine ⟨bS.flat rfl (by simp only [go_sem,sevalprocAttr]) (by simp only [go_sem,sevalprocAttr];try rfl) c0 rfl ?_⟩;simp only [go_sem,sevalprocAttr];refine ⟨bS.flat rfl (by simp only [go_sem,sevalprocAttr]) (by simp only [go_sem,sevalprocAttr];try rfl) c0 rfl ?_⟩;simp only [go_sem,sevalprocAttr]
  repeat' (first|omega|(first|apply ah|(refine ba.intro (id:=3) yM yL (by decide+kernel) mixed ?_)|(refine ba.intro (id:=7) yK yJ (by decide+kernel) mixed ?_)|skip);simp only [go_sem,sevalprocAttr,↓reduceIte,reduceCtorEq,yM,yL,yK,yJ]|apply ag<;>(intro h_;(try simp only [h_]);revert h_)|apply zzL|with_reducible intro h_|trivial|simp only [go_sem,ai];omega)
  refine cN.intro (fun n fr H=>n=0/\fr=[(40,I 0),(39,I 0),(8, .ptr 17 0),(6, .ptr 2 0)]/\
   H=[(17, .cells 24 (.lst [.nils, .nils,I K])),(2, .cells 24 (.lst [.nils, .nils,I 0]))]) ?_ ?_
  ·refine ⟨_,_,_,?_,rfl,rfl,rfl⟩;refine Wk.sub ?_ ?_<;>simp only [go_sem,sevalprocAttr]
   all_goals simp_all
  rintro n fr H ⟨rfl,rfl,rfl⟩
  repeat' (first|omega|(try apply ah);simp only [go_sem,sevalprocAttr]|apply ag<;>(intro h_;(try simp only [h_]);revert h_)|apply zzL|with_reducible intro h_|trivial|simp only [go_sem,ai];omega)
  all_goals exact bE.wU (.cons (bE.sK (.cons (bE.nils (by omega) rfl) (.cons (bE.nils (by omega) rfl) (.cons (bE.refl _) .nil)))) (.cons (bE.refl _) .nil))
 have c1:=Kd s s' (by omega) (by omega) (by omega);have c2:=Kd m m' (by omega) (by omega) (by omega);refine Fn.aG [.cell 6 24, .tmp 7] Tryz.func73 rfl rfl (by decide) (by simp [Tryz.ntmps73]) ?_;rw [Tryz.ntmps73]
 repeat' (first|omega|(first|apply ah|(refine ba.intro (id:=3) yM yL (by decide+kernel) mixed ?_)|(refine ba.intro (id:=7) yK yJ (by decide+kernel) mixed ?_)|skip);simp only [go_sem,sevalprocAttr,b1,b2,↓reduceIte,reduceCtorEq,yM,yL,yK,yJ]|apply ag<;>(intro h_;(try simp only [h_]);revert h_)|apply zzL|with_reducible intro h_|trivial|simp only [go_sem,ai];omega)
 refine ⟨bS.own (h:=c1) (by simp only [go_sem,sevalprocAttr]) (by simp only [go_sem,sevalprocAttr];try rfl) ?_⟩;simp only [go_sem,sevalprocAttr];refine ⟨bS.own (h:=c2) (by simp only [go_sem,sevalprocAttr]) (by simp only [go_sem,sevalprocAttr];try rfl) ?_⟩;simp only [go_sem,sevalprocAttr]
 repeat' (first|omega|(first|apply ah|(refine ba.intro (id:=3) yM yL (by decide+kernel) mixed ?_)|(refine ba.intro (id:=7) yK yJ (by decide+kernel) mixed ?_)|skip);simp only [go_sem,sevalprocAttr,↓reduceIte,reduceCtorEq,yM,yL,yK,yJ]|apply ag<;>(intro h_;(try simp only [h_]);revert h_)|apply zzL|with_reducible intro h_|trivial|simp only [go_sem,ai];omega)
 refine cN.intro (fun n fr H=> ∃k:Nat,k<=m'.length/\n=m'.length-k/\fr=[(40,I k),(39,I m'.length),(8, .ptr 17 0),(6, .ptr 2 0),(4, .ptr 1 0),(3, .ptr 0 0)]/\
  H=[(17, .cells 24 (.lst [.sl 1 8 0 (s.length+s'.length), .sl 1 14 0 (m.length+m'.length),I K])),(14, .cells 3 (.ints (ve m m' k))),(8, .cells 3 (.ints (s++s'))),(2, .cells 24 (.lst [.nils, .nils,I 0])),(1, .cells 24 (.lst [roI s',roI m',I L'])),(0, .cells 24 (.lst [roI s,roI m,I L]))]) ?_ ?_
 ·refine ⟨_,_,_,?_,0,by omega,rfl,rfl,rfl⟩;rw [VL];refine Wk.sub ?_ ?_<;>simp only [go_sem,sevalprocAttr]
  all_goals simp_all
 rintro n fr H ⟨k,hk,rfl,rfl,rfl⟩;have ul:=L7 m m' k;by_cases cJ:k<m'.length
 ·have e1:((m.length:Int)+k).toNat=m.length+k:=by omega
  have e2:=Tf m m' k cJ;have iM:=hb k cJ
  repeat' (first|omega|(first|apply ah|(refine ba.intro (id:=3) yM yL (by decide+kernel) mixed ?_)|(refine ba.intro (id:=7) yK yJ (by decide+kernel) mixed ?_)|skip);simp only [go_sem,sevalprocAttr,e1,e2,↓reduceIte,reduceCtorEq,yM,yL,yK,yJ]|apply ag<;>(intro h_;(try simp only [h_]);revert h_)|apply zzL|with_reducible intro h_|trivial|simp only [go_sem,ai];omega)
  refine ⟨_,_,_,?_,?_,⟨k+1,by omega,rfl,rfl,rfl⟩⟩
  ·omega
  ·rw [<-RP m m' k cJ];refine Wk.sub ?_ ?_<;>(simp only [go_sem,sevalprocAttr])
   all_goals simp_all
 ·obtain rfl:k=m'.length:=by omega
  repeat' (first|omega|(try apply ah);simp only [go_sem,sevalprocAttr]|apply ag<;>(intro h_;(try simp only [h_]);revert h_)|apply zzL|with_reducible intro h_|trivial|simp only [go_sem,ai];omega)
  all_goals exact bE.wU (.cons (bE.sK (.cons (bE.of (by rw [zzR (by simp)])) (.cons (bE.of (by rw [ul,zzR (by omega)])) (.cons (bE.refl _) .nil)))) (.cons (bE.refl _) .nil))
def rQ (p:List (Int×Int)):List AV:=p.flatMap fun t=>[I t.1,I t.2]
abbrev tmA (p:List (Int×Int)):AV:= .ro 2 p.length (.lst (rQ p))
abbrev plA (b:Bool) (p:List (Int×Int)):AV:= .agg [.bool b,tmA p]
attribute [go_sem] tmA plA
theorem y9c (p:List (Int×Int)):(rQ p).length=2*p.length:=by
 unfold rQ;induction p with
 |nil=>rfl
 |cons x p ih=>simp [ih];omega
theorem Jl {p:List (Int×Int)} {x:AV} (h:x∈rQ p): ∃n,x=I n:=by
 unfold rQ at h;obtain ⟨t,_,ht⟩:=List.mem_flatMap.1 h;simp only [List.mem_cons,List.not_mem_nil,or_false] at ht;rcases ht with e|e<;>exact ⟨_,e⟩
theorem IX (p:List (Int×Int)):(rQ p).all p1=true:=List.all_eq_true.2 fun x hx=>by obtain ⟨n,rfl⟩:=Jl hx;rfl
theorem yabi (H:Hp) (p:List (Int×Int)):(rQ p).all (s3 H)=true:=List.all_eq_true.2 fun x hx=>by obtain ⟨n,rfl⟩:=Jl hx;rfl
theorem yabj (p:List (Int×Int)):(rQ p).all yc3=true:=List.all_eq_true.2 fun x hx=>by obtain ⟨n,rfl⟩:=Jl hx;rfl
theorem y9d (i:Nat) (p:List (Int×Int)):(rQ p).map (cutV i)=rQ p:=by
 conv=>rhs;rw [<-List.map_id (rQ p)]
 exact List.map_congr_left fun x hx=>by obtain ⟨n,rfl⟩:=Jl hx;rfl
theorem y5g (H:Hp) (n:Nat) (p:List (Int×Int)):(rQ p).map (snap H (n+1))=rQ p:=mh (IX p) H n
theorem y2b (H:Hp) (n:Nat) (p:List (Int×Int)):(∀x∈rQ p,eT H (n+1) x)=True:=mj (IX p) H n
theorem y9e (H:Hp) (n:Nat) (p:List (Int×Int)):(rQ p).map (cy H (n+1))=rQ p:=me (IX p) H n
theorem y5h (H:Hp) (n:Nat) (p:List (Int×Int)):(∀x∈rQ p,cC H (n+1) x)=True:=mg (IX p) H n
attribute [go_sem] yabi yabj y9d y5g y2b y9e y5h y9c
theorem y9f (fr:Fr):unl (lft fr)=fr:=by
 induction fr with
 |nil=>rfl
 |cons q r ih=>
  obtain ⟨t,x⟩:=q;simp only [lft,unl];rw [zzJ (by omega),ih,Nat.add_sub_cancel]
theorem y5i (i:Nat) (fr:Fr):fcut i (lft fr)=lft (fcut i fr):=by
 induction fr with
 |nil=>rfl
 |cons q r ih=>obtain ⟨t,x⟩:=q;simp only [lft,fcut,ih]
attribute [go_sem] y9f y5i
theorem y5j (s m:List Int) (L:Int) (s' m':List Int) (L':Int) (hv:bf s m L=true) (cw:bf s' m' L'=true) (hs:s.length+s'.length<=64) (hL:L+L'<=64):
  Fn Tryz.prog 24 [dgA s m L,dgA s' m' L'] (.tup [dgA (s++s') (Sp.bZ m m') (L+L'),I 0]):=by
 have v1:=bV hv;have v2:=bV cw;have hV:=vd s m L;rw [hv] at hV;have qY:=vd s' m' L';rw [cw] at qY;have l1:=v1.len;have l2:=v2.len;have l3:=v1.l0;have l4:=v2.l0;have hB:=Uq s m L s' m' L' (L+L') hs (by omega) (by omega) (fun i hi=>by
  have:=v2.dw.ok.2 i (by omega)
  have:=v2.s64
  omega) hL
 rw [Nh] at hB;refine Fn.aG [.cell 4 24, .tmp 5] Tryz.func24 rfl rfl (by decide) (by simp [Tryz.ntmps24]) ?_;rw [Tryz.ntmps24]
 repeat' (first|omega|(try apply ah);simp only [go_sem,sevalprocAttr]|apply ag<;>(intro h_;(try simp only [h_]);revert h_)|apply zzL|with_reducible intro h_|trivial|simp only [go_sem,ai];omega)
 refine ⟨aL.fn rfl hV ?_⟩
 repeat' (first|omega|(try apply ah);simp only [go_sem,sevalprocAttr]|apply ag<;>(intro h_;(try simp only [h_]);revert h_)|apply zzL|with_reducible intro h_|trivial|simp only [go_sem,ai];omega)
 refine ⟨aL.fn rfl qY ?_⟩
 repeat' (first|omega|(try apply ah);simp only [go_sem,sevalprocAttr]|apply ag<;>(intro h_;(try simp only [h_]);revert h_)|apply zzL|with_reducible intro h_|trivial|simp only [go_sem,ai];omega)
 refine ⟨aL.fn rfl hB ?_⟩
 repeat' (first|omega|(try apply ah);simp only [go_sem,sevalprocAttr]|apply ag<;>(intro h_;(try simp only [h_]);revert h_)|apply zzL|with_reducible intro h_|trivial|simp only [go_sem,ai];omega)
 all_goals exact bE.of (by simp [Sp.bZ])
def DX:List (List Nat):=[[25,26,29,30,31,32,33,35,8],[25,26,29,30,31,32,33,35,8],[23,24,29,30,31,32,33,35,8],[23,24,29,30,31,32,33,35,8],[29,30,31,32,33,35,8],[29,30,31,32,33,35,8],[23,24,25,26,27,28,31,32,35,8],[23,24,25,26,27,28,31,32,35,8],[23,24,25,26,27,28,29,30,35,8],[23,24,25,26,27,28,29,30,35,8],[23,24,25,26,27,28,35,8],[35,8],[23,24,25,26,27,28,29,30,31,32,33,34,8],[8],[23,24,25,26,27,28,29,30,31,32,33,34,35,36],[]]
def DW:List (List Nat):=[[],[],[0,1],[0,1],[],[],[0,1,2,3,4,5],[0,1,2,3,4,5],[0,1,2,3,4,5,6,7],[0,1,2,3,4,5,6,7],[0,1,2,3,4,5],[],[0,1,2,3,4,5,6,7,8,9,10,11],[],[0,1,2,3,4,5,6,7,8,9,10,11,12,13],[]]
def DV:List (List Nat):=[[45,46,47,48,49,52,53,54],[45,46,47,48,49,52,53,54],[43,44,48,52,53,54],[43,44,48,52,53,54],[43,44,48,52,53,54],[43,44,45,46,47,52,53,54],[43,44,52,53,54],[52,53,54],[52,53,54],[43,44,45,46,47,48,49,50,51],[43,44,45,46,47,48,49,50,51],[43,44,45,46,47,48,49,50,51],[],[],[]]
def DU:List (List Nat):=[[],[],[0,1],[0,1],[0,1],[0,1,2,3,4],[0,1],[],[],[0,1,2,3,4,5,6,7,8],[0,1,2,3,4,5,6,7,8],[0,1,2,3,4,5,6,7,8],[],[],[]]
def Wq:List (List Nat):=[[9,12,13,14,15],[8,12,13,14,15],[12,13,14,15],[12,13,14,15],[8,9,10,11,13,6],[8,9,10,11,12,6],[8,9,10,11,6],[8,9,10,11,6],[12,13,14,15],[]]
theorem ZQ (s m:List Int) (L:Int) (s' m':List Int) (L' K:Int) (hs:s.length+s'.length<=64) (h0:0<s.length+s'.length) (hm:m.length=4*s.length) (C0:m'.length=4*s'.length) (hb: ∀i,i<m'.length->0<=m'.getD i 0/\m'.getD i 0<=1000) (hK:K<=64):
  uX Tryz.prog 73 [dgA s m L,dgA s' m' L',I K] (.tup [.agg [.sl 1 8 0 (s.length+s'.length), .sl 1 14 0 (m.length+m'.length),I K],I 0]) [(14, .cells 3 (.ints (ve m m' m'.length))),(8, .cells 3 (.ints (s++s')))]:=by
 have b1:decide (64<(s.length:Int)+s'.length)=false:=by simp;omega
 have b2:decide (64<K)=false:=by simp;omega
 have c1:=Kd s s' (by omega) (by omega) (by omega);have c2:=Kd m m' (by omega) (by omega) (by omega);refine uX.intro [.cell 6 24, .tmp 7] Tryz.func73 rfl rfl (by decide) (by simp [Tryz.ntmps73]) ?_;rw [Tryz.ntmps73]
 repeat' (first|omega|(first|apply ah|(refine ba.intro (id:=3) DX DW (by decide+kernel) mixed ?_)|(refine ba.intro (id:=7) DV DU (by decide+kernel) mixed ?_)|skip);simp only [go_sem,sevalprocAttr,b1,b2,↓reduceIte,reduceCtorEq,DX,DW,DV,DU]|apply ag<;>(intro h_;(try simp only [h_]);revert h_)|apply zzL|with_reducible intro h_|trivial|simp only [go_sem,ai];omega)
 refine ⟨bS.own (h:=c1) (by simp only [go_sem,sevalprocAttr]) (by simp only [go_sem,sevalprocAttr];try rfl) ?_⟩;simp only [go_sem,sevalprocAttr];refine ⟨bS.own (h:=c2) (by simp only [go_sem,sevalprocAttr]) (by simp only [go_sem,sevalprocAttr];try rfl) ?_⟩;simp only [go_sem,sevalprocAttr]
 repeat' (first|omega|(first|apply ah|(refine ba.intro (id:=3) DX DW (by decide+kernel) mixed ?_)|(refine ba.intro (id:=7) DV DU (by decide+kernel) mixed ?_)|skip);simp only [go_sem,sevalprocAttr,↓reduceIte,reduceCtorEq,DX,DW,DV,DU]|apply ag<;>(intro h_;(try simp only [h_]);revert h_)|apply zzL|with_reducible intro h_|trivial|simp only [go_sem,ai];omega)
 refine cN.intro (fun n fr H=> ∃k:Nat,k<=m'.length/\n=m'.length-k/\fr=[(40,I k),(39,I m'.length),(8, .ptr 17 0),(6, .ptr 2 0),(4, .ptr 1 0),(3, .ptr 0 0)]/\
  H=[(17, .cells 24 (.lst [.sl 1 8 0 (s.length+s'.length), .sl 1 14 0 (m.length+m'.length),I K])),(14, .cells 3 (.ints (ve m m' k))),(8, .cells 3 (.ints (s++s'))),(2, .cells 24 (.lst [.nils, .nils,I 0])),(1, .cells 24 (.lst [roI s',roI m',I L'])),(0, .cells 24 (.lst [roI s,roI m,I L]))]) ?_ ?_
 ·refine ⟨_,_,_,?_,0,by omega,rfl,rfl,rfl⟩;rw [VL];refine Wk.sub ?_ ?_<;>simp only [go_sem,sevalprocAttr]
  all_goals simp_all
 rintro n fr H ⟨k,hk,rfl,rfl,rfl⟩;have ul:=L7 m m' k;by_cases cJ:k<m'.length
 ·have e1:((m.length:Int)+k).toNat=m.length+k:=by omega
  have e2:=Tf m m' k cJ;have iM:=hb k cJ
  repeat' (first|omega|(first|apply ah|(refine ba.intro (id:=3) DX DW (by decide+kernel) mixed ?_)|(refine ba.intro (id:=7) DV DU (by decide+kernel) mixed ?_)|skip);simp only [go_sem,sevalprocAttr,e1,e2,↓reduceIte,reduceCtorEq,DX,DW,DV,DU]|apply ag<;>(intro h_;(try simp only [h_]);revert h_)|apply zzL|with_reducible intro h_|trivial|simp only [go_sem,ai];omega)
  refine ⟨_,_,_,?_,?_,⟨k+1,by omega,rfl,rfl,rfl⟩⟩
  ·omega
  ·rw [<-RP m m' k cJ];refine Wk.sub ?_ ?_<;>(simp only [go_sem,sevalprocAttr])
   all_goals simp_all
 ·obtain rfl:k=m'.length:=by omega
  repeat' (first|omega|(try apply ah);simp only [go_sem,sevalprocAttr]|apply ag<;>(intro h_;(try simp only [h_]);revert h_)|apply zzL|with_reducible intro h_|trivial|simp only [go_sem,ai];omega)
theorem ytv (s m:List Int) (L x:Int) (hx:0<=x/\x<4*s.length) (hs:s.length<=1000):Fn Tryz.prog 117 [dgA s m L,I x] (.bool (aj s x)):=by
 have e1:x.tmod 4=x % 4:=MI hx.1;have e2:x.tdiv 4=x/4:=s9 hx.1;refine Fn.intro [.tmp 4] Tryz.func117 rfl rfl (by decide) (by simp [Tryz.ntmps117]) ?_;rw [Tryz.ntmps117]
 repeat' (first|omega|(try apply ah);simp only [go_sem,sevalprocAttr,e1,e2]|apply ag<;>(intro h_;(try simp only [h_]);revert h_)|apply zzL|with_reducible intro h_|trivial|simp only [go_sem,ai];omega)
 all_goals (simp_all [aj])
theorem L6 (s m:List Int) (L x:Int) (hx:0<=x/\x<m.length) (hm:m.length=4*s.length) (hs:s.length<=1000):Fn Tryz.prog 75 [dgA s m L,I x] (.bool (aj s x)):=by
 have hO:=ytv s m L x (by omega) hs;have b1:(x== -1)=false:=by rw [zzU];omega
 have b2:decide (0<=x)=true:=by rw [decide_eq_true_iff];omega
 have b3:decide (x<m.length)=true:=by rw [decide_eq_true_iff];omega
 refine Fn.intro [.tmp 4] Tryz.func75 rfl rfl (by decide) (by simp [Tryz.ntmps75]) ?_;rw [Tryz.ntmps75]
 repeat' (first|omega|(try apply ah);simp only [go_sem,sevalprocAttr,b1,b2,b3]|(refine ⟨aL.fn (r:=?_) rfl ?_ ?_⟩;rotate_left;assumption)|(refine ⟨bS.fn (r:=?_) rfl ?_ ?_⟩;rotate_left;assumption)|apply ag<;>(intro h_;(try simp only [h_]);revert h_)|apply zzL|with_reducible intro h_|trivial|simp only [go_sem,ai];omega)
abbrev Zd (s m:List Int) (L:Int) (s' m':List Int) (L':Int) (M:List Int) (K:Int):Hp:=[(18, .cells 24 (.lst [.sl 1 11 0 (s.length+s'.length), .sl 1 17 0 (m.length+m'.length),I K])),(17, .cells 3 (.ints M)),(11, .cells 3 (.ints (s++s'))),(2, .cells 24 (.lst [.nils, .nils,I 0])),(1, .cells 24 (.lst [roI s',roI m',I L'])),(0, .cells 24 (.lst [roI s,roI m,I L]))]
theorem ZP (s m:List Int) (L:Int) (s' m':List Int) (L':Int) (M:List Int) (K:Int) (x y:Nat) (yy:Int) (hyy:yy=y) (hM:M.length=m.length+m'.length) (hx:x<M.length) (hy:y<M.length) (hl:M.length<=1000) (hp:0<=M.getD x 0/\M.getD x 0<M.length) (hq:0<=M.getD y 0/\M.getD y 0<M.length) {fr:Fr} {Q:AV->Fr->Hp->Prop}
  (hK:Q (.tup []) fr (Zd s m L s' m' L' (AG M x y) K)):
  pS Tryz.prog 76 [.sl 1 17 0 (m.length+m'.length),I x,I yy] fr (Zd s m L s' m' L' M K) Q:=by
 subst hyy;obtain ⟨p,Ev⟩: ∃p,M.getD x 0=p:=⟨_,rfl⟩;obtain ⟨q,PH⟩: ∃q,M.getD y 0=q:=⟨_,rfl⟩;unfold AG at hK;rw [Ev,PH] at hK;rw [Ev] at hp;rw [PH] at hq;refine pS.intro [] Tryz.func76 rfl rfl (by decide) (by simp [Tryz.ntmps76]) ?_;rw [Tryz.ntmps76]
 repeat' (first|omega|(first|apply ah|(refine ba.intro (id:=0) Wq [[],[0],[],[],[0,1,2,3],[0,1,2,3,4],[0,1,2,3],[0,1,2,3],[4,5,6,7],[]] (by decide+kernel) mixed ?_)|skip);simp only [go_sem,sevalprocAttr,Ev,PH,List.length_set,↓reduceIte,reduceCtorEq,Wq]|apply ag<;>(intro h_;(try simp only [h_]);revert h_)|apply zzL|with_reducible intro h_|trivial|simp only [go_sem,ai];omega)
 all_goals exact hK
theorem NS (s m:List Int) (L:Int) (s' m':List Int) (L':Int) (x y:Nat) (hv:bf s m L=true) (cw:bf s' m' L'=true) (hs:s.length+s'.length<=64) (hL:L+L'<=64) (hx:x<m.length) (hy:y<m'.length) (ox:aj s x=true) (oy:aj s' y=true):
  Fn Tryz.prog 27 [dgA s m L,I x,dgA s' m' L',I y] (.tup [dgA (s++s') (iO m m' x y) (L+L'),I 0]):=by
 have v1:=bV hv;have v2:=bV cw;have hV:=vd s m L;rw [hv] at hV;have qY:=vd s' m' L';rw [cw] at qY;have l1:=v1.len;have l2:=v2.len;have l3:=v1.l0;have l4:=v2.l0;have hE:=L6 s m L x (by omega) l1 (by omega);rw [ox] at hE;have bK:=L6 s' m' L' y (by omega) l2 (by omega);rw [oy] at bK;have hB:=ZQ s m L s' m' L' (L+L') hs (by omega) l1 l2 (fun i hi=>by
  have:=v2.dw.ok.2 i (by omega)
  have:=v2.s64
  omega) hL
 rw [Nh] at hB;have b1:((x:Int)== -1)=false:=by rw [zzU];omega
 have b2:((y:Int)== -1)=false:=by rw [zzU];omega
 refine Fn.aG [.cell 8 24, .tmp 9] Tryz.func27 rfl rfl (by decide) (by simp [Tryz.ntmps27]) ?_;rw [Tryz.ntmps27]
 repeat' (first|omega|(try apply ah);simp only [go_sem,sevalprocAttr,b1,b2]|(refine ⟨aL.fn (r:=?_) rfl ?_ ?_⟩;rotate_left;assumption)|(refine ⟨bS.fn (r:=?_) rfl ?_ ?_⟩;rotate_left;assumption)|apply ag<;>(intro h_;(try simp only [h_]);revert h_)|apply zzL|with_reducible intro h_|trivial|simp only [go_sem,ai];omega)
 refine ⟨aL.QT rfl hB ?_⟩
 repeat' (first|omega|(try apply ah);simp only [go_sem,sevalprocAttr,b1,b2]|(refine ⟨aL.fn (r:=?_) rfl ?_ ?_⟩;rotate_left;assumption)|(refine ⟨bS.fn (r:=?_) rfl ?_ ?_⟩;rotate_left;assumption)|apply ag<;>(intro h_;(try simp only [h_]);revert h_)|apply zzL|with_reducible intro h_|trivial|simp only [go_sem,ai];omega)
 have tn:=pX (Sp.dQ hv cw hs hL);have cP:(s++s').length=s.length+s'.length:=by simp
 rw [cP] at tn;have Yd:=tn.ok.1;have px:=tn.ok.2 x (by omega);have py:=tn.ok.2 (m.length+y) (by omega);refine ⟨aL.inline (ZP s m L s' m' L' (Sp.bZ m m') (L+L') x (m.length+y) _ (by simp) (by omega) (by omega) (by omega) (by omega) (by omega) (by omega) ?_)⟩;have bF:(iO m m' x y).length=m.length+m'.length:=by unfold iO;rw [R1];omega
 have hcM:AG (Sp.bZ m m') x (m.length+y)=iO m m' x y:=rfl;rw [hcM]
 repeat' (first|omega|(try apply ah);simp only [go_sem,sevalprocAttr]|apply ag<;>(intro h_;(try simp only [h_]);revert h_)|apply zzL|with_reducible intro h_|trivial|simp only [go_sem,ai];omega)
 all_goals exact bE.wU (.cons (bE.sK (.cons (bE.of (by rw [zzR (by simp)])) (.cons (bE.of (by rw [bF,zzR (by omega)])) (.cons (bE.refl _) .nil)))) (.cons (bE.refl _) .nil))
def mT (s m:List Int) (L x:Int):Bool:=if x= -1 then decide (0<L) else decide (0<=x)&&(decide (x<m.length)&&aj s x)
theorem Te (s m:List Int) (L x:Int) (hm:m.length=4*s.length) (hs:s.length<=1000):Fn Tryz.prog 75 [dgA s m L,I x] (.bool (mT s m L x)):=by
 by_cases h:x= -1
 ·unfold mT;rw [zzJ h];have b1:(x== -1)=true:=by rw [beq_iff_eq];exact h
  refine Fn.intro [.tmp 4] Tryz.func75 rfl rfl (by decide) (by simp [Tryz.ntmps75]) ?_;rw [Tryz.ntmps75]
  repeat' (first|omega|(try apply ah);simp only [go_sem,sevalprocAttr,b1]|(refine ⟨aL.fn (r:=?_) rfl ?_ ?_⟩;rotate_left;assumption)|(refine ⟨bS.fn (r:=?_) rfl ?_ ?_⟩;rotate_left;assumption)|apply ag<;>(intro h_;(try simp only [h_]);revert h_)|apply zzL|with_reducible intro h_|trivial|simp only [go_sem,ai];omega)
 have b1:(x== -1)=false:=by rw [zzU];exact h
 by_cases h0:0<=x
 ·by_cases h1:x<m.length
  ·have e:mT s m L x=aj s x:=by unfold mT;rw [zzI h,decide_eq_true h0,decide_eq_true h1,Bool.true_and,Bool.true_and]
   rw [e];exact L6 s m L x ⟨h0,h1⟩ hm hs
  ·have b2:decide (0<=x)=true:=decide_eq_true h0;have b3:decide (x<m.length)=false:=decide_eq_false h1;have e:mT s m L x=false:=by unfold mT;rw [zzI h,b3,Bool.false_and,Bool.and_false]
   rw [e];refine Fn.intro [.tmp 4] Tryz.func75 rfl rfl (by decide) (by simp [Tryz.ntmps75]) ?_;rw [Tryz.ntmps75]
   repeat' (first|omega|(try apply ah);simp only [go_sem,sevalprocAttr,b1,b2,b3]|(refine ⟨aL.fn (r:=?_) rfl ?_ ?_⟩;rotate_left;assumption)|(refine ⟨bS.fn (r:=?_) rfl ?_ ?_⟩;rotate_left;assumption)|apply ag<;>(intro h_;(try simp only [h_]);revert h_)|apply zzL|with_reducible intro h_|trivial|simp only [go_sem,ai];omega)
 ·have b2:decide (0<=x)=false:=decide_eq_false h0;have e:mT s m L x=false:=by unfold mT;rw [zzI h,b2,Bool.false_and]
  rw [e];refine Fn.intro [.tmp 4] Tryz.func75 rfl rfl (by decide) (by simp [Tryz.ntmps75]) ?_;rw [Tryz.ntmps75]
  repeat' (first|omega|(try apply ah);simp only [go_sem,sevalprocAttr,b1,b2]|(refine ⟨aL.fn (r:=?_) rfl ?_ ?_⟩;rotate_left;assumption)|(refine ⟨bS.fn (r:=?_) rfl ?_ ?_⟩;rotate_left;assumption)|apply ag<;>(intro h_;(try simp only [h_]);revert h_)|apply zzL|with_reducible intro h_|trivial|simp only [go_sem,ai];omega)
section
variable (s m:List Int) (L:Int) (s' m':List Int) (L' x y:Int) (hv:bf s m L=true) (cw:bf s' m' L'=true)
include hv cw
theorem y9g (h1:mT s m L x=true) (h2:mT s' m' L' y=true) (vr:x= -1\/y= -1) (hs:s.length+s'.length<=64) (hL:L+L'<=64):
  Fn Tryz.prog 27 [dgA s m L,I x,dgA s' m' L',I y] (.tup [dgA (s++s') (Sp.bZ m m') (L+L'-1),I 0]):=by
 have v1:=bV hv;have v2:=bV cw;have hV:=vd s m L;rw [hv] at hV;have qY:=vd s' m' L';rw [cw] at qY;have l1:=v1.len;have l2:=v2.len;have l3:=v1.l0;have l4:=v2.l0;have hE:=Te s m L x l1 (by omega);rw [h1] at hE;have bK:=Te s' m' L' y l2 (by omega);rw [h2] at bK;have hB:=Uq s m L s' m' L' (L+L'-1) hs (by omega) (by omega) (fun i hi=>by
  have:=v2.dw.ok.2 i (by omega)
  have:=v2.s64
  omega) (by omega)
 rw [Nh,show m++m'.map (fun x=>x+(m.length:Int))=Sp.bZ m m' from rfl] at hB;have bxy:(x== -1)=true\/((x== -1)=false/\(y== -1)=true):=by
  by_cases h:x= -1
  ·exact .inl (by rw [beq_iff_eq];exact h)
  ·exact .inr ⟨by rw [zzU];exact h,by rw [beq_iff_eq];omega⟩
 rcases bxy with b1|⟨b1,b2⟩
 ·refine Fn.intro [.cell 8 24, .tmp 9] Tryz.func27 rfl rfl (by decide) (by simp [Tryz.ntmps27]) ?_;rw [Tryz.ntmps27]
  repeat' (first|omega|(try apply ah);simp only [go_sem,sevalprocAttr,b1]|(refine ⟨aL.fn (r:=?_) rfl ?_ ?_⟩;rotate_left;assumption)|(refine ⟨bS.fn (r:=?_) rfl ?_ ?_⟩;rotate_left;assumption)|apply ag<;>(intro h_;(try simp only [h_]);revert h_)|apply zzL|with_reducible intro h_|trivial|simp only [go_sem,ai];omega)
 ·refine Fn.intro [.cell 8 24, .tmp 9] Tryz.func27 rfl rfl (by decide) (by simp [Tryz.ntmps27]) ?_;rw [Tryz.ntmps27]
  repeat' (first|omega|(try apply ah);simp only [go_sem,sevalprocAttr,b1,b2]|(refine ⟨aL.fn (r:=?_) rfl ?_ ?_⟩;rotate_left;assumption)|(refine ⟨bS.fn (r:=?_) rfl ?_ ?_⟩;rotate_left;assumption)|apply ag<;>(intro h_;(try simp only [h_]);revert h_)|apply zzL|with_reducible intro h_|trivial|simp only [go_sem,ai];omega)
end
theorem Td (h b:Int) (h0:0<=h) (h1:h<=100000):Fn Tryz.prog 148 [I h,I b] (I (iJ h b)):=by
 have e1:h.tmod 4=h % 4:=Int.tmod_eq_emod_of_nonneg h0;have e2: -4<b.tmod 4/\b.tmod 4<4:=⟨Int.lt_tmod_of_pos b (by decide),Int.tmod_lt_of_pos b (by decide)⟩;have e4:(h % 4+b.tmod 4).tmod 4=if 0<=h % 4+b.tmod 4 then (h % 4+b.tmod 4)% 4 else h % 4+b.tmod 4:=by
  split
  ·exact Int.tmod_eq_emod_of_nonneg (by omega)
  ·rename_i hn
   have:(h % 4+b.tmod 4)= -(-(h % 4+b.tmod 4)):=by omega
   rw [this,Int.neg_tmod,Int.tmod_eq_emod_of_nonneg (by omega)];omega
 have e3:((h % 4+b.tmod 4).tmod 4+4).tmod 4=(h % 4+b.tmod 4+4)% 4:=by
  rw [e4,Int.tmod_eq_emod_of_nonneg (by split<;>omega)]
  split<;>omega
 unfold iJ;refine Fn.intro [.tmp 4] Tryz.func148 rfl rfl (by decide) (by simp [Tryz.ntmps148]) ?_;rw [Tryz.ntmps148]
 repeat' (first|omega|(try apply ah);simp only [go_sem,sevalprocAttr]|apply ag<;>(intro h_;(try simp only [h_]);revert h_)|apply zzL|with_reducible intro h_|trivial|simp only [go_sem,ai];omega)
 all_goals try simp only [e1,e3]
 all_goals try (rw [e4];split<;>omega)
 all_goals try omega
theorem Jk (s:List Int) (h:Int) (h0:0<=h) (h1:h<4*s.length) (hs:s.length<=1000):Fn Tryz.prog 46 [roI s,I h] (.bool (aj s h)):=by
 have e1:h.tmod 4=h % 4:=Int.tmod_eq_emod_of_nonneg h0;have e2:h.tdiv 4=h/4:=Int.tdiv_eq_ediv_of_nonneg h0;refine Fn.intro [.tmp 4] Tryz.func46 rfl rfl (by decide) (by simp [Tryz.ntmps46]) ?_;rw [Tryz.ntmps46]
 repeat' (first|omega|(try apply ah);simp only [go_sem,sevalprocAttr]|apply ag<;>(intro h_;(try simp only [h_]);revert h_)|apply zzL|with_reducible intro h_|trivial|simp only [go_sem,ai];omega)
 all_goals try simp only [e1,e2] at*
 all_goals try omega
 all_goals simp_all [aj]
theorem Tc (m:List Int) (n h:Nat) (hn:n<=1000) (iR:m.length=4*n) (hm: ∀i,i<m.length->0<=m.getD i 0/\m.getD i 0<4*n) (hh:h<m.length):Fn Tryz.prog 98 [roI m,I h] (roI (af (cm m) m.length h)):=by
 have vB: ∀g:Nat,g<m.length->Fn Tryz.prog 148 [I (m.getD g 0),I (-1)] (I (cm m g)):=fun g hg=>by
  have:=hm g hg
  exact Td _ _ (by omega) (by omega)
 have GX: ∀g:Nat,g<m.length->0<=cm m g/\cm m g<4*n:=fun g hg=>FE (hm g hg).1 (hm g hg).2;have Qz: ∀g:Nat,g<m.length->(g:Int)<m.length:=fun g hg=>by omega
 have Qe:=vB h hh;refine Fn.intro [.tmp 4] Tryz.func98 rfl rfl (by decide) (by simp [Tryz.ntmps98]) ?_;rw [Tryz.ntmps98]
 repeat' (first|omega|(try apply ah);simp only [go_sem,sevalprocAttr]|apply ag<;>(intro h_;(try simp only [h_]);revert h_)|apply zzL|with_reducible intro h_|trivial|simp only [go_sem,ai];omega)
 refine ⟨aL.fn rfl Qe ?_⟩
 repeat' (first|omega|(try apply ah);simp only [go_sem,sevalprocAttr]|apply ag<;>(intro h_;(try simp only [h_]);revert h_)|apply zzL|with_reducible intro h_|trivial|simp only [go_sem,ai];omega)
 refine cN.intro (fun k fr H=> ∃(acc:List Int) (g:Nat),g<m.length/\0<acc.length/\acc.length+k=m.length+2/\acc++iz (cm m) h (m.length+1-acc.length) g=af (cm m) m.length h/\fr=[(6,I g),(5, .sl 1 0 0 acc.length),(1,I h),(0,roI m)]/\H=[(0, .cells 3 (.ints acc))]) ?_ ?_
 ·have h2:=GX h hh;refine ⟨m.length+1,_,_,?_,[(h:Int)],(cm m h).toNat,by omega,by simp,by simp;omega,?_,rfl,rfl⟩
  ·refine Wk.sub ?_ ?_<;>simp only [go_sem,sevalprocAttr]
   all_goals omega
  ·rw [Int.toNat_of_nonneg h2.1];simp [af]
 rintro k fr H ⟨acc,g,hg,ha,hk,sH,rfl,rfl⟩;have qS:=vB g hg;have hr:=GX g hg;have key:((g:Int)=h\/m.length<acc.length)->acc=af (cm m) m.length h:=fun hc=>by
  rw [<-sH];rcases hc with e|e
  ·have:iz (cm m) h (m.length+1-acc.length) g=[]:=by
    cases m.length+1-acc.length with
    |zero=>rfl
    |succ f=>simp [iz,e]
   rw [this,List.append_nil]
  ·rw [show m.length+1-acc.length=0 by omega];simp [iz]
 repeat' (first|omega|(try apply ah);simp only [go_sem,sevalprocAttr]|apply ag<;>(intro h_;(try simp only [h_]);revert h_)|apply zzL|with_reducible intro h_|trivial|simp only [go_sem,ai];omega)
 ·refine ⟨aL.fn rfl qS ?_⟩
  repeat' (first|omega|(try apply ah);simp only [go_sem,sevalprocAttr]|apply ag<;>(intro h_;(try simp only [h_]);revert h_)|apply zzL|with_reducible intro h_|trivial|simp only [go_sem,ai];omega)
  refine ⟨k-1,_,_,?_,?_,⟨acc++[(g:Int)],(cm m g).toNat,by omega,by simp,by simp;omega,?_,rfl,rfl⟩⟩
  ·omega
  ·refine Wk.sub ?_ ?_<;>simp only [go_sem,sevalprocAttr]
   all_goals omega
  ·rw [<-sH,Int.toNat_of_nonneg hr.1,show m.length+1-acc.length=(m.length+1-(acc++[(g:Int)]).length)+1 by simp;omega];rw [iz,zzI (by omega)];simp
 all_goals first
  |exact congrArg List.length (key (by omega))
  |(rw [List.take_length];exact key (by omega))
def vU:List (List Nat):=[[38,39,40,41,42],[38,39,40,41,42],[36,37,39,8],[36,37,38,8],[36,37,8],[36,37,8],[36,37,8],[38,39,40,41,42],[]]
def vT:List (List Nat):=[[44,47,48,49,50],[43,47,48,49,50],[47,48,49,50],[47,48,49,50],[43,44,45,46,48],[43,44,45,46,47],[43,44,45,46],[43,44,45,46],[],[]]
theorem L5 (m l:List Int): ∀h,(rB m l h).length=l.length
 |0=>rfl
 |h+1=>by simp only [rB,v7,List.length_set];exact L5 m l h
theorem L4 (m:List Int) (n:Nat): ∀k,(bX m n k).length=n
 |0=>by simp [bX]
 |k+1=>by simp only [bX];rw [L5,L4 m n k]
theorem y2d (m:List Int) (n:Nat) (hn:n<=1000) (hm:pT m n):Fn Tryz.prog 47 [roI m] (roI (bX m n n)):=by
 obtain ⟨iR,qz⟩:=hm;have e0:(m.length:Int).tdiv 4=n:=by rw [s9 (by omega)];omega
 refine Fn.intro [.tmp 2] Tryz.func47 rfl rfl (by decide) (by simp [Tryz.ntmps47]) ?_;rw [Tryz.ntmps47]
 repeat' (first|omega|(first|apply ah|(refine ba.intro (id:=13) vU [[],[],[0,1],[0,1,2],[0,1],[0,1],[0,1],[2,3,4,5,6],[]] (by decide+kernel) mixed ?_)|(refine ba.intro (id:=14) vT [[],[0],[],[],[0,1,2,3],[0,1,2,3,4],[0,1,2,3],[0,1,2,3],[],[]] (by decide+kernel) mixed ?_)|skip);simp only [go_sem,sevalprocAttr,e0,↓reduceIte,reduceCtorEq,vU,vT]|apply ag<;>(intro h_;(try simp only [h_]);revert h_)|apply zzL|with_reducible intro h_|trivial|simp only [go_sem,ai];omega)
 refine cN.intro (fun t fr H=> ∃k:Nat,k<=n/\t=n-k/\fr=[(5,I k),(4, .sl 1 0 0 n),(3,I n),(0,roI m)]/\H=[(0, .cells 3 (.ints ((List.range k).map (fun (i:Nat)=>(i:Int))++List.replicate (n-k) 0)))]) ?_ ?_
 ·refine ⟨_,_,_,?_,0,by omega,rfl,rfl,rfl⟩;refine Wk.sub ?_ ?_<;>simp only [go_sem,sevalprocAttr]
  all_goals simp
 rintro t fr H ⟨k,hk,rfl,rfl,rfl⟩
 repeat' (first|omega|(first|apply ah|(refine ba.intro (id:=13) vU [[],[],[0,1],[0,1,2],[0,1],[0,1],[0,1],[2,3,4,5,6],[]] (by decide+kernel) mixed ?_)|(refine ba.intro (id:=14) vT [[],[0],[],[],[0,1,2,3],[0,1,2,3,4],[0,1,2,3],[0,1,2,3],[],[]] (by decide+kernel) mixed ?_)|skip);simp only [go_sem,sevalprocAttr,List.length_range,↓reduceIte,reduceCtorEq,vU,vT]|apply ag<;>(intro h_;(try simp only [h_]);revert h_)|apply zzL|with_reducible intro h_|trivial|simp only [go_sem,ai];omega)
 ·refine ⟨_,_,_,?_,?_,⟨k+1,by omega,rfl,rfl,rfl⟩⟩
  ·omega
  ·have e:((List.range k).map (fun (i:Nat)=>(i:Int))++List.replicate (n-k) 0).set k k=(List.range (k+1)).map (fun (i:Nat)=>(i:Int))++List.replicate (n-(k+1)) 0:=by
    rw [List.set_append,zzI (by simp),show n-k=(n-(k+1))+1 by omega,List.replicate_succ];simp [List.range_succ]
   rw [e];refine Wk.sub ?_ ?_<;>simp only [go_sem,sevalprocAttr]
 obtain rfl:k=n:=by omega
 refine cN.intro (fun t fr H=> ∃q:Nat,q<=k/\t=k-q/\fr=[(6,I q),(4, .sl 1 0 0 k),(3,I k),(0,roI m)]/\H=[(0, .cells 3 (.ints (bX m k q)))]) ?_ ?_
 ·refine ⟨_,_,_,?_,0,by omega,rfl,rfl,rfl⟩;refine Wk.sub ?_ ?_<;>simp only [go_sem,sevalprocAttr]
  all_goals simp [bX]
 rintro t fr H ⟨q,hq,rfl,rfl,rfl⟩;have og:=L4 m k q;by_cases hqk:q<k
 ·have bq:decide ((q:Int)<k)=true:=by simp;omega
  repeat' (first|omega|(first|apply ah|(refine ba.intro (id:=13) vU [[],[],[0,1],[0,1,2],[0,1],[0,1],[0,1],[2,3,4,5,6],[]] (by decide+kernel) mixed ?_)|(refine ba.intro (id:=14) vT [[],[0],[],[],[0,1,2,3],[0,1,2,3,4],[0,1,2,3],[0,1,2,3],[],[]] (by decide+kernel) mixed ?_)|skip);simp only [go_sem,sevalprocAttr,bq,↓reduceIte,reduceCtorEq,vU,vT]|apply ag<;>(intro h_;(try simp only [h_]);revert h_)|apply zzL|with_reducible intro h_|trivial|simp only [go_sem,ai];omega)
  refine cN.intro (fun t fr H=> ∃h:Nat,h<=4*k/\t=4*k-h/\fr=[(7,I h),(6,I q),(4, .sl 1 0 0 k),(3,I k),(0,roI m)]/\H=[(0, .cells 3 (.ints (rB m (bX m k q) h)))]) ?_ ?_
  ·refine ⟨_,_,_,?_,0,by omega,rfl,rfl,rfl⟩;refine Wk.sub ?_ ?_<;>simp only [go_sem,sevalprocAttr]
   all_goals simp [rB]
  rintro t fr H ⟨h,hh,rfl,rfl,rfl⟩;have YG:(rB m (bX m k q) h).length=k:=by rw [L5,og]
  by_cases hhk:h<4*k
  ·have bh:decide ((h:Int)<m.length)=true:=by simp;omega
   have hr:=qz h hhk;have e1:(h:Int).tdiv 4=((h/4:Nat):Int):=by rw [s9 (by omega)];omega
   have e2:(m.getD h 0).tdiv 4=((m.getD h 0/4).toNat:Int):=by rw [s9 (by omega)];omega
   have e3:(m.getD h 0/4).toNat<k:=by omega
   repeat' (first|omega|(first|apply ah|(refine ba.intro (id:=13) vU [[],[],[0,1],[0,1,2],[0,1],[0,1],[0,1],[2,3,4,5,6],[]] (by decide+kernel) mixed ?_)|(refine ba.intro (id:=14) vT [[],[0],[],[],[0,1,2,3],[0,1,2,3,4],[0,1,2,3],[0,1,2,3],[],[]] (by decide+kernel) mixed ?_)|skip);simp only [go_sem,sevalprocAttr,bh,e1,e2,↓reduceIte,reduceCtorEq,vU,vT]|apply ag<;>(intro h_;(try simp only [h_]);revert h_)|apply zzL|with_reducible intro h_|trivial|simp only [go_sem,ai];omega)
   refine ⟨_,_,_,?_,?_,⟨h+1,by omega,rfl,rfl,rfl⟩⟩
   ·omega
   ·have em: ∀a b:Int,(if b<a then b else a)=min a b:=fun a b=>by split<;>omega
    have eh:rB m (bX m k q) (h+1)=((rB m (bX m k q) h).set (h/4) (min ((rB m (bX m k q) h).getD (h/4) 0) ((rB m (bX m k q) h).getD (m.getD h 0/4).toNat 0))).set (m.getD h 0/4).toNat (min ((rB m (bX m k q) h).getD (h/4) 0) ((rB m (bX m k q) h).getD (m.getD h 0/4).toNat 0)):=rfl;rw [eh];simp only [em];refine Wk.sub ?_ ?_<;>simp only [go_sem,sevalprocAttr]
  ·obtain rfl:h=4*k:=by omega
   have bh:decide (((4*k:Nat):Int)<m.length)=false:=by simp;omega
   repeat' (first|omega|(first|apply ah|(refine ba.intro (id:=13) vU [[],[],[0,1],[0,1,2],[0,1],[0,1],[0,1],[2,3,4,5,6],[]] (by decide+kernel) mixed ?_)|(refine ba.intro (id:=14) vT [[],[0],[],[],[0,1,2,3],[0,1,2,3,4],[0,1,2,3],[0,1,2,3],[],[]] (by decide+kernel) mixed ?_)|skip);simp only [go_sem,sevalprocAttr,bh,↓reduceIte,reduceCtorEq,vU,vT]|apply ag<;>(intro h_;(try simp only [h_]);revert h_)|apply zzL|with_reducible intro h_|trivial|simp only [go_sem,ai];omega)
   refine ⟨_,_,_,?_,?_,⟨q+1,by omega,rfl,rfl,rfl⟩⟩
   ·omega
   ·rw [show bX m k (q+1)=rB m (bX m k q) (4*k) from rfl];refine Wk.sub ?_ ?_<;>simp only [go_sem,sevalprocAttr]
 ·obtain rfl:q=k:=by omega
  have bq:decide ((q:Int)<q)=false:=by simp
  repeat' (first|omega|(first|apply ah|(refine ba.intro (id:=13) vU [[],[],[0,1],[0,1,2],[0,1],[0,1],[0,1],[2,3,4,5,6],[]] (by decide+kernel) mixed ?_)|(refine ba.intro (id:=14) vT [[],[0],[],[],[0,1,2,3],[0,1,2,3,4],[0,1,2,3],[0,1,2,3],[],[]] (by decide+kernel) mixed ?_)|skip);simp only [go_sem,sevalprocAttr,bq,↓reduceIte,reduceCtorEq,vU,vT]|apply ag<;>(intro h_;(try simp only [h_]);revert h_)|apply zzL|with_reducible intro h_|trivial|simp only [go_sem,ai];omega)
  all_goals first
   |omega
   |exact zzR (by omega)
def dp (orb:Nat->List Int) (p:Nat->Bool) (k:Nat):List (List Int):=((List.range k).filter p).map orb
theorem IW {orb:Nat->List Int} {p:Nat->Bool} {k:Nat} (h:p k=true):dp orb p (k+1)=dp orb p k++[orb k]:=by simp [dp,List.range_succ,List.filter_append,h]
theorem DT {orb:Nat->List Int} {p:Nat->Bool} {k:Nat} (h:p k=false):dp orb p (k+1)=dp orb p k:=by simp [dp,List.range_succ,List.filter_append,h]
theorem Km {x:Int} {l:List Int} {i:Nat} (h:i<l.length):mZ x (l.take (i+1))=(mZ x (l.take i)&&decide (x<=l.getD i 0)):=by
 unfold mZ;rw [List.take_succ_eq_append_getElem h,List.all_append];simp [h]
theorem Vu (ls:List (List Int)) (l:List Int):ls.map pW++[AV.ro 1 l.length (.ints l)]=(ls++[l]).map pW:=by simp [pW]
theorem Tb (nx:Int->Int) (x:Int): ∀f g,(iz nx x f g).length<=f
 |0,_=>by simp [iz]
 |f+1,g=>by
  unfold iz
  split
  ·simp
  ·simp only [zzG];have:=Tb nx x f (nx g);omega
theorem Tv (nx:Int->Int) (N:Nat) (x:Int):(af nx N x).length<=N+1:=by
 unfold af;simp only [zzG];have:=Tb nx x N (nx x);omega
theorem y2e (m:List Int) (n:Nat) (hn:n<=1000) (iR:m.length=4*n) (hm: ∀i,i<m.length->0<=m.getD i 0/\m.getD i 0<4*n):Fn Tryz.prog 48 [roI m] (qL (dp (fun h=>af (cm m) m.length h) (fl m) m.length)):=by
 refine Fn.aG [.tmp 2] Tryz.func48 rfl rfl (by decide) (by simp [Tryz.ntmps48]) ?_;rw [Tryz.ntmps48]
 repeat' (first|omega|(try apply ah);simp only [go_sem,sevalprocAttr]|apply ag<;>(intro h_;(try simp only [h_]);revert h_)|apply zzL|with_reducible intro h_|trivial|simp only [go_sem,ai];omega)
 refine cN.intro (fun t fr H=> ∃h:Nat,h<=m.length/\t=m.length-h/\((dp (fun h=>af (cm m) m.length h) (fl m) h=[]/\fr=[(4,I h),(3, .nils),(0,roI m)]/\H=[])\/
  (fr=[(4,I h),(3, .sl 1 1 0 (dp (fun h=>af (cm m) m.length h) (fl m) h).length),(0,roI m)]/\H=[(1, .cells 22 (.lst ((dp (fun h=>af (cm m) m.length h) (fl m) h).map pW)))]))) ?_ ?_
 ·refine ⟨_,_,_,?_,0,by omega,rfl, .inl ⟨rfl,rfl,rfl⟩⟩;refine Wk.sub ?_ ?_<;>simp only [go_sem,sevalprocAttr]
 rintro t fr H ⟨h,hh,rfl,nV⟩;have hlen:(dp (fun h=>af (cm m) m.length h) (fl m) h).length<=h:=by
  have:=List.length_filter_le (fl m) (List.range h)
  simp only [dp,List.length_map];simp only [List.length_range] at this;exact this
 have zl:(af (cm m) m.length h).length<=m.length+1:=Tv _ _ _;rcases nV with ⟨iB,rfl,rfl⟩|⟨rfl,rfl⟩
 ·by_cases aD:h<m.length
  ·have bh:decide ((h:Int)<m.length)=true:=by simp;omega
   have hF:=Tc m n h hn iR hm aD
   repeat' (first|omega|(try apply ah);simp only [go_sem,sevalprocAttr,bh]|apply ag<;>(intro h_;(try simp only [h_]);revert h_)|apply zzL|with_reducible intro h_|trivial|simp only [go_sem,ai];omega)
   refine ⟨aL.fn rfl hF ?_⟩
   repeat' (first|omega|(try apply ah);simp only [go_sem,sevalprocAttr]|apply ag<;>(intro h_;(try simp only [h_]);revert h_)|apply zzL|with_reducible intro h_|trivial|simp only [go_sem,ai];omega)
   refine cN.intro (fun t fr H=> ∃i:Nat,i<=(af (cm m) m.length h).length/\t=(af (cm m) m.length h).length-i/\fr=[(7,I i),(6, .bool (mZ h ((af (cm m) m.length h).take i))),(5,roI (af (cm m) m.length h)),(4,I h),(3, .nils),(0,roI m)]/\H=[]) ?_ ?_
   ·refine ⟨_,_,_,?_,0,by omega,rfl,rfl,rfl⟩;refine Wk.sub ?_ ?_<;>simp only [go_sem,sevalprocAttr]
    all_goals simp [mZ]
   rintro t fr H ⟨i,hi,rfl,rfl,rfl⟩;by_cases pO:i<(af (cm m) m.length h).length
   ·have bi:decide ((i:Int)<(af (cm m) m.length h).length)=true:=by simp;omega
    have el:=Km (x:=h) pO;cases hb:mZ h ((af (cm m) m.length h).take i) with
    |false=>
     rw [hb] at el
     repeat' (first|omega|(try apply ah);simp only [go_sem,sevalprocAttr,bi]|apply ag<;>(intro h_;(try simp only [h_]);revert h_)|apply zzL|with_reducible intro h_|trivial|simp only [go_sem,ai];omega)
     refine ⟨_,_,_,?_,?_,⟨i+1,by omega,rfl,rfl,rfl⟩⟩
     ·omega
     ·rw [el];refine Wk.sub ?_ ?_<;>simp only [go_sem,sevalprocAttr]
    |true=>
     rw [hb] at el
     repeat' (first|omega|(try apply ah);simp only [go_sem,sevalprocAttr,bi]|apply ag<;>(intro h_;(try simp only [h_]);revert h_)|apply zzL|with_reducible intro h_|trivial|simp only [go_sem,ai];omega)
     refine ⟨_,_,_,?_,?_,⟨i+1,by omega,rfl,rfl,rfl⟩⟩
     ·omega
     ·rw [el];refine Wk.sub ?_ ?_<;>simp only [go_sem,sevalprocAttr]
   ·obtain rfl:i=(af (cm m) m.length h).length:=by omega
    have bi:decide (((af (cm m) m.length h).length:Int)<(af (cm m) m.length h).length)=false:=by simp
    have ef:mZ h ((af (cm m) m.length h).take (af (cm m) m.length h).length)=fl m h:=by rw [List.take_length];rfl
    rw [ef];cases hb:fl m h with
    |false=>
     have eS:=DT (orb:=fun h=>af (cm m) m.length h) hb
     repeat' (first|omega|(try apply ah);simp only [go_sem,sevalprocAttr,bi]|apply ag<;>(intro h_;(try simp only [h_]);revert h_)|apply zzL|with_reducible intro h_|trivial|simp only [go_sem,ai];omega)
     refine ⟨_,_,_,?_,?_,⟨h+1,by omega,rfl, .inl ⟨by rw [eS];exact iB,rfl,rfl⟩⟩⟩
     ·omega
     ·first|rw [eS]|skip
      refine Wk.sub ?_ ?_<;>simp only [go_sem,sevalprocAttr]
    |true=>
     have eS:=IW (orb:=fun h=>af (cm m) m.length h) hb
     repeat' (first|omega|(try apply ah);simp only [go_sem,sevalprocAttr,bi,List.length_map]|apply ag<;>(intro h_;(try simp only [h_]);revert h_)|apply zzL|with_reducible intro h_|trivial|simp only [go_sem,ai];omega)
     refine ⟨_,_,_,?_,?_,⟨h+1,by omega,rfl, .inr ⟨rfl,rfl⟩⟩⟩
     ·omega
     ·rw [eS];rw [iB];refine Wk.sub ?_ ?_<;>simp only [go_sem,sevalprocAttr]
      all_goals first
       |rfl
       |exact ⟨rfl,rfl⟩
       |exact ⟨rfl,rfl,rfl⟩
  ·obtain rfl:h=m.length:=by omega
   have bh:decide ((m.length:Int)<m.length)=false:=by simp
   repeat' (first|omega|(try apply ah);simp only [go_sem,sevalprocAttr,bh]|apply ag<;>(intro h_;(try simp only [h_]);revert h_)|apply zzL|with_reducible intro h_|trivial|simp only [go_sem,ai];omega)
   all_goals first
    |(rw [iB];exact bE.nils (by omega) rfl)
    |exact y7 _ _ _ _ h_
    |exact y7 _ _ _ _ (List.mem_of_mem_take h_)
    |(rw [zzR (by simp)];exact bE.refl _)
 ·by_cases aD:h<m.length
  ·have bh:decide ((h:Int)<m.length)=true:=by simp;omega
   have hF:=Tc m n h hn iR hm aD
   repeat' (first|omega|(try apply ah);simp only [go_sem,sevalprocAttr,bh]|apply ag<;>(intro h_;(try simp only [h_]);revert h_)|apply zzL|with_reducible intro h_|trivial|simp only [go_sem,ai];omega)
   refine ⟨aL.fn rfl hF ?_⟩
   repeat' (first|omega|(try apply ah);simp only [go_sem,sevalprocAttr]|apply ag<;>(intro h_;(try simp only [h_]);revert h_)|apply zzL|with_reducible intro h_|trivial|simp only [go_sem,ai];omega)
   refine cN.intro (fun t fr H=> ∃i:Nat,i<=(af (cm m) m.length h).length/\t=(af (cm m) m.length h).length-i/\fr=[(7,I i),(6, .bool (mZ h ((af (cm m) m.length h).take i))),(5,roI (af (cm m) m.length h)),(4,I h),(3, .sl 1 1 0 (dp (fun h=>af (cm m) m.length h) (fl m) h).length),(0,roI m)]/\H=[(1, .cells 22 (.lst ((dp (fun h=>af (cm m) m.length h) (fl m) h).map pW)))]) ?_ ?_
   ·refine ⟨_,_,_,?_,0,by omega,rfl,rfl,rfl⟩;refine Wk.sub ?_ ?_<;>simp only [go_sem,sevalprocAttr]
    all_goals simp [mZ]
   rintro t fr H ⟨i,hi,rfl,rfl,rfl⟩;by_cases pO:i<(af (cm m) m.length h).length
   ·have bi:decide ((i:Int)<(af (cm m) m.length h).length)=true:=by simp;omega
    have el:=Km (x:=h) pO;cases hb:mZ h ((af (cm m) m.length h).take i) with
    |false=>
     rw [hb] at el
     repeat' (first|omega|(try apply ah);simp only [go_sem,sevalprocAttr,bi]|apply ag<;>(intro h_;(try simp only [h_]);revert h_)|apply zzL|with_reducible intro h_|trivial|simp only [go_sem,ai];omega)
     refine ⟨_,_,_,?_,?_,⟨i+1,by omega,rfl,rfl,rfl⟩⟩
     ·omega
     ·rw [el];refine Wk.sub ?_ ?_<;>simp only [go_sem,sevalprocAttr]
    |true=>
     rw [hb] at el
     repeat' (first|omega|(try apply ah);simp only [go_sem,sevalprocAttr,bi]|apply ag<;>(intro h_;(try simp only [h_]);revert h_)|apply zzL|with_reducible intro h_|trivial|simp only [go_sem,ai];omega)
     refine ⟨_,_,_,?_,?_,⟨i+1,by omega,rfl,rfl,rfl⟩⟩
     ·omega
     ·rw [el];refine Wk.sub ?_ ?_<;>simp only [go_sem,sevalprocAttr]
   ·obtain rfl:i=(af (cm m) m.length h).length:=by omega
    have bi:decide (((af (cm m) m.length h).length:Int)<(af (cm m) m.length h).length)=false:=by simp
    have ef:mZ h ((af (cm m) m.length h).take (af (cm m) m.length h).length)=fl m h:=by rw [List.take_length];rfl
    rw [ef];cases hb:fl m h with
    |false=>
     have eS:=DT (orb:=fun h=>af (cm m) m.length h) hb
     repeat' (first|omega|(try apply ah);simp only [go_sem,sevalprocAttr,bi]|apply ag<;>(intro h_;(try simp only [h_]);revert h_)|apply zzL|with_reducible intro h_|trivial|simp only [go_sem,ai];omega)
     refine ⟨_,_,_,?_,?_,⟨h+1,by omega,rfl, .inr ⟨rfl,rfl⟩⟩⟩
     ·omega
     ·first|rw [eS]|skip
      refine Wk.sub ?_ ?_<;>simp only [go_sem,sevalprocAttr]
    |true=>
     have eS:=IW (orb:=fun h=>af (cm m) m.length h) hb
     repeat' (first|omega|(try apply ah);simp only [go_sem,sevalprocAttr,bi,List.length_map]|apply ag<;>(intro h_;(try simp only [h_]);revert h_)|apply zzL|with_reducible intro h_|trivial|simp only [go_sem,ai];omega)
     refine ⟨_,_,_,?_,?_,⟨h+1,by omega,rfl, .inr ⟨rfl,rfl⟩⟩⟩
     ·omega
     ·rw [eS];rw [Vu];refine Wk.sub ?_ ?_<;>simp only [go_sem,sevalprocAttr]
      all_goals first
       |rfl
       |exact ⟨rfl,rfl⟩
       |exact ⟨rfl,rfl,rfl⟩
  ·obtain rfl:h=m.length:=by omega
   have bh:decide ((m.length:Int)<m.length)=false:=by simp
   repeat' (first|omega|(try apply ah);simp only [go_sem,sevalprocAttr,bh]|apply ag<;>(intro h_;(try simp only [h_]);revert h_)|apply zzL|with_reducible intro h_|trivial|simp only [go_sem,ai];omega)
   all_goals first
    |(rw [iB];exact bE.nils (by omega) rfl)
    |exact y7 _ _ _ _ h_
    |exact y7 _ _ _ _ (List.mem_of_mem_take h_)
    |(rw [zzR (by simp)];exact bE.refl _)
end Go.Proofs.YtjpbeacamoijhaaGreatDoor
