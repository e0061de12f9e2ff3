/- Layer 17: sew: the nodes at a crossing that is added. -/
import Derived.Test.YtphjphpmfflfpaaGreatDoorZg
set_option linter.unusedSimpArgs false
set_option linter.unusedVariables false
namespace Go.Proofs.YtphjphpmfflfpaaGreatDoor
open Go Go.RowKit
set_option maxRecDepth 100000
set_option maxHeartbeats 8000000
def nD:List (List Nat):=[[20,21,22,23,24,25,8],[19,23,24,25,8],[19,23,24,25,8],[19,23,24,25,8],[19,20,21,22,8],[19,20,21,22,8],[19,20,21,22,8],[8],[19,20,21,22,23,24,25,26],[]]
def nC:List (List Nat):=[[],[0],[0],[0],[0,1,2,3],[0,1,2,3],[0,1,2,3],[],[0,1,2,3,4,5,6,7],[]]
def nB:List (List Nat):=[[68,69,70,71],[68,69,70,71],[66,67,69,70,71],[66,67,68,71,72],[66,67,68,71,72],[66,67,68,69,70,72],[69,70,71],[69,70,71],[],[]]
def Dz:Tr:= .node [(0, .node [(1, .node [(4, .node [(2, .node [(3, .node [(5, .node [(6, .node [(7, .node [(8, .node [(9, .done)])]),(8, .node [(7, .node [(9, .done)])])]),(8, .node [(6, .node [(7, .node [(9, .done)])])])]),(8, .node [(5, .node [(6, .node [(7, .node [(9, .done)])])])])]),(5, .node [(3, .node [(6, .node [(7, .node [(8, .node [(9, .done)])]),(8, .node [(7, .node [(9, .done)])])]),(8, .node [(6, .node [(7, .node [(9, .done)])])])]),(6, .node [(3, .node [(7, .node [(8, .node [(9, .done)])]),(8, .node [(7, .node [(9, .done)])])]),(8, .node [(3, .node [(7, .node [(9, .done)])])])]),(8, .node [(3, .node [(6, .node [(7, .node [(9, .done)])])]),(6, .node [(3, .node [(7, .node [(9, .done)])])])])]),(8, .node [(3, .node [(5, .node [(6, .node [(7, .node [(9, .done)])])])]),(5, .node [(3, .node [(6, .node [(7, .node [(9, .done)])])]),(6, .node [(3, .node [(7, .node [(9, .done)])])])])])]),(5, .node [(2, .node [(3, .node [(6, .node [(7, .node [(8, .node [(9, .done)])]),(8, .node [(7, .node [(9, .done)])])]),(8, .node [(6, .node [(7, .node [(9, .done)])])])]),(6, .node [(3, .node [(7, .node [(8, .node [(9, .done)])]),(8, .node [(7, .node [(9, .done)])])]),(8, .node [(3, .node [(7, .node [(9, .done)])])])]),(8, .node [(3, .node [(6, .node [(7, .node [(9, .done)])])]),(6, .node [(3, .node [(7, .node [(9, .done)])])])])]),(6, .node [(2, .node [(3, .node [(7, .node [(8, .node [(9, .done)])]),(8, .node [(7, .node [(9, .done)])])]),(8, .node [(3, .node [(7, .node [(9, .done)])])])]),(8, .node [(2, .node [(3, .node [(7, .node [(9, .done)])])])])]),(8, .node [(2, .node [(3, .node [(6, .node [(7, .node [(9, .done)])])]),(6, .node [(3, .node [(7, .node [(9, .done)])])])]),(6, .node [(2, .node [(3, .node [(7, .node [(9, .done)])])])])])]),(8, .node [(2, .node [(3, .node [(5, .node [(6, .node [(7, .node [(9, .done)])])])]),(5, .node [(3, .node [(6, .node [(7, .node [(9, .done)])])]),(6, .node [(3, .node [(7, .node [(9, .done)])])])])]),(5, .node [(2, .node [(3, .node [(6, .node [(7, .node [(9, .done)])])]),(6, .node [(3, .node [(7, .node [(9, .done)])])])]),(6, .node [(2, .node [(3, .node [(7, .node [(9, .done)])])])])])])])])])]
def Dy:Tr:= .node [(2, .node [(5, .node [(0, .node [(1, .node [(3, .node [(4, .node [(6, .node [(7, .node [(8, .node [(9, .done)])])])]),(6, .node [(4, .node [(7, .node [(8, .node [(9, .done)])])]),(7, .node [(4, .node [(8, .node [(9, .done)])])])])]),(6, .node [(3, .node [(4, .node [(7, .node [(8, .node [(9, .done)])])]),(7, .node [(4, .node [(8, .node [(9, .done)])])])]),(7, .node [(3, .node [(4, .node [(8, .node [(9, .done)])])])])])]),(3, .node [(1, .node [(4, .node [(6, .node [(7, .node [(8, .node [(9, .done)])])])]),(6, .node [(4, .node [(7, .node [(8, .node [(9, .done)])])]),(7, .node [(4, .node [(8, .node [(9, .done)])])])])]),(4, .node [(1, .node [(6, .node [(7, .node [(8, .node [(9, .done)])])])])])])]),(3, .node [(0, .node [(1, .node [(4, .node [(6, .node [(7, .node [(8, .node [(9, .done)])])])]),(6, .node [(4, .node [(7, .node [(8, .node [(9, .done)])])]),(7, .node [(4, .node [(8, .node [(9, .done)])])])])]),(4, .node [(1, .node [(6, .node [(7, .node [(8, .node [(9, .done)])])])])])]),(4, .node [(0, .node [(1, .node [(6, .node [(7, .node [(8, .node [(9, .done)])])])])])])])])])]
theorem an.cut {P:Program} {N:Nat} {ops:Array Oper} {id:Nat} {fr:Fr} {H:Hp} {y:Code} {Q:Exit->Fr->Hp->Prop} (fr1:Fr) (H1:Hp) (h1:an P N id ops fr H fun e fr' H'=>e= .normal/\Wk fr' H' fr1 H1) (h2:gq P N y fr1 H1 Q):an P N id ops fr H (yjf Q fun fr' H'=>gq P N y fr' H' Q):=
 ⟨fun B w0 Mx w ρ a hs=>wp_mono (h1.out B w0 Mx w ρ a hs) (by
  rintro e a' w' ⟨ρ',fr',H',⟨rfl,hw⟩,bD⟩;obtain ⟨ρ2,gh⟩:=hw _ _ _ _ _ _ _ bD;exact ⟨ρ2,fr1,H1,h2,gh⟩)⟩
theorem Jn (s m:List Int) (L:Int) (ends:List Int) (c:Nat) (hs:s.length<=1000) (hm:iP m s.length) (hc:c<s.length) (xA:ends.length<=90) (Sh: ∀i,i<ends.length->0<=ends.getD i 0/\ends.getD i 0<4*s.length):
  Fn Tryz.prog 143 [dgA s m L,roI ends,I c] (.agg [I ends.length,roI (cw (kh (bu ends c) m) (ends.length+4) (ends.length+4)),roI (cw (mg (bu ends c) m) (ends.length+4) (ends.length+4)),roI (aO (bu ends c) m (ends.length+4))]):=by
 have fB:=hm.1;have Ct:=qq ends c;have tg: ∀x,x<ends.length+4->0<=(bu ends c).getD x 0/\(bu ends c).getD x 0<m.length:=fun x hx=>by
  unfold bu;by_cases h1:x<ends.length
  ·have:=Sh x h1
   simp only [List.getD_eq_getElem?_getD,List.getElem?_append_left h1] at this⊢;omega
  ·simp only [List.getD_eq_getElem?_getD,List.getElem?_append_right (Nat.le_of_not_lt h1)]
   have:x-ends.length=0\/x-ends.length=1\/x-ends.length=2\/x-ends.length=3:=by omega
   rcases this with e|e|e|e<;>rw [e]<;>simp<;>omega
 have RN:List.replicate 0 0++ends++[4*(c:Int),4*c+1,4*c+2,4*c+3]=bu ends c:=by simp [bu]
 have RM:ends++[4*(c:Int),4*c+1,4*c+2,4*c+3]=bu ends c:=rfl;generalize bu ends c=hv at*;obtain ⟨W,hW⟩: ∃W,ends.length+4=W:=⟨_,rfl⟩;have e0:((ends.length:Int)+4).toNat=W:=by omega
 rw [hW] at Ct tg⊢;have LK:W<=94:=by omega
 refine Fn.au [.cell 6 154] Tryz.func143 rfl rfl (by decide) (by simp [Tryz.ntmps143]) ?_;rw [Tryz.ntmps143]
 repeat' (first|omega|(first|apply aj|(refine an.intro (id:=2) nD nC (by decide+kernel) mixed ?_)|(refine an.intro (id:=13) nB [[],[],[0,1],[0,1,2],[0,1,2],[0,1,2,3,4],[3,4,5],[3,4,5],[],[]] (by decide+kernel) mixed ?_)|skip);simp only [go_sem,sevalprocAttr,Int.toNat_natCast,e0,hW,RN,RM,↓reduceIte,reduceCtorEq,nD,nC,nB]|apply ag<;>(intro h_;(try simp only [h_]);revert h_)|apply ah|apply ai|apply ae|apply And.intro|with_reducible intro h_|trivial|simp only [go_sem,ak];omega)
 refine dM.makeMap (n:=(ends.length:Int)+4) (kt:=3) (et:=3) rfl rfl (by simp only [go_sem,sevalprocAttr]) rfl ?_
 repeat' (first|omega|(first|apply aj|(refine an.intro (id:=2) nD nC (by decide+kernel) mixed ?_)|(refine an.intro (id:=13) nB [[],[],[0,1],[0,1,2],[0,1,2],[0,1,2,3,4],[3,4,5],[3,4,5],[],[]] (by decide+kernel) mixed ?_)|skip);simp only [go_sem,sevalprocAttr,Int.toNat_natCast,e0,hW,RN,RM,↓reduceIte,reduceCtorEq,nD,nC,nB]|apply ag<;>(intro h_;(try simp only [h_]);revert h_)|apply ah|apply ai|apply ae|apply And.intro|with_reducible intro h_|trivial|simp only [go_sem,ak];omega)
 refine bN.intro (fun n fr H=> ∃k:Nat,k<=W/\n=W-k/\fr=[(50,I k),(49,I W),(48, .sl 1 11 0 W),(10, .mp 13),(9, .sl 1 11 0 W),(8, .ptr 10 0),(6, .ptr 1 0),(3, .ptr 0 0)]/\H=[(13, .fmap 118 (.ints (ndF hv k))),(11, .cells 3 (.ints hv)),(10, .cells 154 (.lst [I ends.length, .sl 1 5 0 W, .sl 1 8 0 W, .nils])),(8, .cells 3 (.ints (List.replicate W 0))),(5, .cells 3 (.ints (List.replicate W 0))),(1, .cells 154 (.lst [I 0, .nils, .nils, .nils])),(0, .cells 24 (.lst [roI s,roI m,I L]))]) ?_ ?_
 ·refine ⟨_,_,_,?_,0,by omega,rfl,rfl,rfl⟩;refine Wk.sub ?_ ?_<;>(simp only [go_sem,sevalprocAttr,ndF])
 rintro n fr H ⟨k,hk,rfl,rfl,rfl⟩;by_cases zr:k<W
 ·have bk:decide ((k:Int)<W)=true:=by simp;omega
  have fL:updI (ndF hv k) (hv.getD k 0) k=ndF hv (k+1):=rfl
  repeat' (first|omega|(try apply aj);simp only [go_sem,sevalprocAttr,bk,fL,Ct]|apply ag<;>(intro h_;(try simp only [h_]);revert h_)|apply ah|apply ai|apply ae|apply And.intro|with_reducible intro h_|trivial|simp only [go_sem,ak];omega)
  refine ⟨_,_,_,?_,?_,⟨k+1,by omega,rfl,rfl,rfl⟩⟩
  ·omega
  ·refine Wk.sub ?_ ?_<;>(simp only [go_sem,sevalprocAttr,fL])
 obtain rfl:k=W:=by omega
 have bk:decide ((k:Int)<k)=false:=by simp
 have Ll: ∀x,eG hv m x=ndF hv k (m.getD (hv.getD x 0).toNat 0):=fun x=>by unfold eG;rw [Ct]
 repeat' (first|omega|(try apply aj);simp only [go_sem,sevalprocAttr,bk]|apply ag<;>(intro h_;(try simp only [h_]);revert h_)|apply ah|apply ai|apply ae|apply And.intro|with_reducible intro h_|trivial|simp only [go_sem,ak];omega)
 refine bN.intro (fun n fr H=> ∃j:Nat,j<=k/\n=k-j/\fr=[(61,I j),(60,I k),(59, .sl 1 11 0 k),(10, .mp 13),(8, .ptr 10 0),(6, .ptr 1 0),(3, .ptr 0 0)]/\((aO hv m j=[]/\H=[(13, .fmap 118 (.ints (ndF hv k))),(11, .cells 3 (.ints hv)),(10, .cells 154 (.lst [I ends.length, .sl 1 5 0 k, .sl 1 8 0 k, .nils])),(8, .cells 3 (.ints (cw (mg hv m) k j))),(5, .cells 3 (.ints (cw (kh hv m) k j))),(1, .cells 154 (.lst [I 0, .nils, .nils, .nils])),(0, .cells 24 (.lst [roI s,roI m,I L]))])\/
  H=[(15, .cells 3 (.ints (aO hv m j))),(13, .fmap 118 (.ints (ndF hv k))),(11, .cells 3 (.ints hv)),(10, .cells 154 (.lst [I ends.length, .sl 1 5 0 k, .sl 1 8 0 k, .sl 1 15 0 (aO hv m j).length])),(8, .cells 3 (.ints (cw (mg hv m) k j))),(5, .cells 3 (.ints (cw (kh hv m) k j))),(1, .cells 154 (.lst [I 0, .nils, .nils, .nils])),(0, .cells 24 (.lst [roI s,roI m,I L]))])) ?_ ?_
 ·refine ⟨_,_,_,?_,0,by omega,rfl,rfl, .inl ⟨rfl,rfl⟩⟩;rw [QZ,QZ];refine Wk.sub ?_ ?_<;>(simp only [go_sem,sevalprocAttr,ndF])
 rintro n fr H ⟨j,hj,rfl,rfl,gO⟩;have l1:=Ay (mg hv m) k j;have l2:=Ay (kh hv m) k j;have l3:=HU hv m j;by_cases oa:j<k
 ·have bj:decide ((j:Int)<k)=true:=by simp;omega
  have r1:=tg j oa;have s1:=Of (mg hv m) k j oa;have s2:=Of (kh hv m) k j oa;have nO:=Ll j;have ju:=hm.2 (hv.getD j 0).toNat (by omega);have d1:(cw (kh hv m) k j).length=k:=l2;rcases gO with ⟨eK,rfl⟩|rfl
  ·repeat' (first|omega|(try apply aj);simp only [go_sem,sevalprocAttr,bj]|apply ag<;>(intro h_;(try simp only [h_]);revert h_)|apply ah|apply ai|apply ae|apply And.intro|with_reducible intro h_|trivial|simp only [go_sem,ak];omega)
   refine an.cut [(14,I (hv.getD j 0)),(13,I j),(61,I j),(60,I k),(59, .sl 1 11 0 k),(10, .mp 13),(8, .ptr 10 0),(6, .ptr 1 0),(3, .ptr 0 0)] [(13, .fmap 118 (.ints (ndF hv k))),(11, .cells 3 (.ints hv)),(10, .cells 154 (.lst [I ends.length, .sl 1 5 0 k, .sl 1 8 0 k, .nils])),(8, .cells 3 (.ints ((cw (mg hv m) k j).set j (-1)))),(5, .cells 3 (.ints ((cw (kh hv m) k j).set j (-1)))),(1, .cells 154 (.lst [I 0, .nils, .nils, .nils])),(0, .cells 24 (.lst [roI s,roI m,I L]))] ?_ ?_
   ·repeat' (first|omega|(first|apply aj|(refine an.ay (id:=2) (Dz) (by decide+kernel) mixed ?_)|(refine an.intro (id:=2) nD nC (by decide+kernel) mixed ?_)|(refine an.ay (id:=13) (Dy) (by decide+kernel) mixed ?_)|(refine an.intro (id:=13) nB [[],[],[0,1],[0,1,2],[0,1,2],[0,1,2,3,4],[3,4,5],[3,4,5],[],[]] (by decide+kernel) mixed ?_)|skip);simp only [go_sem,sevalprocAttr,List.length_set,Int.toNat_natCast,↓reduceIte,reduceCtorEq,nD,nC,nB,Dz,Dy]|apply ag<;>(intro h_;(try simp only [h_]);revert h_)|apply ah|apply ai|apply ae|apply And.intro|with_reducible intro h_|trivial|simp only [go_sem,ak];omega)
    all_goals (refine Wk.sub ?_ ?_<;>(simp only [go_sem,sevalprocAttr,l1]))
   cases hq:ndF hv k (m.getD (hv.getD j 0).toNat 0) with
   |some y=>
    rw [hq] at nO;have i1:mg hv m j= -1:=by unfold mg;rw [nO];rfl
    have i2:kh hv m j=y:=by unfold kh;rw [nO];rfl
    have i3:aO hv m (j+1)=aO hv m j:=by simp only [aO];rw [nO];rfl
    rw [i1] at s1;rw [i2] at s2
    repeat' (first|omega|(first|apply aj|(refine an.intro (id:=2) nD nC (by decide+kernel) mixed ?_)|(refine an.intro (id:=13) nB [[],[],[0,1],[0,1,2],[0,1,2],[0,1,2,3,4],[3,4,5],[3,4,5],[],[]] (by decide+kernel) mixed ?_)|skip);simp only [go_sem,sevalprocAttr,bj,hq,Option.isSome_some,Option.getD_some,List.set_set,List.length_set,Int.toNat_natCast,s1,s2,↓reduceIte,reduceCtorEq,nD,nC,nB]|apply ag<;>(intro h_;(try simp only [h_]);revert h_)|apply ah|apply ai|apply ae|apply And.intro|with_reducible intro h_|trivial|simp only [go_sem,ak];omega)
    refine ⟨_,_,_,?_,?_,j+1,by omega,rfl,rfl, .inl ⟨by rw [i3];exact eK,rfl⟩⟩
    ·omega
    ·refine Wk.sub ?_ ?_<;>(simp only [go_sem,sevalprocAttr,hW])
   |none=>
    rw [hq] at nO;have i1:mg hv m j=(aO hv m j).length:=by unfold mg;rw [nO];rfl
    have i2:kh hv m j= -1:=by unfold kh;rw [nO];rfl
    have i3:aO hv m (j+1)=aO hv m j++[hv.getD j 0]:=by simp only [aO];rw [nO];rfl
    rw [eK,List.nil_append] at i3;rw [i1,eK] at s1;rw [i2] at s2;have Xz:(cw (mg hv m) k j).set j 0=cw (mg hv m) k (j+1):=s1
    repeat' (first|omega|(first|apply aj|(refine an.intro (id:=2) nD nC (by decide+kernel) mixed ?_)|(refine an.intro (id:=13) nB [[],[],[0,1],[0,1,2],[0,1,2],[0,1,2,3,4],[3,4,5],[3,4,5],[],[]] (by decide+kernel) mixed ?_)|skip);simp only [go_sem,sevalprocAttr,bj,hq,Option.isSome_none,Option.getD_none,List.set_set,List.length_set,Int.toNat_natCast,Xz,s2,↓reduceIte,reduceCtorEq,nD,nC,nB]|apply ag<;>(intro h_;(try simp only [h_]);revert h_)|apply ah|apply ai|apply ae|apply And.intro|with_reducible intro h_|trivial|simp only [go_sem,ak];omega)
    refine ⟨_,_,_,?_,?_,j+1,by omega,rfl,rfl, .inr rfl⟩
    ·omega
    ·rw [i3];refine Wk.sub ?_ ?_<;>(simp only [go_sem,sevalprocAttr,hW])
  ·repeat' (first|omega|(try apply aj);simp only [go_sem,sevalprocAttr,bj]|apply ag<;>(intro h_;(try simp only [h_]);revert h_)|apply ah|apply ai|apply ae|apply And.intro|with_reducible intro h_|trivial|simp only [go_sem,ak];omega)
   refine an.cut [(14,I (hv.getD j 0)),(13,I j),(61,I j),(60,I k),(59, .sl 1 11 0 k),(10, .mp 13),(8, .ptr 10 0),(6, .ptr 1 0),(3, .ptr 0 0)] [(15, .cells 3 (.ints (aO hv m j))),(13, .fmap 118 (.ints (ndF hv k))),(11, .cells 3 (.ints hv)),(10, .cells 154 (.lst [I ends.length, .sl 1 5 0 k, .sl 1 8 0 k, .sl 1 15 0 (aO hv m j).length])),(8, .cells 3 (.ints ((cw (mg hv m) k j).set j (-1)))),(5, .cells 3 (.ints ((cw (kh hv m) k j).set j (-1)))),(1, .cells 154 (.lst [I 0, .nils, .nils, .nils])),(0, .cells 24 (.lst [roI s,roI m,I L]))] ?_ ?_
   ·repeat' (first|omega|(first|apply aj|(refine an.ay (id:=2) (Dz) (by decide+kernel) mixed ?_)|(refine an.intro (id:=2) nD nC (by decide+kernel) mixed ?_)|(refine an.ay (id:=13) (Dy) (by decide+kernel) mixed ?_)|(refine an.intro (id:=13) nB [[],[],[0,1],[0,1,2],[0,1,2],[0,1,2,3,4],[3,4,5],[3,4,5],[],[]] (by decide+kernel) mixed ?_)|skip);simp only [go_sem,sevalprocAttr,List.length_set,Int.toNat_natCast,↓reduceIte,reduceCtorEq,nD,nC,nB,Dz,Dy]|apply ag<;>(intro h_;(try simp only [h_]);revert h_)|apply ah|apply ai|apply ae|apply And.intro|with_reducible intro h_|trivial|simp only [go_sem,ak];omega)
    all_goals (refine Wk.sub ?_ ?_<;>(simp only [go_sem,sevalprocAttr,l1]))
   cases hq:ndF hv k (m.getD (hv.getD j 0).toNat 0) with
   |some y=>
    rw [hq] at nO;have i1:mg hv m j= -1:=by unfold mg;rw [nO];rfl
    have i2:kh hv m j=y:=by unfold kh;rw [nO];rfl
    have i3:aO hv m (j+1)=aO hv m j:=by simp only [aO];rw [nO];rfl
    rw [i1] at s1;rw [i2] at s2
    repeat' (first|omega|(first|apply aj|(refine an.intro (id:=2) nD nC (by decide+kernel) mixed ?_)|(refine an.intro (id:=13) nB [[],[],[0,1],[0,1,2],[0,1,2],[0,1,2,3,4],[3,4,5],[3,4,5],[],[]] (by decide+kernel) mixed ?_)|skip);simp only [go_sem,sevalprocAttr,bj,hq,Option.isSome_some,Option.getD_some,List.set_set,List.length_set,Int.toNat_natCast,s1,s2,↓reduceIte,reduceCtorEq,nD,nC,nB]|apply ag<;>(intro h_;(try simp only [h_]);revert h_)|apply ah|apply ai|apply ae|apply And.intro|with_reducible intro h_|trivial|simp only [go_sem,ak];omega)
    refine ⟨_,_,_,?_,?_,j+1,by omega,rfl,rfl, .inr rfl⟩
    ·omega
    ·rw [i3];refine Wk.sub ?_ ?_<;>(simp only [go_sem,sevalprocAttr,hW])
   |none=>
    rw [hq] at nO;have i1:mg hv m j=(aO hv m j).length:=by unfold mg;rw [nO];rfl
    have i2:kh hv m j= -1:=by unfold kh;rw [nO];rfl
    have i3:aO hv m (j+1)=aO hv m j++[hv.getD j 0]:=by simp only [aO];rw [nO];rfl
    rw [i1] at s1;rw [i2] at s2
    repeat' (first|omega|(first|apply aj|(refine an.intro (id:=2) nD nC (by decide+kernel) mixed ?_)|(refine an.intro (id:=13) nB [[],[],[0,1],[0,1,2],[0,1,2],[0,1,2,3,4],[3,4,5],[3,4,5],[],[]] (by decide+kernel) mixed ?_)|skip);simp only [go_sem,sevalprocAttr,bj,hq,Option.isSome_none,Option.getD_none,List.set_set,List.length_set,Int.toNat_natCast,s1,s2,↓reduceIte,reduceCtorEq,nD,nC,nB]|apply ag<;>(intro h_;(try simp only [h_]);revert h_)|apply ah|apply ai|apply ae|apply And.intro|with_reducible intro h_|trivial|simp only [go_sem,ak];omega)
    refine ⟨_,_,_,?_,?_,j+1,by omega,rfl,rfl, .inr rfl⟩
    ·omega
    ·rw [i3,List.length_append];refine Wk.sub ?_ ?_<;>(simp only [go_sem,sevalprocAttr,hW])
 ·obtain rfl:j=k:=by omega
  have bj:decide ((j:Int)<j)=false:=by simp
  rcases gO with ⟨eK,rfl⟩|rfl
  ·rw [eK]
   repeat' (first|omega|(try apply aj);simp only [go_sem,sevalprocAttr,bj]|apply ag<;>(intro h_;(try simp only [h_]);revert h_)|apply ah|apply ai|apply ae|apply And.intro|with_reducible intro h_|trivial|simp only [go_sem,ak];omega)
   rw [List.take_of_length_le (Nat.le_of_eq l2),List.take_of_length_le (Nat.le_of_eq l1),l1,l2];exact aM.j7 (.cons (aM.refl _) (.cons (aM.refl _) (.cons (aM.refl _) (.cons (aM.nils (by decide) rfl) .nil))))
  ·repeat' (first|omega|(try apply aj);simp only [go_sem,sevalprocAttr,bj]|apply ag<;>(intro h_;(try simp only [h_]);revert h_)|apply ah|apply ai|apply ae|apply And.intro|with_reducible intro h_|trivial|simp only [go_sem,ak];omega)
   rw [List.take_of_length_le (Nat.le_of_eq l2),List.take_of_length_le (Nat.le_of_eq l1),List.take_length,l1,l2];exact aM.refl _
end Go.Proofs.YtphjphpmfflfpaaGreatDoor
