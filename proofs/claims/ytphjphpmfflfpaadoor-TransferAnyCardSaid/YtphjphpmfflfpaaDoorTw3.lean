/- Layer 17: sew: the nodes at a crossing that is added. -/
import Derived.Test.YtphjphpmfflfpaaDoorZe
set_option linter.unusedSimpArgs false
set_option linter.unusedVariables false
namespace Go.Proofs.YtphjphpmfflfpaaDoor
open Go Go.RowKit
set_option maxRecDepth 100000
set_option maxHeartbeats 8000000
def ybw:List (List Nat):=[[20,21,22,23,24,25,8],[19,23,24,25,8],[19,23,24,25,8],[19,23,24,25,8],[19,20,21,22,8],[19,20,21,22,8],[19,20,21,22,8],[8],[19,20,21,22,23,24,25,26],[]]
def ybx:List (List Nat):=[[],[0],[0],[0],[0,1,2,3],[0,1,2,3],[0,1,2,3],[],[0,1,2,3,4,5,6,7],[]]
def yby:List (List Nat):=[[68,69,70,71],[68,69,70,71],[66,67,69,70,71],[66,67,68,71,72],[66,67,68,71,72],[66,67,68,69,70,72],[69,70,71],[69,70,71],[],[]]
def ymz:Tr:= .node [(0, .node [(1, .node [(4, .node [(2, .node [(3, .node [(5, .node [(6, .node [(7, .node [(8, .node [(9, .done)])]),(8, .node [(7, .node [(9, .done)])])]),(8, .node [(6, .node [(7, .node [(9, .done)])])])]),(8, .node [(5, .node [(6, .node [(7, .node [(9, .done)])])])])]),(5, .node [(3, .node [(6, .node [(7, .node [(8, .node [(9, .done)])]),(8, .node [(7, .node [(9, .done)])])]),(8, .node [(6, .node [(7, .node [(9, .done)])])])]),(6, .node [(3, .node [(7, .node [(8, .node [(9, .done)])]),(8, .node [(7, .node [(9, .done)])])]),(8, .node [(3, .node [(7, .node [(9, .done)])])])]),(8, .node [(3, .node [(6, .node [(7, .node [(9, .done)])])]),(6, .node [(3, .node [(7, .node [(9, .done)])])])])]),(8, .node [(3, .node [(5, .node [(6, .node [(7, .node [(9, .done)])])])]),(5, .node [(3, .node [(6, .node [(7, .node [(9, .done)])])]),(6, .node [(3, .node [(7, .node [(9, .done)])])])])])]),(5, .node [(2, .node [(3, .node [(6, .node [(7, .node [(8, .node [(9, .done)])]),(8, .node [(7, .node [(9, .done)])])]),(8, .node [(6, .node [(7, .node [(9, .done)])])])]),(6, .node [(3, .node [(7, .node [(8, .node [(9, .done)])]),(8, .node [(7, .node [(9, .done)])])]),(8, .node [(3, .node [(7, .node [(9, .done)])])])]),(8, .node [(3, .node [(6, .node [(7, .node [(9, .done)])])]),(6, .node [(3, .node [(7, .node [(9, .done)])])])])]),(6, .node [(2, .node [(3, .node [(7, .node [(8, .node [(9, .done)])]),(8, .node [(7, .node [(9, .done)])])]),(8, .node [(3, .node [(7, .node [(9, .done)])])])]),(8, .node [(2, .node [(3, .node [(7, .node [(9, .done)])])])])]),(8, .node [(2, .node [(3, .node [(6, .node [(7, .node [(9, .done)])])]),(6, .node [(3, .node [(7, .node [(9, .done)])])])]),(6, .node [(2, .node [(3, .node [(7, .node [(9, .done)])])])])])]),(8, .node [(2, .node [(3, .node [(5, .node [(6, .node [(7, .node [(9, .done)])])])]),(5, .node [(3, .node [(6, .node [(7, .node [(9, .done)])])]),(6, .node [(3, .node [(7, .node [(9, .done)])])])])]),(5, .node [(2, .node [(3, .node [(6, .node [(7, .node [(9, .done)])])]),(6, .node [(3, .node [(7, .node [(9, .done)])])])]),(6, .node [(2, .node [(3, .node [(7, .node [(9, .done)])])])])])])])])])]
def ym0:Tr:= .node [(2, .node [(5, .node [(0, .node [(1, .node [(3, .node [(4, .node [(6, .node [(7, .node [(8, .node [(9, .done)])])])]),(6, .node [(4, .node [(7, .node [(8, .node [(9, .done)])])]),(7, .node [(4, .node [(8, .node [(9, .done)])])])])]),(6, .node [(3, .node [(4, .node [(7, .node [(8, .node [(9, .done)])])]),(7, .node [(4, .node [(8, .node [(9, .done)])])])]),(7, .node [(3, .node [(4, .node [(8, .node [(9, .done)])])])])])]),(3, .node [(1, .node [(4, .node [(6, .node [(7, .node [(8, .node [(9, .done)])])])]),(6, .node [(4, .node [(7, .node [(8, .node [(9, .done)])])]),(7, .node [(4, .node [(8, .node [(9, .done)])])])])]),(4, .node [(1, .node [(6, .node [(7, .node [(8, .node [(9, .done)])])])])])])]),(3, .node [(0, .node [(1, .node [(4, .node [(6, .node [(7, .node [(8, .node [(9, .done)])])])]),(6, .node [(4, .node [(7, .node [(8, .node [(9, .done)])])]),(7, .node [(4, .node [(8, .node [(9, .done)])])])])]),(4, .node [(1, .node [(6, .node [(7, .node [(8, .node [(9, .done)])])])])])]),(4, .node [(0, .node [(1, .node [(6, .node [(7, .node [(8, .node [(9, .done)])])])])])])])])])]
theorem yae.cut {P:Program} {N:Nat} {ops:Array Oper} {id:Nat} {fr:Fr} {H:Hp} {y:Code} {Q:Exit->Fr->Hp->Prop} (fr1:Fr) (H1:Hp) (h1:yae P N id ops fr H fun e fr' H'=>e= .normal/\Wk fr' H' fr1 H1) (h2:WpA P N y fr1 H1 Q):yae P N id ops fr H (yhp Q fun fr' H'=>WpA P N y fr' H' Q):=
 ⟨fun B w0 Mx w ρ a hs=>wp_mono (h1.out B w0 Mx w ρ a hs) (by
  rintro e a' w' ⟨ρ',fr',H',⟨rfl,hw⟩,hs'⟩
  obtain ⟨ρ2,hs2⟩:=hw _ _ _ _ _ _ _ hs'
  exact ⟨ρ2,fr1,H1,h2,hs2⟩)⟩
theorem y7j (s m:List Int) (L:Int) (ends:List Int) (c:Nat) (hs:s.length<=1000) (hm:ya3 m s.length) (hc:c<s.length) (hel:ends.length<=90) (her: ∀i,i<ends.length->0<=ends.getD i 0/\ends.getD i 0<4*s.length):
  Fn Tryd.prog 42 [dgA s m L,roI ends,I c] (.agg [I ends.length,roI (rowK (glS (hvL ends c) m) (ends.length+4) (ends.length+4)),roI (rowK (idS (hvL ends c) m) (ends.length+4) (ends.length+4)),roI (endS (hvL ends c) m (ends.length+4))]):=by
 have hml:=hm.1
 have hhl:=yb5 ends c
 have hrg: ∀x,x<ends.length+4->0<=(hvL ends c).getD x 0/\(hvL ends c).getD x 0<m.length:=fun x hx=>by
  unfold hvL
  by_cases h1:x<ends.length
  ·have:=her x h1
   simp only [List.getD_eq_getElem?_getD,List.getElem?_append_left h1] at this⊢
   omega
  ·simp only [List.getD_eq_getElem?_getD,List.getElem?_append_right (Nat.le_of_not_lt h1)]
   have:x-ends.length=0\/x-ends.length=1\/x-ends.length=2\/x-ends.length=3:=by omega
   rcases this with e|e|e|e<;>rw [e]<;>simp<;>omega
 have hvE:List.replicate 0 0++ends++[4*(c:Int),4*c+1,4*c+2,4*c+3]=hvL ends c:=by simp [hvL]
 have hvF:ends++[4*(c:Int),4*c+1,4*c+2,4*c+3]=hvL ends c:=rfl
 generalize hvL ends c=hv at*
 obtain ⟨W,hW⟩: ∃W,ends.length+4=W:=⟨_,rfl⟩
 have e0:((ends.length:Int)+4).toNat=W:=by omega
 rw [hW] at hhl hrg⊢
 have hW94:W<=94:=by omega
 refine Fn.introL [.cell 6 86] Tryd.func42 rfl rfl (by decide) (by simp [Tryd.ntmps42]) ?_;rw [Tryd.ntmps42]
 repeat' (first|omega|(first|apply yaa|(refine yae.intro (id:=2) ybw ybx (by decide+kernel) mixed ?_)|(refine yae.intro (id:=13) yby [[],[],[0,1],[0,1,2],[0,1,2],[0,1,2,3,4],[3,4,5],[3,4,5],[],[]] (by decide+kernel) mixed ?_)|skip);simp only [go_sem,sevalprocAttr,Int.toNat_natCast,e0,hW,hvE,hvF,↓reduceIte,reduceCtorEq,ybw,ybx,yby]|apply yad<;>(intro h_;(try simp only [h_]);revert h_)|apply yac|apply yab|apply gspI|apply And.intro|with_reducible intro h_|trivial|simp only [go_sem,la2];omega)
 refine SpL.makeMap (n:=(ends.length:Int)+4) (kt:=3) (et:=3) rfl rfl (by simp only [go_sem,sevalprocAttr]) rfl ?_
 repeat' (first|omega|(first|apply yaa|(refine yae.intro (id:=2) ybw ybx (by decide+kernel) mixed ?_)|(refine yae.intro (id:=13) yby [[],[],[0,1],[0,1,2],[0,1,2],[0,1,2,3,4],[3,4,5],[3,4,5],[],[]] (by decide+kernel) mixed ?_)|skip);simp only [go_sem,sevalprocAttr,Int.toNat_natCast,e0,hW,hvE,hvF,↓reduceIte,reduceCtorEq,ybw,ybx,yby]|apply yad<;>(intro h_;(try simp only [h_]);revert h_)|apply yac|apply yab|apply gspI|apply And.intro|with_reducible intro h_|trivial|simp only [go_sem,la2];omega)
 refine yai.intro (fun n fr H=> ∃k:Nat,k<=W/\n=W-k/\fr=[(50,I k),(49,I W),(48, .sl 1 11 0 W),(10, .mp 13),(9, .sl 1 11 0 W),(8, .ptr 10 0),(6, .ptr 1 0),(3, .ptr 0 0)]/\H=[(13, .fmap 104 (.ints (ndF hv k))),(11, .cells 3 (.ints hv)),(10, .cells 86 (.lst [I ends.length, .sl 1 5 0 W, .sl 1 8 0 W, .nils])),(8, .cells 3 (.ints (List.replicate W 0))),(5, .cells 3 (.ints (List.replicate W 0))),(1, .cells 86 (.lst [I 0, .nils, .nils, .nils])),(0, .cells 31 (.lst [roI s,roI m,I L]))]) ?_ ?_
 ·refine ⟨_,_,_,?_,0,by omega,rfl,rfl,rfl⟩
  refine Wk.sub ?_ ?_<;>(simp only [go_sem,sevalprocAttr,ndF])
 rintro n fr H ⟨k,hk,rfl,rfl,rfl⟩
 by_cases hkW:k<W
 ·have bk:decide ((k:Int)<W)=true:=by simp;omega
  have hup:updI (ndF hv k) (hv.getD k 0) k=ndF hv (k+1):=rfl
  repeat' (first|omega|(try apply yaa);simp only [go_sem,sevalprocAttr,bk,hup,hhl]|apply yad<;>(intro h_;(try simp only [h_]);revert h_)|apply yac|apply yab|apply gspI|apply And.intro|with_reducible intro h_|trivial|simp only [go_sem,la2];omega)
  refine ⟨_,_,_,?_,?_,⟨k+1,by omega,rfl,rfl,rfl⟩⟩
  ·omega
  ·refine Wk.sub ?_ ?_<;>(simp only [go_sem,sevalprocAttr,hup])
 obtain rfl:k=W:=by omega
 have bk:decide ((k:Int)<k)=false:=by simp
 have hglo: ∀x,glO hv m x=ndF hv k (m.getD (hv.getD x 0).toNat 0):=fun x=>by unfold glO;rw [hhl]
 repeat' (first|omega|(try apply yaa);simp only [go_sem,sevalprocAttr,bk]|apply yad<;>(intro h_;(try simp only [h_]);revert h_)|apply yac|apply yab|apply gspI|apply And.intro|with_reducible intro h_|trivial|simp only [go_sem,la2];omega)
 refine yai.intro (fun n fr H=> ∃j:Nat,j<=k/\n=k-j/\fr=[(61,I j),(60,I k),(59, .sl 1 11 0 k),(10, .mp 13),(8, .ptr 10 0),(6, .ptr 1 0),(3, .ptr 0 0)]/\((endS hv m j=[]/\H=[(13, .fmap 104 (.ints (ndF hv k))),(11, .cells 3 (.ints hv)),(10, .cells 86 (.lst [I ends.length, .sl 1 5 0 k, .sl 1 8 0 k, .nils])),(8, .cells 3 (.ints (rowK (idS hv m) k j))),(5, .cells 3 (.ints (rowK (glS hv m) k j))),(1, .cells 86 (.lst [I 0, .nils, .nils, .nils])),(0, .cells 31 (.lst [roI s,roI m,I L]))])\/
  H=[(15, .cells 3 (.ints (endS hv m j))),(13, .fmap 104 (.ints (ndF hv k))),(11, .cells 3 (.ints hv)),(10, .cells 86 (.lst [I ends.length, .sl 1 5 0 k, .sl 1 8 0 k, .sl 1 15 0 (endS hv m j).length])),(8, .cells 3 (.ints (rowK (idS hv m) k j))),(5, .cells 3 (.ints (rowK (glS hv m) k j))),(1, .cells 86 (.lst [I 0, .nils, .nils, .nils])),(0, .cells 31 (.lst [roI s,roI m,I L]))])) ?_ ?_
 ·refine ⟨_,_,_,?_,0,by omega,rfl,rfl, .inl ⟨rfl,rfl⟩⟩
  rw [yyi,yyi]
  refine Wk.sub ?_ ?_<;>(simp only [go_sem,sevalprocAttr,ndF])
 rintro n fr H ⟨j,hj,rfl,rfl,hcase⟩
 have l1:=yf4 (idS hv m) k j
 have l2:=yf4 (glS hv m) k j
 have l3:=ylf hv m j
 by_cases hjk:j<k
 ·have bj:decide ((j:Int)<k)=true:=by simp;omega
  have r1:=hrg j hjk
  have s1:=yrd (idS hv m) k j hjk
  have s2:=yrd (glS hv m) k j hjk
  have hgj:=hglo j
  have hmr:=hm.2 (hv.getD j 0).toNat (by omega)
  have d1:(rowK (glS hv m) k j).length=k:=l2
  rcases hcase with ⟨hnil,rfl⟩|rfl
  ·repeat' (first|omega|(try apply yaa);simp only [go_sem,sevalprocAttr,bj]|apply yad<;>(intro h_;(try simp only [h_]);revert h_)|apply yac|apply yab|apply gspI|apply And.intro|with_reducible intro h_|trivial|simp only [go_sem,la2];omega)
   refine yae.cut [(14,I (hv.getD j 0)),(13,I j),(61,I j),(60,I k),(59, .sl 1 11 0 k),(10, .mp 13),(8, .ptr 10 0),(6, .ptr 1 0),(3, .ptr 0 0)] [(13, .fmap 104 (.ints (ndF hv k))),(11, .cells 3 (.ints hv)),(10, .cells 86 (.lst [I ends.length, .sl 1 5 0 k, .sl 1 8 0 k, .nils])),(8, .cells 3 (.ints ((rowK (idS hv m) k j).set j (-1)))),(5, .cells 3 (.ints ((rowK (glS hv m) k j).set j (-1)))),(1, .cells 86 (.lst [I 0, .nils, .nils, .nils])),(0, .cells 31 (.lst [roI s,roI m,I L]))] ?_ ?_
   ·repeat' (first|omega|(first|apply yaa|(refine yae.introE (id:=2) (ymz) (by decide+kernel) mixed ?_)|(refine yae.intro (id:=2) ybw ybx (by decide+kernel) mixed ?_)|(refine yae.introE (id:=13) (ym0) (by decide+kernel) mixed ?_)|(refine yae.intro (id:=13) yby [[],[],[0,1],[0,1,2],[0,1,2],[0,1,2,3,4],[3,4,5],[3,4,5],[],[]] (by decide+kernel) mixed ?_)|skip);simp only [go_sem,sevalprocAttr,List.length_set,Int.toNat_natCast,↓reduceIte,reduceCtorEq,ybw,ybx,yby,ymz,ym0]|apply yad<;>(intro h_;(try simp only [h_]);revert h_)|apply yac|apply yab|apply gspI|apply And.intro|with_reducible intro h_|trivial|simp only [go_sem,la2];omega)
    all_goals (refine Wk.sub ?_ ?_<;>(simp only [go_sem,sevalprocAttr,l1]))
   cases hq:ndF hv k (m.getD (hv.getD j 0).toNat 0) with
   |some y=>
    rw [hq] at hgj
    have i1:idS hv m j= -1:=by unfold idS;rw [hgj];rfl
    have i2:glS hv m j=y:=by unfold glS;rw [hgj];rfl
    have i3:endS hv m (j+1)=endS hv m j:=by simp only [endS];rw [hgj];rfl
    rw [i1] at s1
    rw [i2] at s2
    repeat' (first|omega|(first|apply yaa|(refine yae.intro (id:=2) ybw ybx (by decide+kernel) mixed ?_)|(refine yae.intro (id:=13) yby [[],[],[0,1],[0,1,2],[0,1,2],[0,1,2,3,4],[3,4,5],[3,4,5],[],[]] (by decide+kernel) mixed ?_)|skip);simp only [go_sem,sevalprocAttr,bj,hq,Option.isSome_some,Option.getD_some,List.set_set,List.length_set,Int.toNat_natCast,s1,s2,↓reduceIte,reduceCtorEq,ybw,ybx,yby]|apply yad<;>(intro h_;(try simp only [h_]);revert h_)|apply yac|apply yab|apply gspI|apply And.intro|with_reducible intro h_|trivial|simp only [go_sem,la2];omega)
    refine ⟨_,_,_,?_,?_,j+1,by omega,rfl,rfl, .inl ⟨by rw [i3];exact hnil,rfl⟩⟩
    ·omega
    ·refine Wk.sub ?_ ?_<;>(simp only [go_sem,sevalprocAttr,hW])
   |none=>
    rw [hq] at hgj
    have i1:idS hv m j=(endS hv m j).length:=by unfold idS;rw [hgj];rfl
    have i2:glS hv m j= -1:=by unfold glS;rw [hgj];rfl
    have i3:endS hv m (j+1)=endS hv m j++[hv.getD j 0]:=by simp only [endS];rw [hgj];rfl
    rw [hnil,List.nil_append] at i3
    rw [i1,hnil] at s1
    rw [i2] at s2
    have s1':(rowK (idS hv m) k j).set j 0=rowK (idS hv m) k (j+1):=s1
    repeat' (first|omega|(first|apply yaa|(refine yae.intro (id:=2) ybw ybx (by decide+kernel) mixed ?_)|(refine yae.intro (id:=13) yby [[],[],[0,1],[0,1,2],[0,1,2],[0,1,2,3,4],[3,4,5],[3,4,5],[],[]] (by decide+kernel) mixed ?_)|skip);simp only [go_sem,sevalprocAttr,bj,hq,Option.isSome_none,Option.getD_none,List.set_set,List.length_set,Int.toNat_natCast,s1',s2,↓reduceIte,reduceCtorEq,ybw,ybx,yby]|apply yad<;>(intro h_;(try simp only [h_]);revert h_)|apply yac|apply yab|apply gspI|apply And.intro|with_reducible intro h_|trivial|simp only [go_sem,la2];omega)
    refine ⟨_,_,_,?_,?_,j+1,by omega,rfl,rfl, .inr rfl⟩
    ·omega
    ·rw [i3]
     refine Wk.sub ?_ ?_<;>(simp only [go_sem,sevalprocAttr,hW])
  ·repeat' (first|omega|(try apply yaa);simp only [go_sem,sevalprocAttr,bj]|apply yad<;>(intro h_;(try simp only [h_]);revert h_)|apply yac|apply yab|apply gspI|apply And.intro|with_reducible intro h_|trivial|simp only [go_sem,la2];omega)
   refine yae.cut [(14,I (hv.getD j 0)),(13,I j),(61,I j),(60,I k),(59, .sl 1 11 0 k),(10, .mp 13),(8, .ptr 10 0),(6, .ptr 1 0),(3, .ptr 0 0)] [(15, .cells 3 (.ints (endS hv m j))),(13, .fmap 104 (.ints (ndF hv k))),(11, .cells 3 (.ints hv)),(10, .cells 86 (.lst [I ends.length, .sl 1 5 0 k, .sl 1 8 0 k, .sl 1 15 0 (endS hv m j).length])),(8, .cells 3 (.ints ((rowK (idS hv m) k j).set j (-1)))),(5, .cells 3 (.ints ((rowK (glS hv m) k j).set j (-1)))),(1, .cells 86 (.lst [I 0, .nils, .nils, .nils])),(0, .cells 31 (.lst [roI s,roI m,I L]))] ?_ ?_
   ·repeat' (first|omega|(first|apply yaa|(refine yae.introE (id:=2) (ymz) (by decide+kernel) mixed ?_)|(refine yae.intro (id:=2) ybw ybx (by decide+kernel) mixed ?_)|(refine yae.introE (id:=13) (ym0) (by decide+kernel) mixed ?_)|(refine yae.intro (id:=13) yby [[],[],[0,1],[0,1,2],[0,1,2],[0,1,2,3,4],[3,4,5],[3,4,5],[],[]] (by decide+kernel) mixed ?_)|skip);simp only [go_sem,sevalprocAttr,List.length_set,Int.toNat_natCast,↓reduceIte,reduceCtorEq,ybw,ybx,yby,ymz,ym0]|apply yad<;>(intro h_;(try simp only [h_]);revert h_)|apply yac|apply yab|apply gspI|apply And.intro|with_reducible intro h_|trivial|simp only [go_sem,la2];omega)
    all_goals (refine Wk.sub ?_ ?_<;>(simp only [go_sem,sevalprocAttr,l1]))
   cases hq:ndF hv k (m.getD (hv.getD j 0).toNat 0) with
   |some y=>
    rw [hq] at hgj
    have i1:idS hv m j= -1:=by unfold idS;rw [hgj];rfl
    have i2:glS hv m j=y:=by unfold glS;rw [hgj];rfl
    have i3:endS hv m (j+1)=endS hv m j:=by simp only [endS];rw [hgj];rfl
    rw [i1] at s1
    rw [i2] at s2
    repeat' (first|omega|(first|apply yaa|(refine yae.intro (id:=2) ybw ybx (by decide+kernel) mixed ?_)|(refine yae.intro (id:=13) yby [[],[],[0,1],[0,1,2],[0,1,2],[0,1,2,3,4],[3,4,5],[3,4,5],[],[]] (by decide+kernel) mixed ?_)|skip);simp only [go_sem,sevalprocAttr,bj,hq,Option.isSome_some,Option.getD_some,List.set_set,List.length_set,Int.toNat_natCast,s1,s2,↓reduceIte,reduceCtorEq,ybw,ybx,yby]|apply yad<;>(intro h_;(try simp only [h_]);revert h_)|apply yac|apply yab|apply gspI|apply And.intro|with_reducible intro h_|trivial|simp only [go_sem,la2];omega)
    refine ⟨_,_,_,?_,?_,j+1,by omega,rfl,rfl, .inr rfl⟩
    ·omega
    ·rw [i3]
     refine Wk.sub ?_ ?_<;>(simp only [go_sem,sevalprocAttr,hW])
   |none=>
    rw [hq] at hgj
    have i1:idS hv m j=(endS hv m j).length:=by unfold idS;rw [hgj];rfl
    have i2:glS hv m j= -1:=by unfold glS;rw [hgj];rfl
    have i3:endS hv m (j+1)=endS hv m j++[hv.getD j 0]:=by simp only [endS];rw [hgj];rfl
    rw [i1] at s1
    rw [i2] at s2
    repeat' (first|omega|(first|apply yaa|(refine yae.intro (id:=2) ybw ybx (by decide+kernel) mixed ?_)|(refine yae.intro (id:=13) yby [[],[],[0,1],[0,1,2],[0,1,2],[0,1,2,3,4],[3,4,5],[3,4,5],[],[]] (by decide+kernel) mixed ?_)|skip);simp only [go_sem,sevalprocAttr,bj,hq,Option.isSome_none,Option.getD_none,List.set_set,List.length_set,Int.toNat_natCast,s1,s2,↓reduceIte,reduceCtorEq,ybw,ybx,yby]|apply yad<;>(intro h_;(try simp only [h_]);revert h_)|apply yac|apply yab|apply gspI|apply And.intro|with_reducible intro h_|trivial|simp only [go_sem,la2];omega)
    refine ⟨_,_,_,?_,?_,j+1,by omega,rfl,rfl, .inr rfl⟩
    ·omega
    ·rw [i3,List.length_append]
     refine Wk.sub ?_ ?_<;>(simp only [go_sem,sevalprocAttr,hW])
 ·obtain rfl:j=k:=by omega
  have bj:decide ((j:Int)<j)=false:=by simp
  rcases hcase with ⟨hnil,rfl⟩|rfl
  ·rw [hnil]
   repeat' (first|omega|(try apply yaa);simp only [go_sem,sevalprocAttr,bj]|apply yad<;>(intro h_;(try simp only [h_]);revert h_)|apply yac|apply yab|apply gspI|apply And.intro|with_reducible intro h_|trivial|simp only [go_sem,la2];omega)
   rw [List.take_of_length_le (Nat.le_of_eq l2),List.take_of_length_le (Nat.le_of_eq l1),l1,l2]
   exact LeA.aggL (.cons (LeA.refl _) (.cons (LeA.refl _) (.cons (LeA.refl _) (.cons (LeA.nils (by decide) rfl) .nil))))
  ·repeat' (first|omega|(try apply yaa);simp only [go_sem,sevalprocAttr,bj]|apply yad<;>(intro h_;(try simp only [h_]);revert h_)|apply yac|apply yab|apply gspI|apply And.intro|with_reducible intro h_|trivial|simp only [go_sem,la2];omega)
   rw [List.take_of_length_le (Nat.le_of_eq l2),List.take_of_length_le (Nat.le_of_eq l1),List.take_length,l1,l2]
   exact LeA.refl _
end Go.Proofs.YtphjphpmfflfpaaDoor
