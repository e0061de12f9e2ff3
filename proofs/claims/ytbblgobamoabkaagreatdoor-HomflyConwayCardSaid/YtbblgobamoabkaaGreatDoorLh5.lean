/- Layer 20: the law HomflyConway. -/
import Derived.Test.YtbblgobamoabkaaGreatDoorZw
import Derived.Test.YtbblgobamoabkaaGreatDoorSe1
import Derived.Test.YtbblgobamoabkaaGreatDoorZvc
import Derived.Test.YtbblgobamoabkaaGreatDoorZvd
import Derived.Test.YtbblgobamoabkaaGreatDoorZvf
import Derived.Test.YtbblgobamoabkaaGreatDoorZvg
import Derived.Test.YtbblgobamoabkaaGreatDoorZm
namespace Go.Proofs.YtbblgobamoabkaaGreatDoor
open Go Go.RowKit
set_option maxRecDepth 100000
set_option maxHeartbeats 8000000
set_option linter.unusedVariables false
set_option linter.unusedSimpArgs false
def yzs:Tr:= .node [(0,trP [1,2,3] (.node [(4,trD [5,6,7]),(5,trD [4,6,7])])),(1, .node [(0,trP [2,3] (.node [(4,trD [5,6,7]),(5,trD [4,6,7])])),(2,trP [0,3] (.node [(4,trD [5,6,7]),(5,trD [4,6,7])]))])]
theorem yvq {p R:List (Int×Int)} (hS:Fn Tryz.prog 19 [bvP false p,plA false [(0,1)],plA false [(1,1)]] (.tup [plA false R,I 0])):
  Fn Tryz.prog 17 [bvP false p] (.tup [plA false R,I 0]):=by
 have t1:=yjz 1 0 (by decide) (by decide)
 have t2:=yjz 1 1 (by decide) (by decide)
 rw [show trm 1 0=[(0,1)] from rfl] at t1
 rw [show trm 1 1=[(1,1)] from rfl] at t2
 refine Fn.introL [.cell 2 47, .tmp 3] Tryz.func17 rfl rfl (by decide) (by simp [Tryz.ntmps17]) ?_;rw [Tryz.ntmps17]
 repeat' (first|omega|(first|apply yaa|(refine yac.intro (id:=1) [[5,6],[4],[4],[],[9],[8],[],[]] [[],[0],[0],[],[],[4],[],[]] (by decide+kernel) mixed ?_)|(refine yac.introT (id:=1) (yzs) (by decide+kernel) mixed ?_)|skip);simp only [go_sem,sevalprocAttr,yam,yak,↓reduceIte,reduceCtorEq,yzs]|(refine ⟨yad.fn (r:=?_) rfl ?_ ?_⟩;rotate_left;assumption)|(refine ⟨yag.fn (r:=?_) rfl ?_ ?_⟩;rotate_left;assumption)|apply yab<;>(intro h_;(try simp only [h_]);revert h_)|apply And.intro|with_reducible intro h_|trivial|simp only [go_sem,la2];omega)
 all_goals exact LeA.refl _
theorem ymt (s m:List Int) (L:Int):Fn Tryz.prog 5 [dgA s m L] (.bool true):=by
 have hA:=yve
 have hG:=yvf s m L
 cases hg:smB s m L with
 |true=>
  rw [hg] at hG
  refine Fn.intro [.tmp 2] Tryz.func5 rfl rfl (by decide) (by simp [Tryz.ntmps5]) ?_;rw [Tryz.ntmps5]
  repeat' (first|omega|(try apply yaa);simp only [go_sem,sevalprocAttr,hA]|(refine ⟨yad.fn (r:=?_) rfl ?_ ?_⟩;rotate_left;assumption)|(refine ⟨yag.fn (r:=?_) rfl ?_ ?_⟩;rotate_left;assumption)|apply yab<;>(intro h_;(try simp only [h_]);revert h_)|apply And.intro|with_reducible intro h_|trivial|simp only [go_sem,la2];omega)
 |false=>
 rw [hg] at hG
 have hV:=yzq s m L
 cases hv:yap s m L with
 |false=>
  rw [hv] at hV
  refine Fn.intro [.tmp 2] Tryz.func5 rfl rfl (by decide) (by simp [Tryz.ntmps5]) ?_;rw [Tryz.ntmps5]
  repeat' (first|omega|(try apply yaa);simp only [go_sem,sevalprocAttr,hA]|(refine ⟨yad.fn (r:=?_) rfl ?_ ?_⟩;rotate_left;assumption)|(refine ⟨yag.fn (r:=?_) rfl ?_ ?_⟩;rotate_left;assumption)|apply yab<;>(intro h_;(try simp only [h_]);revert h_)|apply And.intro|with_reducible intro h_|trivial|simp only [go_sem,la2];omega)
 |true=>
 rw [hv] at hV
 have v1:=yas hv
 have hl0:=v1.l0
 have hl64:=v1.l64
 obtain ⟨l,rfl⟩: ∃l:Nat,L=l:=⟨L.toNat,by omega⟩
 have hC:=yno s m l hv
 by_cases hz:(yaj s m).length+l=0
 ·have bz:(((yaj s m).length:Int)+l==0)=true:=by rw [beq_iff_eq];omega
  refine Fn.intro [.tmp 2] Tryz.func5 rfl rfl (by decide) (by simp [Tryz.ntmps5]) ?_;rw [Tryz.ntmps5]
  repeat' (first|omega|(try apply yaa);simp only [go_sem,sevalprocAttr,bz]|(refine ⟨yad.fn (r:=?_) rfl ?_ ?_⟩;rotate_left;assumption)|(refine ⟨yag.fn (r:=?_) rfl ?_ ?_⟩;rotate_left;assumption)|apply yab<;>(intro h_;(try simp only [h_]);revert h_)|apply And.intro|with_reducible intro h_|trivial|simp only [go_sem,la2];omega)
 have bz:(((yaj s m).length:Int)+l==0)=false:=by rw [beq_eq_false_iff_ne];omega
 by_cases h6:6<s.length
 ·have b6:decide ((6:Int)<s.length)=true:=by rw [decide_eq_true_iff];omega
  refine Fn.intro [.tmp 2] Tryz.func5 rfl rfl (by decide) (by simp [Tryz.ntmps5]) ?_;rw [Tryz.ntmps5]
  repeat' (first|omega|(try apply yaa);simp only [go_sem,sevalprocAttr,bz,b6]|(refine ⟨yad.fn (r:=?_) rfl ?_ ?_⟩;rotate_left;assumption)|(refine ⟨yag.fn (r:=?_) rfl ?_ ?_⟩;rotate_left;assumption)|apply yab<;>(intro h_;(try simp only [h_]);revert h_)|apply And.intro|with_reducible intro h_|trivial|simp only [go_sem,la2];omega)
 have b6:decide ((6:Int)<s.length)=false:=by rw [decide_eq_false_iff_not];omega
 have hpos:0<s.length\/0<l:=by
  rcases Nat.eq_zero_or_pos l with h|h
  ·left
   obtain ⟨k,h1⟩: ∃k,k<(yaj s m).length:=⟨0,by omega⟩
   obtain ⟨x,h2,_⟩:=y64 v1 h1
   omega
  ·exact .inr h
 have hk:=yyy hg hv (by omega) hpos
 have hl8:l<=8:=by
  have hg':=hg
  simp only [smB,Bool.or_eq_false_iff,Bool.and_eq_false_iff,decide_eq_false_iff_not] at hg'
  omega
 have hbl:=Sp.bc_le v1
 have S0:=yow.sup hk ⟨by omega,by omega⟩
 obtain ⟨P,hP⟩:=yby S0 (by omega)
 have S0h: ∀t∈P,(-100<=bvA t.1/\bvA t.1<=100)/\ -100<=bvZ t.1/\bvZ t.1<=100:=fun t ht=>by
  have h1:=hP.memB (yf6 s m l hk) ht
  have h2:=Nat.mul_le_mul (show s.length<=6 by omega) (show s.length<=6 by omega)
  have e:(s.length:Int)*s.length=((s.length*s.length:Nat):Int):=by rw [Int.natCast_mul]
  rw [e] at h1
  omega
 have pP:=y15 yow hk ⟨by omega,by omega⟩ hP
 obtain ⟨q,q1,q2,q3,_,q5⟩:=Sp.conw (s.length*s.length+Sp.bc s m+1) s m l hv (by omega) (by omega) (Nat.le_refl _)
 have r1:yai (Sp.tmsF 0 q) (cfL (sZ 0 P)):=⟨yt1 q 0,fun e=>by
  rw [y2h s m l hk _ q q1 P hP e,yq7]
  unfold coG
  by_cases h:0<=e
  ·rw [if_pos h,if_pos h,Int.sub_zero]
  ·rw [if_neg h,if_neg h]⟩
 have r2:Fn Tryz.prog 25 [dgA s m l] (.tup [plA false (Sp.tmsF 0 q),I 0]):=by
  by_cases h:0<s.length
  ·exact y2j s m l _ _ hv h (by omega) q5
  ·obtain rfl:s=[]:=List.eq_nil_of_length_eq_zero (by omega)
   exact y2k m l _ _ hv (by simp at hpos;omega) q5
 have hS:=y54 (R:=Sp.tmsF 0 q) (hP.lenB S0 (by omega)) (fun t ht=>by have:=S0h t ht;omega) (fun t ht=>by have:=S0h t ht;omega) (y2g hk (by omega) hl8 hP) hP.asc.nz r1
 have hCw:=yvq hS
 have hRl:(Sp.tmsF 0 q).length<=1000000:=by
  have h1:=r1.asc.len (a:= -1000) (b:=1000) fun t ht=>by
   have h2:=(r1.mem ht).2
   rw [←r1.cf,yq7] at h2
   by_cases h3:0<=t.1
   ·rw [if_pos h3] at h2
    by_cases h4:(t.1-0).toNat<q.length
    ·omega
    ·exact absurd (by rw [List.getD_eq_getElem?_getD,List.getElem?_eq_none (by omega)];rfl) h2
   ·rw [if_neg h3] at h2;exact absurd rfl h2
  omega
 have hE:=y2l (Sp.tmsF 0 q) hRl
 clear hS r1 hk hP q1 q2 q3 q5
 generalize Sp.tmsF 0 q=R at*
 refine Fn.introL [.tmp 2] Tryz.func5 rfl rfl (by decide) (by simp [Tryz.ntmps5]) ?_;rw [Tryz.ntmps5]
 repeat' (first|omega|(try apply yaa);simp only [go_sem,sevalprocAttr,bz,b6,yam,yak]|(refine ⟨yad.fn (r:=?_) rfl ?_ ?_⟩;rotate_left;assumption)|(refine ⟨yag.fn (r:=?_) rfl ?_ ?_⟩;rotate_left;assumption)|apply yab<;>(intro h_;(try simp only [h_]);revert h_)|apply And.intro|with_reducible intro h_|trivial|simp only [go_sem,la2];omega)
 all_goals exact LeA.refl _
end Go.Proofs.YtbblgobamoabkaaGreatDoor
