/- Layer 19: a diagram is resolved at its first bad crossing. -/
import Derived.Test.YtjpbeacamoijhaaGreatDoorZy
import Derived.Test.YtjpbeacamoijhaaGreatDoorZz
import Derived.Test.YtjpbeacamoijhaaGreatDoorZc
set_option linter.unusedSimpArgs false
set_option linter.unusedVariables false
namespace Go.Proofs.YtjpbeacamoijhaaGreatDoor
open Go Go.RowKit
set_option maxRecDepth 100000
set_option maxHeartbeats 4000000
def yL:Tr:= .node [(0, .node [(1,trD [2,3,4,5]),(2,trD [1,3,4,5])]),(1,trD [0,2,3,4,5])]
def C4:Tr:= .node [(0, .node [(1, .node [(2,trD [3,4,5,6]),(3, .node [(2,trD [4,5,6]),(4,trD [2,5,6])])]),(2, .node [(1,trD [3,4,5,6]),(3,trD [1,4,5,6])]),(3, .node [(1, .node [(2,trD [4,5,6]),(4,trD [2,5,6])]),(2,trD [1,4,5,6])])]),(1, .node [(0, .node [(2,trD [3,4,5,6]),(3, .node [(2,trD [4,5,6]),(4,trD [2,5,6])])]),(2,trD [0,3,4,5,6])]),(2, .node [(0, .node [(1,trD [3,4,5,6]),(3,trD [1,4,5,6])]),(1,trD [0,3,4,5,6])])]
theorem IF:ca (.agg [.nils, .nils,I 0]) (dgA [] [] 0):=ca.Cy (.cons (ca.nils (by omega) rfl) (.cons (ca.nils (by omega) rfl) (.cons (ca.refl _) .nil)))
def resA (s m:List Int) (L:Int):AV:=if bI s m L then (match mN s m with
    |some c=> .tup [dgA (jR s c.toNat) (jc s m c.toNat) L,dgA (de s c.toNat) (en s m c.toNat) (gP s m c.toNat L),I c,I 0]
    |none=> .tup [dgA [] [] 0,dgA [] [] 0,I (-1),I 12]) else .tup [dgA [] [] 0,dgA [] [] 0,I (-1),I 1]
theorem Tk (s m:List Int) (L:Int) (hL:bI s m L=true->L<=62):Fn Tryz.prog 41 [dgA s m L] (resA s m L):=by
 have hD:=YT s m L;unfold HA at hD;unfold resA;cases hv:bI s m L with
 |false=>
  rw [hv] at hD;simp only [Bool.false_eq_true,if_false] at hD⊢;refine Fn.aH [.cell 2 24, .cell 3 24, .tmp 4, .tmp 5] Tryz.func41 rfl rfl (by decide) (by simp [Tryz.ntmps41]) ?_;rw [Tryz.ntmps41]
  repeat' (first|omega|(try apply ah);simp only [go_sem,sevalprocAttr]|apply ag<;>(intro h_;(try simp only [h_]);revert h_)|apply And.intro|with_reducible intro h_|trivial|simp only [go_sem,ai];omega)
  refine ⟨aO.fn rfl hD ?_⟩
  repeat' (first|omega|(first|apply ah|(refine bd.intro (id:=3) [[14],[13],[14],[],[],[]] [[],[0],[1],[],[],[]] (by decide+kernel) mixed ?_)|(refine bd.bY (id:=3) (yL) (by decide+kernel) mixed ?_)|(refine bd.intro (id:=5) [[18],[17],[18],[],[],[]] [[],[0],[1],[],[],[]] (by decide+kernel) mixed ?_)|(refine bd.bY (id:=5) (yL) (by decide+kernel) mixed ?_)|(refine bd.intro (id:=12) [[42,43],[41,43],[41,42],[42,43],[43],[],[]] [[],[0],[0,1],[1,2],[2],[],[]] (by decide+kernel) mixed ?_)|(refine bd.bY (id:=12) (C4) (by decide+kernel) mixed ?_)|skip);simp only [go_sem,sevalprocAttr,↓reduceIte,reduceCtorEq,yL,C4]|apply ag<;>(intro h_;(try simp only [h_]);revert h_)|apply And.intro|with_reducible intro h_|trivial|simp only [go_sem,ai];omega)
  all_goals exact ca.E5 (.cons IF (.cons IF (.cons (ca.refl _) (.cons (ca.refl _) .nil))))
 |true=>
  have hL:=hL hv;have v1:=dr hv;rw [hv] at hD;simp only [if_true] at hD⊢;cases hbo:mN s m with
  |none=>
   rw [hbo] at hD;simp only at hD⊢;refine Fn.aH [.cell 2 24, .cell 3 24, .tmp 4, .tmp 5] Tryz.func41 rfl rfl (by decide) (by simp [Tryz.ntmps41]) ?_;rw [Tryz.ntmps41]
   repeat' (first|omega|(try apply ah);simp only [go_sem,sevalprocAttr]|apply ag<;>(intro h_;(try simp only [h_]);revert h_)|apply And.intro|with_reducible intro h_|trivial|simp only [go_sem,ai];omega)
   refine ⟨aO.fn rfl hD ?_⟩
   repeat' (first|omega|(first|apply ah|(refine bd.intro (id:=3) [[14],[13],[14],[],[],[]] [[],[0],[1],[],[],[]] (by decide+kernel) mixed ?_)|(refine bd.bY (id:=3) (yL) (by decide+kernel) mixed ?_)|(refine bd.intro (id:=5) [[18],[17],[18],[],[],[]] [[],[0],[1],[],[],[]] (by decide+kernel) mixed ?_)|(refine bd.bY (id:=5) (yL) (by decide+kernel) mixed ?_)|(refine bd.intro (id:=12) [[42,43],[41,43],[41,42],[42,43],[43],[],[]] [[],[0],[0,1],[1,2],[2],[],[]] (by decide+kernel) mixed ?_)|(refine bd.bY (id:=12) (C4) (by decide+kernel) mixed ?_)|skip);simp only [go_sem,sevalprocAttr,↓reduceIte,reduceCtorEq,yL,C4]|apply ag<;>(intro h_;(try simp only [h_]);revert h_)|apply And.intro|with_reducible intro h_|trivial|simp only [go_sem,ai];omega)
   all_goals exact ca.E5 (.cons IF (.cons IF (.cons (ca.refl _) (.cons (ca.refl _) .nil))))
  |some c=>
   rw [hbo] at hD;simp only at hD⊢;obtain ⟨c0,c1⟩:=R7 v1.dB hbo;obtain ⟨c,rfl⟩: ∃n:Nat,c=n:=⟨c.toNat,by omega⟩;have tZ:=y1w s m L c (by omega) hL hv _ rfl;have o8:=y1s s m L c (by omega) (by omega) hv;refine Fn.aH [.cell 2 24, .cell 3 24, .tmp 4, .tmp 5] Tryz.func41 rfl rfl (by decide) (by simp [Tryz.ntmps41]) ?_;rw [Tryz.ntmps41]
   repeat' (first|omega|(try apply ah);simp only [go_sem,sevalprocAttr]|apply ag<;>(intro h_;(try simp only [h_]);revert h_)|apply And.intro|with_reducible intro h_|trivial|simp only [go_sem,ai];omega)
   refine ⟨aO.fn rfl hD ?_⟩
   repeat' (first|omega|(try apply ah);simp only [go_sem,sevalprocAttr]|apply ag<;>(intro h_;(try simp only [h_]);revert h_)|apply And.intro|with_reducible intro h_|trivial|simp only [go_sem,ai];omega)
   refine ⟨aO.fn rfl tZ ?_⟩
   repeat' (first|omega|(try apply ah);simp only [go_sem,sevalprocAttr]|apply ag<;>(intro h_;(try simp only [h_]);revert h_)|apply And.intro|with_reducible intro h_|trivial|simp only [go_sem,ai];omega)
   refine ⟨aO.fn rfl o8 ?_⟩
   repeat' (first|omega|(first|apply ah|(refine bd.intro (id:=3) [[14],[13],[14],[],[],[]] [[],[0],[1],[],[],[]] (by decide+kernel) mixed ?_)|(refine bd.bY (id:=3) (yL) (by decide+kernel) mixed ?_)|(refine bd.intro (id:=5) [[18],[17],[18],[],[],[]] [[],[0],[1],[],[],[]] (by decide+kernel) mixed ?_)|(refine bd.bY (id:=5) (yL) (by decide+kernel) mixed ?_)|(refine bd.intro (id:=12) [[42,43],[41,43],[41,42],[42,43],[43],[],[]] [[],[0],[0,1],[1,2],[2],[],[]] (by decide+kernel) mixed ?_)|(refine bd.bY (id:=12) (C4) (by decide+kernel) mixed ?_)|skip);simp only [go_sem,sevalprocAttr,↓reduceIte,reduceCtorEq,yL,C4]|apply ag<;>(intro h_;(try simp only [h_]);revert h_)|apply And.intro|with_reducible intro h_|trivial|simp only [go_sem,ai];omega)
   all_goals exact ca.refl _
set_option maxHeartbeats 8000000
theorem QL (b:Bool) (p:List (Int×Int)):Fn Tryz.prog 12 [jo b p] (.bool b):=by
 refine Fn.intro [.tmp 2] Tryz.func12 rfl rfl (by decide) (by simp [Tryz.ntmps12]) ?_;rw [Tryz.ntmps12]
 repeat' (first|omega|(try apply ah);simp only [go_sem,sevalprocAttr]|apply ag<;>(intro h_;(try simp only [h_]);revert h_)|apply And.intro|with_reducible intro h_|trivial|simp only [go_sem,ai];omega)
end Go.Proofs.YtjpbeacamoijhaaGreatDoor
