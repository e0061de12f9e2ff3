/- Layer 19: a diagram is resolved at its first bad crossing. -/
import Derived.Test.YtbblgobamoabkaaGreatDoorZm
import Derived.Test.YtbblgobamoabkaaGreatDoorZn
import Derived.Test.YtbblgobamoabkaaGreatDoorZc
set_option linter.unusedSimpArgs false
set_option linter.unusedVariables false
namespace Go.Proofs.YtbblgobamoabkaaGreatDoor
open Go Go.RowKit
set_option maxRecDepth 100000
set_option maxHeartbeats 4000000
def yes:Tr:= .node [(0, .node [(1,trD [2,3,4,5]),(2,trD [1,3,4,5])]),(1,trD [0,2,3,4,5])]
def yhu:Tr:= .node [(0, .node [(1, .node [(2,trD [3,4,5,6]),(3, .node [(2,trD [4,5,6]),(4,trD [2,5,6])])]),(2, .node [(1,trD [3,4,5,6]),(3,trD [1,4,5,6])]),(3, .node [(1, .node [(2,trD [4,5,6]),(4,trD [2,5,6])]),(2,trD [1,4,5,6])])]),(1, .node [(0, .node [(2,trD [3,4,5,6]),(3, .node [(2,trD [4,5,6]),(4,trD [2,5,6])])]),(2,trD [0,3,4,5,6])]),(2, .node [(0, .node [(1,trD [3,4,5,6]),(3,trD [1,4,5,6])]),(1,trD [0,3,4,5,6])])]
theorem yis:LeA (.agg [.nils, .nils,I 0]) (dgA [] [] 0):=LeA.aggL (.cons (LeA.nils (by omega) rfl) (.cons (LeA.nils (by omega) rfl) (.cons (LeA.refl _) .nil)))
def resA (s m:List Int) (L:Int):AV:=if yap s m L then (match badO s m with
    |some c=> .tup [dgA (swS s c.toNat) (swM s m c.toNat) L,dgA (smS s c.toNat) (smM s m c.toNat) (smLp s m c.toNat L),I c,I 0]
    |none=> .tup [dgA [] [] 0,dgA [] [] 0,I (-1),I 12]) else .tup [dgA [] [] 0,dgA [] [] 0,I (-1),I 1]
theorem ymp (s m:List Int) (L:Int) (hL:yap s m L=true->L<=62):Fn Tryz.prog 29 [dgA s m L] (resA s m L):=by
 have hD:=yot s m L
 unfold yo1 at hD
 unfold resA
 cases hv:yap s m L with
 |false=>
  rw [hv] at hD
  simp only [Bool.false_eq_true,if_false] at hD⊢
  refine Fn.introL [.cell 2 24, .cell 3 24, .tmp 4, .tmp 5] Tryz.func29 rfl rfl (by decide) (by simp [Tryz.ntmps29]) ?_;rw [Tryz.ntmps29]
  repeat' (first|omega|(try apply yaa);simp only [go_sem,sevalprocAttr]|apply yab<;>(intro h_;(try simp only [h_]);revert h_)|apply And.intro|with_reducible intro h_|trivial|simp only [go_sem,la2];omega)
  refine ⟨yae.fn rfl hD ?_⟩
  repeat' (first|omega|(first|apply yaa|(refine yac.intro (id:=3) [[14],[13],[14],[],[],[]] [[],[0],[1],[],[],[]] (by decide+kernel) mixed ?_)|(refine yac.introT (id:=3) (yes) (by decide+kernel) mixed ?_)|(refine yac.intro (id:=5) [[18],[17],[18],[],[],[]] [[],[0],[1],[],[],[]] (by decide+kernel) mixed ?_)|(refine yac.introT (id:=5) (yes) (by decide+kernel) mixed ?_)|(refine yac.intro (id:=12) [[42,43],[41,43],[41,42],[42,43],[43],[],[]] [[],[0],[0,1],[1,2],[2],[],[]] (by decide+kernel) mixed ?_)|(refine yac.introT (id:=12) (yhu) (by decide+kernel) mixed ?_)|skip);simp only [go_sem,sevalprocAttr,↓reduceIte,reduceCtorEq,yes,yhu]|apply yab<;>(intro h_;(try simp only [h_]);revert h_)|apply And.intro|with_reducible intro h_|trivial|simp only [go_sem,la2];omega)
  all_goals exact LeA.tupL (.cons yis (.cons yis (.cons (LeA.refl _) (.cons (LeA.refl _) .nil))))
 |true=>
  have hL:=hL hv
  have v1:=ya1 hv
  rw [hv] at hD
  simp only [if_true] at hD⊢
  cases hbo:badO s m with
  |none=>
   rw [hbo] at hD
   simp only at hD⊢
   refine Fn.introL [.cell 2 24, .cell 3 24, .tmp 4, .tmp 5] Tryz.func29 rfl rfl (by decide) (by simp [Tryz.ntmps29]) ?_;rw [Tryz.ntmps29]
   repeat' (first|omega|(try apply yaa);simp only [go_sem,sevalprocAttr]|apply yab<;>(intro h_;(try simp only [h_]);revert h_)|apply And.intro|with_reducible intro h_|trivial|simp only [go_sem,la2];omega)
   refine ⟨yae.fn rfl hD ?_⟩
   repeat' (first|omega|(first|apply yaa|(refine yac.intro (id:=3) [[14],[13],[14],[],[],[]] [[],[0],[1],[],[],[]] (by decide+kernel) mixed ?_)|(refine yac.introT (id:=3) (yes) (by decide+kernel) mixed ?_)|(refine yac.intro (id:=5) [[18],[17],[18],[],[],[]] [[],[0],[1],[],[],[]] (by decide+kernel) mixed ?_)|(refine yac.introT (id:=5) (yes) (by decide+kernel) mixed ?_)|(refine yac.intro (id:=12) [[42,43],[41,43],[41,42],[42,43],[43],[],[]] [[],[0],[0,1],[1,2],[2],[],[]] (by decide+kernel) mixed ?_)|(refine yac.introT (id:=12) (yhu) (by decide+kernel) mixed ?_)|skip);simp only [go_sem,sevalprocAttr,↓reduceIte,reduceCtorEq,yes,yhu]|apply yab<;>(intro h_;(try simp only [h_]);revert h_)|apply And.intro|with_reducible intro h_|trivial|simp only [go_sem,la2];omega)
   all_goals exact LeA.tupL (.cons yis (.cons yis (.cons (LeA.refl _) (.cons (LeA.refl _) .nil))))
  |some c=>
   rw [hbo] at hD
   simp only at hD⊢
   obtain ⟨c0,c1⟩:=ypw v1.prd hbo
   obtain ⟨c,rfl⟩: ∃n:Nat,c=n:=⟨c.toNat,by omega⟩
   have hsm:=yyb s m L c (by omega) hL hv _ rfl
   have hsw:=yx7 s m L c (by omega) (by omega) hv
   refine Fn.introL [.cell 2 24, .cell 3 24, .tmp 4, .tmp 5] Tryz.func29 rfl rfl (by decide) (by simp [Tryz.ntmps29]) ?_;rw [Tryz.ntmps29]
   repeat' (first|omega|(try apply yaa);simp only [go_sem,sevalprocAttr]|apply yab<;>(intro h_;(try simp only [h_]);revert h_)|apply And.intro|with_reducible intro h_|trivial|simp only [go_sem,la2];omega)
   refine ⟨yae.fn rfl hD ?_⟩
   repeat' (first|omega|(try apply yaa);simp only [go_sem,sevalprocAttr]|apply yab<;>(intro h_;(try simp only [h_]);revert h_)|apply And.intro|with_reducible intro h_|trivial|simp only [go_sem,la2];omega)
   refine ⟨yae.fn rfl hsm ?_⟩
   repeat' (first|omega|(try apply yaa);simp only [go_sem,sevalprocAttr]|apply yab<;>(intro h_;(try simp only [h_]);revert h_)|apply And.intro|with_reducible intro h_|trivial|simp only [go_sem,la2];omega)
   refine ⟨yae.fn rfl hsw ?_⟩
   repeat' (first|omega|(first|apply yaa|(refine yac.intro (id:=3) [[14],[13],[14],[],[],[]] [[],[0],[1],[],[],[]] (by decide+kernel) mixed ?_)|(refine yac.introT (id:=3) (yes) (by decide+kernel) mixed ?_)|(refine yac.intro (id:=5) [[18],[17],[18],[],[],[]] [[],[0],[1],[],[],[]] (by decide+kernel) mixed ?_)|(refine yac.introT (id:=5) (yes) (by decide+kernel) mixed ?_)|(refine yac.intro (id:=12) [[42,43],[41,43],[41,42],[42,43],[43],[],[]] [[],[0],[0,1],[1,2],[2],[],[]] (by decide+kernel) mixed ?_)|(refine yac.introT (id:=12) (yhu) (by decide+kernel) mixed ?_)|skip);simp only [go_sem,sevalprocAttr,↓reduceIte,reduceCtorEq,yes,yhu]|apply yab<;>(intro h_;(try simp only [h_]);revert h_)|apply And.intro|with_reducible intro h_|trivial|simp only [go_sem,la2];omega)
   all_goals exact LeA.refl _
end Go.Proofs.YtbblgobamoabkaaGreatDoor
namespace Go.Proofs.YtbblgobamoabkaaGreatDoor
open Go Go.RowKit
set_option maxRecDepth 100000
set_option maxHeartbeats 8000000
set_option linter.unusedVariables false
set_option linter.unusedSimpArgs false
theorem yke (b:Bool) (p:List (Int×Int)):Fn Tryz.prog 10 [bvP b p] (.bool b):=by
 refine Fn.intro [.tmp 2] Tryz.func10 rfl rfl (by decide) (by simp [Tryz.ntmps10]) ?_;rw [Tryz.ntmps10]
 repeat' (first|omega|(try apply yaa);simp only [go_sem,sevalprocAttr]|apply yab<;>(intro h_;(try simp only [h_]);revert h_)|apply And.intro|with_reducible intro h_|trivial|simp only [go_sem,la2];omega)
end Go.Proofs.YtbblgobamoabkaaGreatDoor
