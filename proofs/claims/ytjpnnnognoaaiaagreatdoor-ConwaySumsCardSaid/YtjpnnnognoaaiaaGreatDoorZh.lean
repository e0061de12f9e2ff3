/- Layer 19: the polynomial, by as many steps as are granted. -/
import Derived.Test.YtjpnnnognoaaiaaGreatDoorZf
import Derived.Test.YtjpnnnognoaaiaaGreatDoorLa4
set_option linter.unusedSimpArgs false
set_option linter.unusedVariables false
namespace Go.Proofs.YtjpnnnognoaaiaaGreatDoor
open Go Go.RowKit
set_option maxRecDepth 100000
set_option maxHeartbeats 8000000
def yay:Tr:= .node [(0, .node [(1,trD [2,3,4]),(2,trD [1,3,4])]),(2,trD [0,1,3,4])]
theorem ynw:LeA (.agg [.bool false, .nils]) (plA false []):=LeA.aggL (.cons (LeA.refl _) (.cons (LeA.nils (by omega) rfl) .nil))
theorem yld: ∀(n:Nat) (s m:List Int) (L:Int) (p:List (Int×Int)),rsM n s m L=some p->Fn Tryz.prog 42 [dgA s m L] (plA false p):=by
 intro n
 induction n with
 |zero=>intro s m L p h;simp [rsM] at h
 |succ n ih=>
  intro s m L p h
  unfold rsM at h
  split at h
  ·rename_i hc
   obtain rfl:[]=p:=by simpa using h
   have b1:decide (0<L)=true:=by simp;omega
   have b2:decide ((0:Int)<s.length)=true:=by simp;omega
   refine Fn.introL [.cell 2 34] Tryz.func42 rfl rfl (by decide) (by simp [Tryz.ntmps42]) ?_;rw [Tryz.ntmps42]
   repeat' (first|omega|(first|apply yaa|(refine yac.intro (id:=11) [[46],[46],[44,45],[],[]] [[],[],[0,1],[],[]] (by decide+kernel) mixed ?_)|(refine yac.introT (id:=11) (yay) (by decide+kernel) mixed ?_)|skip);simp only [go_sem,sevalprocAttr,b1,b2,↓reduceIte,reduceCtorEq,yay]|apply yab<;>(intro h_;(try simp only [h_]);revert h_)|apply And.intro|with_reducible intro h_|trivial|simp only [go_sem,la2];omega)
   all_goals exact ynw
  rename_i hns
  split at h
  case isFalse=>cases h
  rename_i hL
  have hR:=yvt s m L (fun _=>hL)
  have hC:=ypb s m L
  unfold resA at hR
  split at h
  case isFalse=>
   rename_i hv
   obtain rfl:[]=p:=by simpa using h
   rw [if_neg hv] at hR hC
   refine Fn.introL [.cell 2 34] Tryz.func42 rfl rfl (by decide) (by simp [Tryz.ntmps42]) ?_;rw [Tryz.ntmps42]
   repeat' (first|omega|(try apply yaa);simp only [go_sem,sevalprocAttr]|apply yab<;>(intro h_;(try simp only [h_]);revert h_)|apply And.intro|with_reducible intro h_|trivial|simp only [go_sem,la2];omega)
   all_goals refine ⟨yad.fn rfl hR ?_⟩
   all_goals (repeat' (first|omega|(first|apply yaa|(refine yac.intro (id:=11) [[46],[46],[44,45],[],[]] [[],[],[0,1],[],[]] (by decide+kernel) mixed ?_)|(refine yac.introT (id:=11) (yay) (by decide+kernel) mixed ?_)|skip);simp only [go_sem,sevalprocAttr,↓reduceIte,reduceCtorEq,yay]|apply yab<;>(intro h_;(try simp only [h_]);revert h_)|apply And.intro|with_reducible intro h_|trivial|simp only [go_sem,la2];omega))
   all_goals refine ⟨yad.fn rfl hC ?_⟩
   all_goals (repeat' (first|omega|(first|apply yaa|(refine yac.intro (id:=11) [[46],[46],[44,45],[],[]] [[],[],[0,1],[],[]] (by decide+kernel) mixed ?_)|(refine yac.introT (id:=11) (yay) (by decide+kernel) mixed ?_)|skip);simp only [go_sem,sevalprocAttr,↓reduceIte,reduceCtorEq,yay]|apply yab<;>(intro h_;(try simp only [h_]);revert h_)|apply And.intro|with_reducible intro h_|trivial|simp only [go_sem,la2];omega))
   all_goals exact ynw
  rename_i hv
  rw [if_pos hv] at hR hC
  have v1:=yal hv
  cases hbo:badO s m with
  |none=>
   rw [hbo] at hR h
   simp only at hR h
   refine Fn.introL [.cell 2 34] Tryz.func42 rfl rfl (by decide) (by simp [Tryz.ntmps42]) ?_;rw [Tryz.ntmps42]
   split at h
   ·rename_i he
    obtain rfl:=Option.some.inj h
    rw [he] at hC
    repeat' (first|omega|(try apply yaa);simp only [go_sem,sevalprocAttr]|apply yab<;>(intro h_;(try simp only [h_]);revert h_)|apply And.intro|with_reducible intro h_|trivial|simp only [go_sem,la2];omega)
    all_goals refine ⟨yad.fn rfl hR ?_⟩
    all_goals (repeat' (first|omega|(first|apply yaa|(refine yac.intro (id:=11) [[46],[46],[44,45],[],[]] [[],[],[0,1],[],[]] (by decide+kernel) mixed ?_)|(refine yac.introT (id:=11) (yay) (by decide+kernel) mixed ?_)|skip);simp only [go_sem,sevalprocAttr,↓reduceIte,reduceCtorEq,yay]|apply yab<;>(intro h_;(try simp only [h_]);revert h_)|apply And.intro|with_reducible intro h_|trivial|simp only [go_sem,la2];omega))
    all_goals refine ⟨yad.fn rfl hC ?_⟩
    all_goals (repeat' (first|omega|(first|apply yaa|(refine yac.intro (id:=11) [[46],[46],[44,45],[],[]] [[],[],[0,1],[],[]] (by decide+kernel) mixed ?_)|(refine yac.introT (id:=11) (yay) (by decide+kernel) mixed ?_)|skip);simp only [go_sem,sevalprocAttr,↓reduceIte,reduceCtorEq,yay]|apply yab<;>(intro h_;(try simp only [h_]);revert h_)|apply And.intro|with_reducible intro h_|trivial|simp only [go_sem,la2];omega))
    all_goals refine ⟨yad.frz [4] rfl (by simp only [go_sem,sevalprocAttr]) (by simp only [go_sem,sevalprocAttr]) (by simp only [go_sem,sevalprocAttr]) (by simp only [go_sem,sevalprocAttr]) rfl rfl rfl (yad.fn rfl y5v ?_)⟩
    all_goals (repeat' (first|omega|(first|apply yaa|(refine yac.intro (id:=11) [[46],[46],[44,45],[],[]] [[],[],[0,1],[],[]] (by decide+kernel) mixed ?_)|(refine yac.introT (id:=11) (yay) (by decide+kernel) mixed ?_)|skip);simp only [go_sem,sevalprocAttr,↓reduceIte,reduceCtorEq,yay]|apply yab<;>(intro h_;(try simp only [h_]);revert h_)|apply And.intro|with_reducible intro h_|trivial|simp only [go_sem,la2];omega))
    all_goals exact LeA.refl _
   ·rename_i he
    obtain rfl:=Option.some.inj h
    have be:(((yaj s m).length:Int)+L==1)=false:=by simpa using he
    repeat' (first|omega|(try apply yaa);simp only [go_sem,sevalprocAttr]|apply yab<;>(intro h_;(try simp only [h_]);revert h_)|apply And.intro|with_reducible intro h_|trivial|simp only [go_sem,la2];omega)
    all_goals refine ⟨yad.fn rfl hR ?_⟩
    all_goals (repeat' (first|omega|(first|apply yaa|(refine yac.intro (id:=11) [[46],[46],[44,45],[],[]] [[],[],[0,1],[],[]] (by decide+kernel) mixed ?_)|(refine yac.introT (id:=11) (yay) (by decide+kernel) mixed ?_)|skip);simp only [go_sem,sevalprocAttr,↓reduceIte,reduceCtorEq,yay]|apply yab<;>(intro h_;(try simp only [h_]);revert h_)|apply And.intro|with_reducible intro h_|trivial|simp only [go_sem,la2];omega))
    all_goals refine ⟨yad.fn rfl hC ?_⟩
    all_goals (repeat' (first|omega|(first|apply yaa|(refine yac.intro (id:=11) [[46],[46],[44,45],[],[]] [[],[],[0,1],[],[]] (by decide+kernel) mixed ?_)|(refine yac.introT (id:=11) (yay) (by decide+kernel) mixed ?_)|skip);simp only [go_sem,sevalprocAttr,be,↓reduceIte,reduceCtorEq,yay]|apply yab<;>(intro h_;(try simp only [h_]);revert h_)|apply And.intro|with_reducible intro h_|trivial|simp only [go_sem,la2];omega))
    all_goals exact ynw
  |some c=>
   rw [hbo] at hR h
   simp only at hR h
   obtain ⟨c0,c1⟩:=yit v1.prd hbo
   obtain ⟨c,rfl⟩: ∃n:Nat,c=n:=⟨c.toNat,by omega⟩
   simp only [Int.toNat_natCast] at hR h
   split at h
   case h_2=>cases h
   rename_i p1 q1 h1 h2
   split at h
   case isFalse=>cases h
   rename_i hok
   simp only [Bool.and_eq_true] at hok
   obtain ⟨⟨⟨⟨⟨g1,g2⟩,g3⟩,g4⟩,g5⟩,g6⟩:=hok
   have f1:=ih _ _ _ _ h1
   have f2:=ih _ _ _ _ h2
   obtain rfl:=Option.some.inj h
   have hsh:=y2a p1 1 (by omega) (by omega) (fun t ht=>by have:=y27 g1 t ht;omega) (fun t ht=>by have:=y27 g1 t ht;unfold fitB;simp;omega) (y9b g1) (ypi g1)
   have hN:=y7r (shP 1 p1) (yvu g2) (ypi g2) (by rw [←ydd negF (shP 1 p1).length [] (shP 1 p1) (by simp)];exact g3)
   rw [←ydd negF (shP 1 p1).length [] (shP 1 p1) (by simp)] at hN
   have hA:=y7q q1 (yfy (decide (s.getD c 0<0)) (shP 1 p1)) (yvu g5) (yvu g4) (ypi g5) (ypi g4) (by rw [←ydd addF _ q1 _ (Nat.le_refl _)];exact g6)
   rw [←ydd addF _ q1 _ (Nat.le_refl _)] at hA
   have hcl:c<s.length:=by omega
   by_cases hsg:s.getD c 0<0
   ·have bs:decide (s.getD c 0<0)=true:=by simpa using hsg
    rw [bs] at hA⊢
    refine Fn.introL [.cell 2 34] Tryz.func42 rfl rfl (by decide) (by simp [Tryz.ntmps42]) ?_;rw [Tryz.ntmps42]
    repeat' (first|omega|(try apply yaa);simp only [go_sem,sevalprocAttr]|apply yab<;>(intro h_;(try simp only [h_]);revert h_)|apply And.intro|with_reducible intro h_|trivial|simp only [go_sem,la2];omega)
    all_goals refine ⟨yad.fn rfl hR ?_⟩
    all_goals (repeat' (first|omega|(first|apply yaa|(refine yac.intro (id:=11) [[46],[46],[44,45],[],[]] [[],[],[0,1],[],[]] (by decide+kernel) mixed ?_)|(refine yac.introT (id:=11) (yay) (by decide+kernel) mixed ?_)|skip);simp only [go_sem,sevalprocAttr,↓reduceIte,reduceCtorEq,yay]|apply yab<;>(intro h_;(try simp only [h_]);revert h_)|apply And.intro|with_reducible intro h_|trivial|simp only [go_sem,la2];omega))
    all_goals refine ⟨yad.fn rfl f1 ?_⟩
    all_goals (repeat' (first|omega|(first|apply yaa|(refine yac.intro (id:=11) [[46],[46],[44,45],[],[]] [[],[],[0,1],[],[]] (by decide+kernel) mixed ?_)|(refine yac.introT (id:=11) (yay) (by decide+kernel) mixed ?_)|skip);simp only [go_sem,sevalprocAttr,↓reduceIte,reduceCtorEq,yay]|apply yab<;>(intro h_;(try simp only [h_]);revert h_)|apply And.intro|with_reducible intro h_|trivial|simp only [go_sem,la2];omega))
    all_goals refine ⟨yad.fn rfl hsh ?_⟩
    all_goals (repeat' (first|omega|(first|apply yaa|(refine yac.intro (id:=11) [[46],[46],[44,45],[],[]] [[],[],[0,1],[],[]] (by decide+kernel) mixed ?_)|(refine yac.introT (id:=11) (yay) (by decide+kernel) mixed ?_)|skip);simp only [go_sem,sevalprocAttr,bs,↓reduceIte,reduceCtorEq,yay]|apply yab<;>(intro h_;(try simp only [h_]);revert h_)|apply And.intro|with_reducible intro h_|trivial|simp only [go_sem,la2];omega))
    all_goals refine ⟨yad.fn rfl hN ?_⟩
    all_goals (repeat' (first|omega|(first|apply yaa|(refine yac.intro (id:=11) [[46],[46],[44,45],[],[]] [[],[],[0,1],[],[]] (by decide+kernel) mixed ?_)|(refine yac.introT (id:=11) (yay) (by decide+kernel) mixed ?_)|skip);simp only [go_sem,sevalprocAttr,↓reduceIte,reduceCtorEq,yay]|apply yab<;>(intro h_;(try simp only [h_]);revert h_)|apply And.intro|with_reducible intro h_|trivial|simp only [go_sem,la2];omega))
    all_goals refine ⟨yap.fn rfl f2 ?_⟩
    all_goals (repeat' (first|omega|(first|apply yaa|(refine yac.intro (id:=11) [[46],[46],[44,45],[],[]] [[],[],[0,1],[],[]] (by decide+kernel) mixed ?_)|(refine yac.introT (id:=11) (yay) (by decide+kernel) mixed ?_)|skip);simp only [go_sem,sevalprocAttr,↓reduceIte,reduceCtorEq,yay]|apply yab<;>(intro h_;(try simp only [h_]);revert h_)|apply And.intro|with_reducible intro h_|trivial|simp only [go_sem,la2];omega))
    all_goals refine ⟨yap.fn rfl hA ?_⟩
    all_goals (repeat' (first|omega|(first|apply yaa|(refine yac.intro (id:=11) [[46],[46],[44,45],[],[]] [[],[],[0,1],[],[]] (by decide+kernel) mixed ?_)|(refine yac.introT (id:=11) (yay) (by decide+kernel) mixed ?_)|skip);simp only [go_sem,sevalprocAttr,↓reduceIte,reduceCtorEq,yay]|apply yab<;>(intro h_;(try simp only [h_]);revert h_)|apply And.intro|with_reducible intro h_|trivial|simp only [go_sem,la2];omega))
    all_goals exact LeA.refl _
   ·have bs:decide (s.getD c 0<0)=false:=by simpa using hsg
    rw [bs] at hA⊢
    have e:yfy false (shP 1 p1)=shP 1 p1:=rfl
    rw [e] at hA⊢
    refine Fn.introL [.cell 2 34] Tryz.func42 rfl rfl (by decide) (by simp [Tryz.ntmps42]) ?_;rw [Tryz.ntmps42]
    repeat' (first|omega|(try apply yaa);simp only [go_sem,sevalprocAttr]|apply yab<;>(intro h_;(try simp only [h_]);revert h_)|apply And.intro|with_reducible intro h_|trivial|simp only [go_sem,la2];omega)
    all_goals refine ⟨yad.fn rfl hR ?_⟩
    all_goals (repeat' (first|omega|(first|apply yaa|(refine yac.intro (id:=11) [[46],[46],[44,45],[],[]] [[],[],[0,1],[],[]] (by decide+kernel) mixed ?_)|(refine yac.introT (id:=11) (yay) (by decide+kernel) mixed ?_)|skip);simp only [go_sem,sevalprocAttr,↓reduceIte,reduceCtorEq,yay]|apply yab<;>(intro h_;(try simp only [h_]);revert h_)|apply And.intro|with_reducible intro h_|trivial|simp only [go_sem,la2];omega))
    all_goals refine ⟨yad.fn rfl f1 ?_⟩
    all_goals (repeat' (first|omega|(first|apply yaa|(refine yac.intro (id:=11) [[46],[46],[44,45],[],[]] [[],[],[0,1],[],[]] (by decide+kernel) mixed ?_)|(refine yac.introT (id:=11) (yay) (by decide+kernel) mixed ?_)|skip);simp only [go_sem,sevalprocAttr,↓reduceIte,reduceCtorEq,yay]|apply yab<;>(intro h_;(try simp only [h_]);revert h_)|apply And.intro|with_reducible intro h_|trivial|simp only [go_sem,la2];omega))
    all_goals refine ⟨yad.fn rfl hsh ?_⟩
    all_goals (repeat' (first|omega|(first|apply yaa|(refine yac.intro (id:=11) [[46],[46],[44,45],[],[]] [[],[],[0,1],[],[]] (by decide+kernel) mixed ?_)|(refine yac.introT (id:=11) (yay) (by decide+kernel) mixed ?_)|skip);simp only [go_sem,sevalprocAttr,bs,↓reduceIte,reduceCtorEq,yay]|apply yab<;>(intro h_;(try simp only [h_]);revert h_)|apply And.intro|with_reducible intro h_|trivial|simp only [go_sem,la2];omega))
    all_goals refine ⟨yap.fn rfl f2 ?_⟩
    all_goals (repeat' (first|omega|(first|apply yaa|(refine yac.intro (id:=11) [[46],[46],[44,45],[],[]] [[],[],[0,1],[],[]] (by decide+kernel) mixed ?_)|(refine yac.introT (id:=11) (yay) (by decide+kernel) mixed ?_)|skip);simp only [go_sem,sevalprocAttr,↓reduceIte,reduceCtorEq,yay]|apply yab<;>(intro h_;(try simp only [h_]);revert h_)|apply And.intro|with_reducible intro h_|trivial|simp only [go_sem,la2];omega))
    all_goals refine ⟨yap.fn rfl hA ?_⟩
    all_goals (repeat' (first|omega|(first|apply yaa|(refine yac.intro (id:=11) [[46],[46],[44,45],[],[]] [[],[],[0,1],[],[]] (by decide+kernel) mixed ?_)|(refine yac.introT (id:=11) (yay) (by decide+kernel) mixed ?_)|skip);simp only [go_sem,sevalprocAttr,↓reduceIte,reduceCtorEq,yay]|apply yab<;>(intro h_;(try simp only [h_]);revert h_)|apply And.intro|with_reducible intro h_|trivial|simp only [go_sem,la2];omega))
    all_goals exact LeA.refl _
def trS:List Int:=[1,1,1]
def trM:List Int:=[9,4,7,10,1,8,11,2,5,0,3,6]
theorem y5w:rsM 8 trS trM 0=some [(0,1),(2,1)]:=by decide+kernel
theorem yqw:yaf trS trM 0=true:=by decide+kernel
theorem y2b:badO trS trM=some 1:=by decide+kernel
end Go.Proofs.YtjpnnnognoaaiaaGreatDoor
set_option linter.unusedSimpArgs false
set_option linter.unusedVariables false
namespace Go.Proofs.YtjpnnnognoaaiaaGreatDoor
open Go Go.RowKit
set_option maxRecDepth 100000
set_option maxHeartbeats 8000000
theorem ym1:Fn Tryz.prog 32 [] (dgA trS trM 0):=by
 refine Fn.introL [.cell 0 24] Tryz.func32 rfl rfl (by decide) (by simp [Tryz.ntmps32]) ?_;rw [Tryz.ntmps32]
 repeat' (first|omega|(try apply yaa);simp only [go_sem,sevalprocAttr]|apply yab<;>(intro h_;(try simp only [h_]);revert h_)|apply And.intro|with_reducible intro h_|trivial|simp only [go_sem,la2];omega)
 all_goals exact LeA.refl _
theorem yqx (s m:List Int) (L:Int) (p:List (Int×Int)) (n:Nat) (hv:yaf s m L=true) (h0:0<s.length) (h1:s.length<=14) (hr:rsM n s m L=some p):Fn Tryz.prog 12 [dgA s m L] (.tup [plA false p,I 0]):=by
 have hV:=ybw s m L
 rw [hv] at hV
 have hR:=yld n s m L p hr
 have b0:((s.length:Int)==0)=false:=by simp;intro e;subst e;simp at h0
 have b1:decide ((14:Int)<s.length)=false:=by simp;omega
 refine Fn.introL [.cell 2 34, .tmp 3] Tryz.func12 rfl rfl (by decide) (by simp [Tryz.ntmps12]) ?_;rw [Tryz.ntmps12]
 repeat' (first|omega|(try apply yaa);simp only [go_sem,sevalprocAttr,b0,b1]|apply yab<;>(intro h_;(try simp only [h_]);revert h_)|apply And.intro|with_reducible intro h_|trivial|simp only [go_sem,la2];omega)
 all_goals refine ⟨yad.fn rfl hV ?_⟩
 all_goals (repeat' (first|omega|(try apply yaa);simp only [go_sem,sevalprocAttr,b0,b1]|apply yab<;>(intro h_;(try simp only [h_]);revert h_)|apply And.intro|with_reducible intro h_|trivial|simp only [go_sem,la2];omega))
 all_goals refine ⟨yad.fn rfl hR ?_⟩
 all_goals (repeat' (first|omega|(try apply yaa);simp only [go_sem,sevalprocAttr,b0,b1]|apply yab<;>(intro h_;(try simp only [h_]);revert h_)|apply And.intro|with_reducible intro h_|trivial|simp only [go_sem,la2];omega))
 all_goals exact LeA.refl _
theorem y2c (hT:Fn Tryz.prog 34 [plA false [(0,1),(2,1)], .str ⟨#[122]⟩] (.str ⟨#[49,43,122,94,50]⟩)):Fn Tryz.prog 9 [] (.bool true):=by
 have hP:=yqx trS trM 0 _ 8 yqw (by decide) (by decide) y5w
 have hD:=yi9 trS trM 0
 unfold ymx at hD
 rw [yqw,y2b] at hD
 simp only [if_true] at hD
 refine Fn.introL [.tmp 0] Tryz.func9 rfl rfl (by decide) (by simp [Tryz.ntmps9]) ?_;rw [Tryz.ntmps9]
 repeat' (first|omega|(try apply yaa);simp only [go_sem,sevalprocAttr]|apply yab<;>(intro h_;(try simp only [h_]);revert h_)|apply And.intro|with_reducible intro h_|trivial|simp only [go_sem,la2];omega)
 all_goals refine ⟨yad.fn rfl ym1 ?_⟩
 all_goals (repeat' (first|omega|(try apply yaa);simp only [go_sem,sevalprocAttr]|apply yab<;>(intro h_;(try simp only [h_]);revert h_)|apply And.intro|with_reducible intro h_|trivial|simp only [go_sem,la2];omega))
 all_goals refine ⟨yad.fn rfl hP ?_⟩
 all_goals (repeat' (first|omega|(try apply yaa);simp only [go_sem,sevalprocAttr]|apply yab<;>(intro h_;(try simp only [h_]);revert h_)|apply And.intro|with_reducible intro h_|trivial|simp only [go_sem,la2];omega))
 all_goals refine ⟨yad.fn rfl ym1 ?_⟩
 all_goals (repeat' (first|omega|(try apply yaa);simp only [go_sem,sevalprocAttr]|apply yab<;>(intro h_;(try simp only [h_]);revert h_)|apply And.intro|with_reducible intro h_|trivial|simp only [go_sem,la2];omega))
 all_goals refine ⟨yad.fn rfl hD ?_⟩
 all_goals (repeat' (first|omega|(try apply yaa);simp only [go_sem,sevalprocAttr]|apply yab<;>(intro h_;(try simp only [h_]);revert h_)|apply And.intro|with_reducible intro h_|trivial|simp only [go_sem,la2];omega))
 all_goals refine ⟨yad.fn rfl hT ?_⟩
 all_goals (repeat' (first|omega|(try apply yaa);simp only [go_sem,sevalprocAttr]|apply yab<;>(intro h_;(try simp only [h_]);revert h_)|apply And.intro|with_reducible intro h_|trivial|simp only [go_sem,la2];omega))
 all_goals exact LeA.refl _
end Go.Proofs.YtjpnnnognoaaiaaGreatDoor
