/- Layer 19: the polynomial, by as many steps as are granted. -/
import Derived.Test.YtjpnnnognoaaiaaDoorZf
import Derived.Test.YtjpnnnognoaaiaaDoorZg
set_option linter.unusedSimpArgs false
set_option linter.unusedVariables false
namespace Go.Proofs.YtjpnnnognoaaiaaDoor
open Go Go.RowKit
set_option maxRecDepth 100000
set_option maxHeartbeats 8000000
def yay:Tr:= .node [(0, .node [(1,trD [2,3,4]),(2,trD [1,3,4])]),(2,trD [0,1,3,4])]
theorem ygg:LeA (.agg [.bool false, .nils]) (plA false []):=LeA.aggL (.cons (LeA.refl _) (.cons (LeA.nils (by omega) rfl) .nil))
theorem ylg: ∀(n:Nat) (s m:List Int) (L:Int) (p:List (Int×Int)),rsM n s m L=some p->Fn Tryd.prog 21 [dgA s m L] (plA false p):=by
 intro n
 induction n with
 |zero=>intro s m L p h;simp [rsM] at h
 |succ n ih=>
  intro s m L p h
  unfold rsM at h
  split at h
  ·rename_i hc
   obtain rfl:[]=p:=by simpa using h
   have b1:decide (0<L)=true:=by simp;omega
   have b2:decide ((0:Int)<s.length)=true:=by simp;omega
   refine Fn.introL [.cell 2 29] Tryd.func21 rfl rfl (by decide) (by simp [Tryd.ntmps21]) ?_;rw [Tryd.ntmps21]
   repeat' (first|omega|(first|apply yaa|(refine yac.intro (id:=11) [[46],[46],[44,45],[],[]] [[],[],[0,1],[],[]] (by decide+kernel) mixed ?_)|(refine yac.introT (id:=11) (yay) (by decide+kernel) mixed ?_)|skip);simp only [go_sem,sevalprocAttr,b1,b2,↓reduceIte,reduceCtorEq,yay]|apply yab<;>(intro h_;(try simp only [h_]);revert h_)|apply And.intro|with_reducible intro h_|trivial|simp only [go_sem,la2];omega)
   all_goals exact ygg
  rename_i hns
  split at h
  case isFalse=>cases h
  rename_i hL
  have hR:=yvd s m L (fun _=>hL)
  have hC:=ypa s m L
  unfold resA at hR
  split at h
  case isFalse=>
   rename_i hv
   obtain rfl:[]=p:=by simpa using h
   rw [if_neg hv] at hR hC
   refine Fn.introL [.cell 2 29] Tryd.func21 rfl rfl (by decide) (by simp [Tryd.ntmps21]) ?_;rw [Tryd.ntmps21]
   repeat' (first|omega|(try apply yaa);simp only [go_sem,sevalprocAttr]|apply yab<;>(intro h_;(try simp only [h_]);revert h_)|apply And.intro|with_reducible intro h_|trivial|simp only [go_sem,la2];omega)
   all_goals refine ⟨yae.fn rfl hR ?_⟩
   all_goals (repeat' (first|omega|(first|apply yaa|(refine yac.intro (id:=11) [[46],[46],[44,45],[],[]] [[],[],[0,1],[],[]] (by decide+kernel) mixed ?_)|(refine yac.introT (id:=11) (yay) (by decide+kernel) mixed ?_)|skip);simp only [go_sem,sevalprocAttr,↓reduceIte,reduceCtorEq,yay]|apply yab<;>(intro h_;(try simp only [h_]);revert h_)|apply And.intro|with_reducible intro h_|trivial|simp only [go_sem,la2];omega))
   all_goals refine ⟨yae.fn rfl hC ?_⟩
   all_goals (repeat' (first|omega|(first|apply yaa|(refine yac.intro (id:=11) [[46],[46],[44,45],[],[]] [[],[],[0,1],[],[]] (by decide+kernel) mixed ?_)|(refine yac.introT (id:=11) (yay) (by decide+kernel) mixed ?_)|skip);simp only [go_sem,sevalprocAttr,↓reduceIte,reduceCtorEq,yay]|apply yab<;>(intro h_;(try simp only [h_]);revert h_)|apply And.intro|with_reducible intro h_|trivial|simp only [go_sem,la2];omega))
   all_goals exact ygg
  rename_i hv
  rw [if_pos hv] at hR hC
  have v1:=yan hv
  cases hbo:badO s m with
  |none=>
   rw [hbo] at hR h
   simp only at hR h
   refine Fn.introL [.cell 2 29] Tryd.func21 rfl rfl (by decide) (by simp [Tryd.ntmps21]) ?_;rw [Tryd.ntmps21]
   split at h
   ·rename_i he
    obtain rfl:=Option.some.inj h
    rw [he] at hC
    repeat' (first|omega|(try apply yaa);simp only [go_sem,sevalprocAttr]|apply yab<;>(intro h_;(try simp only [h_]);revert h_)|apply And.intro|with_reducible intro h_|trivial|simp only [go_sem,la2];omega)
    all_goals refine ⟨yae.fn rfl hR ?_⟩
    all_goals (repeat' (first|omega|(first|apply yaa|(refine yac.intro (id:=11) [[46],[46],[44,45],[],[]] [[],[],[0,1],[],[]] (by decide+kernel) mixed ?_)|(refine yac.introT (id:=11) (yay) (by decide+kernel) mixed ?_)|skip);simp only [go_sem,sevalprocAttr,↓reduceIte,reduceCtorEq,yay]|apply yab<;>(intro h_;(try simp only [h_]);revert h_)|apply And.intro|with_reducible intro h_|trivial|simp only [go_sem,la2];omega))
    all_goals refine ⟨yae.fn rfl hC ?_⟩
    all_goals (repeat' (first|omega|(first|apply yaa|(refine yac.intro (id:=11) [[46],[46],[44,45],[],[]] [[],[],[0,1],[],[]] (by decide+kernel) mixed ?_)|(refine yac.introT (id:=11) (yay) (by decide+kernel) mixed ?_)|skip);simp only [go_sem,sevalprocAttr,↓reduceIte,reduceCtorEq,yay]|apply yab<;>(intro h_;(try simp only [h_]);revert h_)|apply And.intro|with_reducible intro h_|trivial|simp only [go_sem,la2];omega))
    all_goals refine ⟨yae.frz [4] rfl (by simp only [go_sem,sevalprocAttr]) (by simp only [go_sem,sevalprocAttr]) (by simp only [go_sem,sevalprocAttr]) (by simp only [go_sem,sevalprocAttr]) rfl rfl rfl (yae.fn rfl y45 ?_)⟩
    all_goals (repeat' (first|omega|(first|apply yaa|(refine yac.intro (id:=11) [[46],[46],[44,45],[],[]] [[],[],[0,1],[],[]] (by decide+kernel) mixed ?_)|(refine yac.introT (id:=11) (yay) (by decide+kernel) mixed ?_)|skip);simp only [go_sem,sevalprocAttr,↓reduceIte,reduceCtorEq,yay]|apply yab<;>(intro h_;(try simp only [h_]);revert h_)|apply And.intro|with_reducible intro h_|trivial|simp only [go_sem,la2];omega))
    all_goals exact LeA.refl _
   ·rename_i he
    obtain rfl:=Option.some.inj h
    have be:(((yak s m).length:Int)+L==1)=false:=by simpa using he
    repeat' (first|omega|(try apply yaa);simp only [go_sem,sevalprocAttr]|apply yab<;>(intro h_;(try simp only [h_]);revert h_)|apply And.intro|with_reducible intro h_|trivial|simp only [go_sem,la2];omega)
    all_goals refine ⟨yae.fn rfl hR ?_⟩
    all_goals (repeat' (first|omega|(first|apply yaa|(refine yac.intro (id:=11) [[46],[46],[44,45],[],[]] [[],[],[0,1],[],[]] (by decide+kernel) mixed ?_)|(refine yac.introT (id:=11) (yay) (by decide+kernel) mixed ?_)|skip);simp only [go_sem,sevalprocAttr,↓reduceIte,reduceCtorEq,yay]|apply yab<;>(intro h_;(try simp only [h_]);revert h_)|apply And.intro|with_reducible intro h_|trivial|simp only [go_sem,la2];omega))
    all_goals refine ⟨yae.fn rfl hC ?_⟩
    all_goals (repeat' (first|omega|(first|apply yaa|(refine yac.intro (id:=11) [[46],[46],[44,45],[],[]] [[],[],[0,1],[],[]] (by decide+kernel) mixed ?_)|(refine yac.introT (id:=11) (yay) (by decide+kernel) mixed ?_)|skip);simp only [go_sem,sevalprocAttr,be,↓reduceIte,reduceCtorEq,yay]|apply yab<;>(intro h_;(try simp only [h_]);revert h_)|apply And.intro|with_reducible intro h_|trivial|simp only [go_sem,la2];omega))
    all_goals exact ygg
  |some c=>
   rw [hbo] at hR h
   simp only at hR h
   obtain ⟨c0,c1⟩:=yiw v1.prd hbo
   obtain ⟨c,rfl⟩: ∃n:Nat,c=n:=⟨c.toNat,by omega⟩
   simp only [Int.toNat_natCast] at hR h
   split at h
   case h_2=>cases h
   rename_i p1 q1 h1 h2
   split at h
   case isFalse=>cases h
   rename_i hok
   simp only [Bool.and_eq_true] at hok
   obtain ⟨⟨⟨⟨⟨g1,g2⟩,g3⟩,g4⟩,g5⟩,g6⟩:=hok
   have f1:=ih _ _ _ _ h1
   have f2:=ih _ _ _ _ h2
   obtain rfl:=Option.some.inj h
   have hsh:=y1r p1 1 (by omega) (by omega) (fun t ht=>by have:=y2l g1 t ht;omega) (fun t ht=>by have:=y2l g1 t ht;unfold fitB;simp;omega) (y8s g1) (yph g1)
   have hN:=y64 (shP 1 p1) (yve g2) (yph g2) (by rw [←ydb negF (shP 1 p1).length [] (shP 1 p1) (by simp)];exact g3)
   rw [←ydb negF (shP 1 p1).length [] (shP 1 p1) (by simp)] at hN
   have hA:=y63 q1 (yfv (decide (s.getD c 0<0)) (shP 1 p1)) (yve g5) (yve g4) (yph g5) (yph g4) (by rw [←ydb addF _ q1 _ (Nat.le_refl _)];exact g6)
   rw [←ydb addF _ q1 _ (Nat.le_refl _)] at hA
   have hcl:c<s.length:=by omega
   by_cases hsg:s.getD c 0<0
   ·have bs:decide (s.getD c 0<0)=true:=by simpa using hsg
    rw [bs] at hA⊢
    refine Fn.introL [.cell 2 29] Tryd.func21 rfl rfl (by decide) (by simp [Tryd.ntmps21]) ?_;rw [Tryd.ntmps21]
    repeat' (first|omega|(try apply yaa);simp only [go_sem,sevalprocAttr]|apply yab<;>(intro h_;(try simp only [h_]);revert h_)|apply And.intro|with_reducible intro h_|trivial|simp only [go_sem,la2];omega)
    all_goals refine ⟨yae.fn rfl hR ?_⟩
    all_goals (repeat' (first|omega|(first|apply yaa|(refine yac.intro (id:=11) [[46],[46],[44,45],[],[]] [[],[],[0,1],[],[]] (by decide+kernel) mixed ?_)|(refine yac.introT (id:=11) (yay) (by decide+kernel) mixed ?_)|skip);simp only [go_sem,sevalprocAttr,↓reduceIte,reduceCtorEq,yay]|apply yab<;>(intro h_;(try simp only [h_]);revert h_)|apply And.intro|with_reducible intro h_|trivial|simp only [go_sem,la2];omega))
    all_goals refine ⟨yae.fn rfl f1 ?_⟩
    all_goals (repeat' (first|omega|(first|apply yaa|(refine yac.intro (id:=11) [[46],[46],[44,45],[],[]] [[],[],[0,1],[],[]] (by decide+kernel) mixed ?_)|(refine yac.introT (id:=11) (yay) (by decide+kernel) mixed ?_)|skip);simp only [go_sem,sevalprocAttr,↓reduceIte,reduceCtorEq,yay]|apply yab<;>(intro h_;(try simp only [h_]);revert h_)|apply And.intro|with_reducible intro h_|trivial|simp only [go_sem,la2];omega))
    all_goals refine ⟨yae.fn rfl hsh ?_⟩
    all_goals (repeat' (first|omega|(first|apply yaa|(refine yac.intro (id:=11) [[46],[46],[44,45],[],[]] [[],[],[0,1],[],[]] (by decide+kernel) mixed ?_)|(refine yac.introT (id:=11) (yay) (by decide+kernel) mixed ?_)|skip);simp only [go_sem,sevalprocAttr,bs,↓reduceIte,reduceCtorEq,yay]|apply yab<;>(intro h_;(try simp only [h_]);revert h_)|apply And.intro|with_reducible intro h_|trivial|simp only [go_sem,la2];omega))
    all_goals refine ⟨yae.fn rfl hN ?_⟩
    all_goals (repeat' (first|omega|(first|apply yaa|(refine yac.intro (id:=11) [[46],[46],[44,45],[],[]] [[],[],[0,1],[],[]] (by decide+kernel) mixed ?_)|(refine yac.introT (id:=11) (yay) (by decide+kernel) mixed ?_)|skip);simp only [go_sem,sevalprocAttr,↓reduceIte,reduceCtorEq,yay]|apply yab<;>(intro h_;(try simp only [h_]);revert h_)|apply And.intro|with_reducible intro h_|trivial|simp only [go_sem,la2];omega))
    all_goals refine ⟨ya6.fn rfl f2 ?_⟩
    all_goals (repeat' (first|omega|(first|apply yaa|(refine yac.intro (id:=11) [[46],[46],[44,45],[],[]] [[],[],[0,1],[],[]] (by decide+kernel) mixed ?_)|(refine yac.introT (id:=11) (yay) (by decide+kernel) mixed ?_)|skip);simp only [go_sem,sevalprocAttr,↓reduceIte,reduceCtorEq,yay]|apply yab<;>(intro h_;(try simp only [h_]);revert h_)|apply And.intro|with_reducible intro h_|trivial|simp only [go_sem,la2];omega))
    all_goals refine ⟨ya6.fn rfl hA ?_⟩
    all_goals (repeat' (first|omega|(first|apply yaa|(refine yac.intro (id:=11) [[46],[46],[44,45],[],[]] [[],[],[0,1],[],[]] (by decide+kernel) mixed ?_)|(refine yac.introT (id:=11) (yay) (by decide+kernel) mixed ?_)|skip);simp only [go_sem,sevalprocAttr,↓reduceIte,reduceCtorEq,yay]|apply yab<;>(intro h_;(try simp only [h_]);revert h_)|apply And.intro|with_reducible intro h_|trivial|simp only [go_sem,la2];omega))
    all_goals exact LeA.refl _
   ·have bs:decide (s.getD c 0<0)=false:=by simpa using hsg
    rw [bs] at hA⊢
    have e:yfv false (shP 1 p1)=shP 1 p1:=rfl
    rw [e] at hA⊢
    refine Fn.introL [.cell 2 29] Tryd.func21 rfl rfl (by decide) (by simp [Tryd.ntmps21]) ?_;rw [Tryd.ntmps21]
    repeat' (first|omega|(try apply yaa);simp only [go_sem,sevalprocAttr]|apply yab<;>(intro h_;(try simp only [h_]);revert h_)|apply And.intro|with_reducible intro h_|trivial|simp only [go_sem,la2];omega)
    all_goals refine ⟨yae.fn rfl hR ?_⟩
    all_goals (repeat' (first|omega|(first|apply yaa|(refine yac.intro (id:=11) [[46],[46],[44,45],[],[]] [[],[],[0,1],[],[]] (by decide+kernel) mixed ?_)|(refine yac.introT (id:=11) (yay) (by decide+kernel) mixed ?_)|skip);simp only [go_sem,sevalprocAttr,↓reduceIte,reduceCtorEq,yay]|apply yab<;>(intro h_;(try simp only [h_]);revert h_)|apply And.intro|with_reducible intro h_|trivial|simp only [go_sem,la2];omega))
    all_goals refine ⟨yae.fn rfl f1 ?_⟩
    all_goals (repeat' (first|omega|(first|apply yaa|(refine yac.intro (id:=11) [[46],[46],[44,45],[],[]] [[],[],[0,1],[],[]] (by decide+kernel) mixed ?_)|(refine yac.introT (id:=11) (yay) (by decide+kernel) mixed ?_)|skip);simp only [go_sem,sevalprocAttr,↓reduceIte,reduceCtorEq,yay]|apply yab<;>(intro h_;(try simp only [h_]);revert h_)|apply And.intro|with_reducible intro h_|trivial|simp only [go_sem,la2];omega))
    all_goals refine ⟨yae.fn rfl hsh ?_⟩
    all_goals (repeat' (first|omega|(first|apply yaa|(refine yac.intro (id:=11) [[46],[46],[44,45],[],[]] [[],[],[0,1],[],[]] (by decide+kernel) mixed ?_)|(refine yac.introT (id:=11) (yay) (by decide+kernel) mixed ?_)|skip);simp only [go_sem,sevalprocAttr,bs,↓reduceIte,reduceCtorEq,yay]|apply yab<;>(intro h_;(try simp only [h_]);revert h_)|apply And.intro|with_reducible intro h_|trivial|simp only [go_sem,la2];omega))
    all_goals refine ⟨ya6.fn rfl f2 ?_⟩
    all_goals (repeat' (first|omega|(first|apply yaa|(refine yac.intro (id:=11) [[46],[46],[44,45],[],[]] [[],[],[0,1],[],[]] (by decide+kernel) mixed ?_)|(refine yac.introT (id:=11) (yay) (by decide+kernel) mixed ?_)|skip);simp only [go_sem,sevalprocAttr,↓reduceIte,reduceCtorEq,yay]|apply yab<;>(intro h_;(try simp only [h_]);revert h_)|apply And.intro|with_reducible intro h_|trivial|simp only [go_sem,la2];omega))
    all_goals refine ⟨ya6.fn rfl hA ?_⟩
    all_goals (repeat' (first|omega|(first|apply yaa|(refine yac.intro (id:=11) [[46],[46],[44,45],[],[]] [[],[],[0,1],[],[]] (by decide+kernel) mixed ?_)|(refine yac.introT (id:=11) (yay) (by decide+kernel) mixed ?_)|skip);simp only [go_sem,sevalprocAttr,↓reduceIte,reduceCtorEq,yay]|apply yab<;>(intro h_;(try simp only [h_]);revert h_)|apply And.intro|with_reducible intro h_|trivial|simp only [go_sem,la2];omega))
    all_goals exact LeA.refl _
def trS:List Int:=[1,1,1]
def trM:List Int:=[9,4,7,10,1,8,11,2,5,0,3,6]
theorem y46:rsM 8 trS trM 0=some [(0,1),(2,1)]:=by decide+kernel
theorem yqs:yag trS trM 0=true:=by decide+kernel
theorem y1s:badO trS trM=some 1:=by decide+kernel
end Go.Proofs.YtjpnnnognoaaiaaDoor
set_option linter.unusedSimpArgs false
set_option linter.unusedVariables false
namespace Go.Proofs.YtjpnnnognoaaiaaDoor
open Go Go.RowKit
set_option maxRecDepth 100000
set_option maxHeartbeats 8000000
theorem ym4:Fn Tryd.prog 17 [] (dgA trS trM 0):=by
 refine Fn.introL [.cell 0 24] Tryd.func17 rfl rfl (by decide) (by simp [Tryd.ntmps17]) ?_;rw [Tryd.ntmps17]
 repeat' (first|omega|(try apply yaa);simp only [go_sem,sevalprocAttr]|apply yab<;>(intro h_;(try simp only [h_]);revert h_)|apply And.intro|with_reducible intro h_|trivial|simp only [go_sem,la2];omega)
 all_goals exact LeA.refl _
theorem yqt (s m:List Int) (L:Int) (p:List (Int×Int)) (n:Nat) (hv:yag s m L=true) (h0:0<s.length) (h1:s.length<=14) (hr:rsM n s m L=some p):Fn Tryd.prog 6 [dgA s m L] (.tup [plA false p,I 0]):=by
 have hV:=ybs s m L
 rw [hv] at hV
 have hR:=ylg n s m L p hr
 have b0:((s.length:Int)==0)=false:=by simp;intro e;subst e;simp at h0
 have b1:decide ((14:Int)<s.length)=false:=by simp;omega
 refine Fn.introL [.cell 2 29, .tmp 3] Tryd.func6 rfl rfl (by decide) (by simp [Tryd.ntmps6]) ?_;rw [Tryd.ntmps6]
 repeat' (first|omega|(try apply yaa);simp only [go_sem,sevalprocAttr,b0,b1]|apply yab<;>(intro h_;(try simp only [h_]);revert h_)|apply And.intro|with_reducible intro h_|trivial|simp only [go_sem,la2];omega)
 all_goals refine ⟨yae.fn rfl hV ?_⟩
 all_goals (repeat' (first|omega|(try apply yaa);simp only [go_sem,sevalprocAttr,b0,b1]|apply yab<;>(intro h_;(try simp only [h_]);revert h_)|apply And.intro|with_reducible intro h_|trivial|simp only [go_sem,la2];omega))
 all_goals refine ⟨yae.fn rfl hR ?_⟩
 all_goals (repeat' (first|omega|(try apply yaa);simp only [go_sem,sevalprocAttr,b0,b1]|apply yab<;>(intro h_;(try simp only [h_]);revert h_)|apply And.intro|with_reducible intro h_|trivial|simp only [go_sem,la2];omega))
 all_goals exact LeA.refl _
theorem y1t (hT:Fn Tryd.prog 19 [plA false [(0,1),(2,1)], .str ⟨#[122]⟩] (.str ⟨#[49,43,122,94,50]⟩)):Fn Tryd.prog 4 [] (.bool true):=by
 have hP:=yqt trS trM 0 _ 8 yqs (by decide) (by decide) y46
 have hD:=yje trS trM 0
 unfold ym1 at hD
 rw [yqs,y1s] at hD
 simp only [if_true] at hD
 refine Fn.introL [.tmp 0] Tryd.func4 rfl rfl (by decide) (by simp [Tryd.ntmps4]) ?_;rw [Tryd.ntmps4]
 repeat' (first|omega|(try apply yaa);simp only [go_sem,sevalprocAttr]|apply yab<;>(intro h_;(try simp only [h_]);revert h_)|apply And.intro|with_reducible intro h_|trivial|simp only [go_sem,la2];omega)
 all_goals refine ⟨yae.fn rfl ym4 ?_⟩
 all_goals (repeat' (first|omega|(try apply yaa);simp only [go_sem,sevalprocAttr]|apply yab<;>(intro h_;(try simp only [h_]);revert h_)|apply And.intro|with_reducible intro h_|trivial|simp only [go_sem,la2];omega))
 all_goals refine ⟨yae.fn rfl hP ?_⟩
 all_goals (repeat' (first|omega|(try apply yaa);simp only [go_sem,sevalprocAttr]|apply yab<;>(intro h_;(try simp only [h_]);revert h_)|apply And.intro|with_reducible intro h_|trivial|simp only [go_sem,la2];omega))
 all_goals refine ⟨yae.fn rfl ym4 ?_⟩
 all_goals (repeat' (first|omega|(try apply yaa);simp only [go_sem,sevalprocAttr]|apply yab<;>(intro h_;(try simp only [h_]);revert h_)|apply And.intro|with_reducible intro h_|trivial|simp only [go_sem,la2];omega))
 all_goals refine ⟨yae.fn rfl hD ?_⟩
 all_goals (repeat' (first|omega|(try apply yaa);simp only [go_sem,sevalprocAttr]|apply yab<;>(intro h_;(try simp only [h_]);revert h_)|apply And.intro|with_reducible intro h_|trivial|simp only [go_sem,la2];omega))
 all_goals refine ⟨yae.fn rfl hT ?_⟩
 all_goals (repeat' (first|omega|(try apply yaa);simp only [go_sem,sevalprocAttr]|apply yab<;>(intro h_;(try simp only [h_]);revert h_)|apply And.intro|with_reducible intro h_|trivial|simp only [go_sem,la2];omega))
 all_goals exact LeA.refl _
end Go.Proofs.YtjpnnnognoaaiaaDoor
